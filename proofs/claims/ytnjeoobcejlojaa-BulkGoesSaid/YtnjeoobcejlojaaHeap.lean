/- The persistent part of the heap, contracts over it, and regions that draw their order. Conditions: each law's own premises. -/
import Derived.Test.YtnjeoobcejlojaaOps
namespace Go.Proofs.Ytnjeoobcejlojaa
open Go.RowKit
set_option linter.unusedVariables false
set_option linter.unusedSimpArgs false

/-! ### A persistent part of the heap -/
abbrev HF := Nat → Option Obj
structure Sub (H : HF) (w : World) : Prop where
  out : ∀ b o, H b = some o → w.heap[b]? = some o
def HLe (H H' : HF) : Prop := ∀ b o, H b = some o → H' b = some o
theorem HLe.refl (H : HF) : HLe H H := fun _ _ h => h
theorem HLe.trans {H H' H'' : HF} (h : HLe H H') (k : HLe H' H'') : HLe H H'' := fun b o e => k b o (h b o e)
structure Grow (H : HF) (w : World) (H' : HF) (w' : World) : Prop where
  below : Below w.heap.size w w'
  sub : Sub H' w'
  le : HLe H H'
  old : ∀ b, b < w.heap.size → H' b = H b
theorem Sub.lt {H : HF} {w : World} (h : Sub H w) {b : Nat} {o : Obj} (e : H b = some o) : b < w.heap.size :=
  (Array.getElem?_eq_some_iff.1 (h.out b o e)).1
theorem Grow.refl {H : HF} {w : World} (h : Sub H w) : Grow H w H w := ⟨Below.refl _ _, h, HLe.refl _, fun _ _ => rfl⟩
theorem Grow.trans {H H' H'' : HF} {w w' w'' : World} (h : Grow H w H' w') (k : Grow H' w' H'' w'') : Grow H w H'' w'' :=
  ⟨h.below.trans (k.below.mono h.below.size), k.sub, h.le.trans k.le, fun b hb => (k.old b (Nat.lt_of_lt_of_le hb h.below.size)).trans (h.old b hb)⟩
theorem Grow.subOld {H H' : HF} {w w' : World} (h : Grow H w H' w') : Sub H w' := ⟨fun b o e => h.sub.out b o (h.le b o e)⟩
def ins (H : HF) (b : Nat) (o : Obj) : HF := fun x => if x = b then some o else H x
theorem ins_self (H : HF) (b : Nat) (o : Obj) : ins H b o b = some o := by simp [ins]
theorem ins_other {H : HF} {b x : Nat} {o : Obj} (h : x ≠ b) : ins H b o x = H x := by simp [ins, h]
theorem heap_alloc_self (w : World) (o : Obj) : (w.alloc o).heap[w.heap.size]? = some o := by show (w.heap.push o)[w.heap.size]? = _; simp
theorem Grow.alloc {H : HF} {w : World} (h : Sub H w) (o : Obj) : Grow H w (ins H w.heap.size o) (w.alloc o) := by
  refine ⟨(Below.refl _ w).alloc (Nat.le_refl _) o, ⟨fun b o' e => ?_⟩, fun b o' e => ?_, fun b hb => ins_other (by omega)⟩
  · by_cases hb : b = w.heap.size
    · subst hb
      rw [ins_self] at e
      rw [heap_alloc_self]; exact e
    · rw [ins_other hb] at e
      rw [Below.heap_alloc w o b (h.lt e)]
      exact h.out b o' e
  · rw [ins_other (by have := h.lt e; omega)]; exact e
theorem Grow.drew {H : HF} {w : World} (h : Sub H w) : Grow H w H w.drew := ⟨(Below.refl _ w).drew, ⟨h.out⟩, HLe.refl _, fun _ _ => rfl⟩
theorem Sub.drew {H : HF} {w : World} (h : Sub H w) : Sub H w.drew := ⟨h.out⟩
/-- A new block that stays out of the persistent part. -/
theorem Grow.allocMut {H : HF} {w : World} (h : Sub H w) (o : Obj) : Grow H w H (w.alloc o) :=
  ⟨(Below.refl _ w).alloc (Nat.le_refl _) o, ⟨fun b o' e => by rw [Below.heap_alloc w o b (h.lt e)]; exact h.out b o' e⟩, HLe.refl _, fun _ _ => rfl⟩
theorem Sub.fresh {H : HF} {w : World} (h : Sub H w) {b : Nat} (hb : w.heap.size ≤ b) : H b = none := by
  cases e : H b with
  | none => rfl
  | some o => exact absurd (h.lt e) (by omega)
theorem Sub.cell {H : HF} {w : World} (h : Sub H w) {b o : Nat} {c : Array Value} {E : TypeId} {fr : Nat × Nat} {v : Value} (hb : H b = some (.cells c E fr)) (hc : c[o]? = some v) : w.cell? ⟨b, o, none⟩ = some v := by
  simp [World.cell?, h.out _ _ hb, hc]

/-! ### What a literal's parts make -/
theorem set_run (off : Nat) : ∀ (l : List Value) (s : Nat) (a : Array Value), off + s + l.length ≤ a.size →
    ((l.zipIdx s).foldl (fun cs p => cs.setIfInBounds (off + p.2) p.1) a).size = a.size ∧
    ∀ k, ((l.zipIdx s).foldl (fun cs p => cs.setIfInBounds (off + p.2) p.1) a)[k]? = if off + s ≤ k ∧ k < off + s + l.length then l[k - (off + s)]? else a[k]?
  | [], s, a, _ => ⟨rfl, fun k => by simp only [List.zipIdx_nil, List.foldl_nil, List.length_nil]; rw [if_neg (by omega)]⟩
  | v :: l, s, a, h => by
    simp only [List.length_cons] at h
    simp only [List.zipIdx_cons, List.foldl_cons, List.length_cons]
    obtain ⟨h1, h2⟩ := set_run off l (s + 1) (a.setIfInBounds (off + s) v) (by simp; omega)
    refine ⟨by rw [h1]; simp, fun k => ?_⟩
    rw [h2]
    by_cases e : k = off + s
    · subst e
      rw [if_neg (by omega), if_pos (by omega)]
      rw [Array.getElem?_setIfInBounds, if_pos rfl, if_pos (by omega)]
      simp
    · by_cases e2 : off + (s + 1) ≤ k ∧ k < off + (s + 1) + l.length
      · rw [if_pos e2, if_pos (by omega)]
        rw [show k - (off + s) = (k - (off + (s + 1))) + 1 by omega]
        simp
      · rw [if_neg e2, if_neg (by omega)]
        simp [Array.getElem?_setIfInBounds, Ne.symm e]
theorem zip_foldl (a : Array Value) (cells : Array Value) (off : Nat) : a.zipIdx.foldl (fun cs (c, j) => cs.setIfInBounds (off + j) c) cells = (a.toList.zipIdx 0).foldl (fun cs p => cs.setIfInBounds (off + p.2) p.1) cells := by
  rw [← Array.foldl_toList]
  simp
/-- One part, which is all. -/
theorem fill_one {sz : Nat} {v : Value} {zs : Array Value} (hz : zs.size = sz) (hv : v.cells.size = sz) : Instr.fill (fun i => some (i * sz, sz)) zs [(0, v)] = some v.cells := by
  simp only [Instr.fill, Nat.zero_mul]
  rw [if_neg (by simp [hv, hz])]
  congr 1
  rw [zip_foldl]
  obtain ⟨h1, h2⟩ := set_run 0 v.cells.toList 0 zs (by simp; omega)
  apply Array.ext_getElem?
  intro k
  rw [h2]
  by_cases hk : k < v.cells.size
  · rw [if_pos (by simp; omega)]; simp
  · rw [if_neg (by simp; omega)]
    rw [Array.getElem?_eq_none (by omega), Array.getElem?_eq_none (by omega)]
def partVals : List (Nat × Value) → Nat → Option (List Value)
  | [], _ => some []
  | (i, v) :: ps, k => if i = k ∧ v.oneCell' = true then (partVals ps (k + 1)).map (v :: ·) else none
/-- One-cell parts, one after the other. -/
theorem fill_ones : ∀ (ps : List (Nat × Value)) (k : Nat) (zs : Array Value) (vs : List Value), partVals ps k = some vs → zs.size = k + vs.length →
    Instr.fill (fun i => some (i * 1, 1)) zs ps = some (zs.toList.take k ++ vs).toArray
  | [], k, zs, vs, h, hz => by
    simp [partVals] at h
    subst h
    simp at hz
    simp only [Instr.fill, List.append_nil]
    rw [List.take_of_length_le (by simp [hz])]
  | (i, v) :: ps, k, zs, vs, h, hz => by
    simp only [partVals] at h
    split at h
    · rename_i hc
      obtain ⟨rfl, hv⟩ := hc
      rw [Option.map_eq_some_iff] at h
      obtain ⟨vs', h1, rfl⟩ := h
      have hvc : v.cells = #[v] := by cases v <;> simp_all [Value.cells, Value.oneCell']
      simp only [List.length_cons] at hz
      simp only [Instr.fill, hvc]
      rw [if_neg (by simp; omega)]
      have e : (#[v].zipIdx.foldl (fun cs (c, j) => cs.setIfInBounds (i * 1 + j) c) zs) = zs.setIfInBounds i v := by rw [zip_foldl]; simp
      rw [e, fill_ones ps (i + 1) _ vs' h1 (by simp; omega)]
      congr 2
      rw [Array.toList_setIfInBounds, List.take_succ_eq_append_getElem (by simp; omega), List.append_assoc]
      rw [List.take_set_of_le (by omega)]
      simp
    · cases h
section
variable {P : Program} {r : Option Nat} {n : Nat} {f : Fr} {H : HF} {w : World} {K : Value → World → Prop} {d : Option Nat} {ty : TypeId} {pos : String} {af : Array Edge} {g : Option (Nat × Bool)} {T E : TypeId} {x y i : Operand} {k : FuncId} {s : Nat}
/-! ### Contracts -/
def Fn (P : Program) (k : FuncId) (args : List Value) (H : HF) (R : Value → HF → Prop) : Prop :=
  ∀ w, Sub H w → CallW P k args.toArray w fun v w' => ∃ H', Grow H w H' w' ∧ R v H'
theorem Fn.mono {k : FuncId} {args : List Value} {R R' : Value → HF → Prop} (h : Fn P k args H R) (hr : ∀ v H', HLe H H' → R v H' → R' v H') : Fn P k args H R' :=
  fun w hS => (h w hS).mono fun v w' ⟨H', hg, hR⟩ => ⟨H', hg, hr _ _ hg.le hR⟩
class FnCall (P : Program) (k : FuncId) : Prop where
  out : ∀ args w, (callFunc k args).run P w = .ok (.enter k args) w
theorem W_callW [FnCall P k] {args : Array Operand} {at_ : Array TypeId} {vs : List Value} (ha : args.toList.map (ev f) = vs) (hc : CallW P k vs.toArray w K) :
    OpW P r ⟨d, .call { callee := .value (.func k), args := args, argTypes := at_ }, ty, pos, af, g⟩ f w K := by
  have e : args.map (ev f) = vs.toArray := by
    rw [← ha]; apply Array.ext'; simp
  refine OpW_enter (args := vs.toArray) (k := k) (by simp) ?_ hc
  simp [execOp, resolve, ev, Deferred.ofValue, invoke, e, FnCall.out (P := P) (k := k)]
theorem W_call [FnCall P k] {args : Array Operand} {at_ : Array TypeId} {vs : List Value} {R : Value → HF → Prop} (hS : Sub H w) (ha : args.toList.map (ev f) = vs) (hc : Fn P k vs H R)
    (hk : ∀ v H' w', Grow H w H' w' → R v H' → K v w') :
    OpW P r ⟨d, .call { callee := .value (.func k), args := args, argTypes := at_ }, ty, pos, af, g⟩ f w K :=
  W_callW ha ((hc w hS).mono fun v w' ⟨H', hg, hR⟩ => hk v H' w' hg hR)
/-- A call of a function value. -/
theorem W_callV [FnCall P k] {fv : Operand} {fi ca : Array Value} {args : Array Operand} {at_ : Array TypeId} {vs : List Value} (hf : ev f fv = .func (.func k) fi ca) (ha : fi.toList ++ args.toList.map (ev f) ++ ca.toList = vs) (hc : CallW P k vs.toArray w K) :
    OpW P r ⟨d, .call { callee := .value fv, args := args, argTypes := at_ }, ty, pos, af, g⟩ f w K := by
  have e : fi ++ args.map (ev f) ++ ca = vs.toArray := by
    rw [← ha]; apply Array.ext'; simp
  refine OpW_enter (args := vs.toArray) (k := k) (by simp) ?_ hc
  simp only [execOp, resolve, hf, Deferred.ofValue, invoke, Sem.run_bind, Sem.run_pure, Result.andThen_ok, e, FnCall.out (P := P) (k := k)]

/-! ### Results -/
def ResW (P : Program) (rs : Array ResultVar) (f : Fr) (w : World) (v : Value) : Prop :=
  ∀ (n : Nat) (a : Act) (fn : Func), Rep n a f → fn.results = rs → (results fn a.tmps).run P w = .ok v w
theorem ResW_one {t : Nat} {v : Value} (h : f t = v) : ResW P #[.tmp t] f w v := by
  intro n a fn ha hr
  simp [results, hr, ha.at_, h]
theorem ResW_two {t u : Nat} {v1 v2 : Value} (h : f t = v1) (h2 : f u = v2) : ResW P #[.tmp t, .tmp u] f w (.tuple #[v1, v2]) := by
  intro n a fn ha hr
  simp [results, hr, ha.at_, h, h2]
theorem ResW_three {t u s : Nat} {v1 v2 v3 : Value} (h : f t = v1) (h2 : f u = v2) (h3 : f s = v3) : ResW P #[.tmp t, .tmp u, .tmp s] f w (.tuple #[v1, v2, v3]) := by
  intro n a fn ha hr
  simp [results, hr, ha.at_, h, h2, h3]
theorem ResW_zero : ResW P #[] f w (.tuple #[]) := by
  intro n a fn ha hr
  simp [results, hr]

/-- A function's end. -/
def Fin (P : Program) (rs : Array ResultVar) (R : Value → World → Prop) (f : Fr) (w : World) : Prop := ∃ v, ResW P rs f w v ∧ R v w
def fr0 (args : List Value) : Fr := fun t => args.getD t undef
theorem rep_fr0 (args : List Value) (n : Nat) (h : args.length ≤ n) : Rep n { tmps := args.toArray ++ Array.replicate (n - args.toArray.size) undef, defers := [] } (fr0 args) := by
  refine ⟨by simp; omega, fun t => ?_⟩
  simp only [fr0, Array.getD_eq_getD_getElem?, List.getD_eq_getElem?_getD]
  by_cases h1 : t < args.length
  · simp [Array.getElem?_append, h1]
  · simp only [List.getElem?_eq_none (by omega : args.length ≤ t), Option.getD_none]
    rw [Array.getElem?_append_right (by simp; omega)]
    simp [Array.getElem?_replicate]
    split <;> rfl
theorem CallW_of_CW {k : FuncId} {fn : Func} {body : Code} {rs : Array ResultVar} {args : List Value} {R : Value → World → Prop} (hf : P.funcs[k]? = some fn) (hb : fn.body = some body) (hn : fn.ntmps = n) (hr : fn.results = rs) (hl : Nat.ble args.length n = true)
    (h : CW P none n body (Fin P rs R) (Fin P rs R) (fun _ _ _ => False) (fr0 args) w) : CallW P k args.toArray w R := by
  refine callsIn_wide.1 (callsIn_of_wp (F := Fence.wide) (n := 0) hf hb trivial ?_)
  have h1 := h _ (rep_fr0 args n (Nat.le_of_ble_eq_true hl)) rfl
  rw [hn]
  refine wpIn_mono h1 ?_
  rintro e a' w' ⟨f', ds', hr', hd', hq⟩
  cases e <;> simp only [bodyPost] at hq ⊢
  · obtain ⟨rfl, v, h2, h3⟩ := hq
    exact ⟨hd', v, h2 n a' fn hr' hr, v, rfl, h3⟩
  · exact hq.2.elim
  · obtain ⟨rfl, v, h2, h3⟩ := hq
    exact ⟨hd', v, h2 n a' fn hr' hr, v, rfl, h3⟩
theorem Fn_of_CW {k : FuncId} {fn : Func} {body : Code} {rs : Array ResultVar} {args : List Value} {R : Value → HF → Prop} (hf : P.funcs[k]? = some fn) (hb : fn.body = some body) (hn : fn.ntmps = n) (hr : fn.results = rs) (hl : Nat.ble args.length n = true)
    (h : ∀ w, Sub H w → CW P none n body (Fin P rs fun v w' => ∃ H', Grow H w H' w' ∧ R v H') (Fin P rs fun v w' => ∃ H', Grow H w H' w' ∧ R v H') (fun _ _ _ => False) (fr0 args) w) : Fn P k args H R :=
  fun w hS => CallW_of_CW hf hb hn hr hl (h w hS)

/-! ### New memory that is never written again -/
theorem W_box {v : Value} (hS : Sub H w) (hx : ev f x = v) (hk : ∀ H' w' b, Grow H w H' w' → H' b = some (.cells v.cells T (0, 0)) → K (.pointer (some ⟨b, 0, none⟩)) w') : OpW P r ⟨d, .box T x, ty, pos, af, g⟩ f w K :=
  OpW_val (w' := w.alloc (.cells v.cells T (0, 0))) (by simp) (by simp [execOp, hx, Instr.box, newVar, newRow]) (hk _ _ _ (Grow.alloc hS _) (ins_self _ _ _))
theorem W_boxAgg {cs : Array Value} (hS : Sub H w) (hx : ev f x = .agg cs) (hk : ∀ H' w' b, Grow H w H' w' → H' b = some (.cells cs T (0, 0)) → K (.pointer (some ⟨b, 0, none⟩)) w') : OpW P r ⟨d, .box T x, ty, pos, af, g⟩ f w K :=
  W_box hS hx hk
/-- A slice literal; the parts lie in a new row. -/
theorem W_buildSlice [TySlice P T E] {sz : Nat} [TySize P E sz] {z : Value} [TyZero P E z] {len : Nat} {parts : Array (Nat × Operand)} {cs : Array Value} (hS : Sub H w) (hlen : len * sz ≤ 16777216)
    (hcs : Instr.fill (fun i => some (i * sz, sz)) ((Array.range (len * sz)).map (z.cells[· % z.cells.size]!)) (parts.toList.map fun p => (p.1, ev f p.2)) = some cs)
    (hk : ∀ H' w' b, Grow H w H' w' → H' b = some (.cells cs E (0, 0)) → w.heap.size = b → w' = w.alloc (.cells cs E (0, 0)) → K (.slice (some ⟨b, 0, none⟩) len len) w') : OpW P r ⟨d, .buildSlice T len parts, ty, pos, af, g⟩ f w K := by
  refine OpW_val (v := .slice (some ⟨w.heap.size, 0, none⟩) len len) (w' := w.alloc (.cells cs E (0, 0))) (by simp) ?_ (hk _ _ _ (Grow.alloc hS _) (ins_self _ _ _) rfl rfl)
  have h1 : ¬ 16777216 < len * sz := by omega
  have e : (parts.map fun p => (p.1, ev f p.2)).toList = parts.toList.map fun p => (p.1, ev f p.2) := by simp
  have e2 : (Array.range (len * sz)).map (fun x => z.cells[x % z.cells.size]!) = (Array.range (len * sz)).map (z.cells[· % z.cells.size]!) := rfl
  rcases Nat.eq_zero_or_pos (len * sz) with h0 | h0
  · have hcs' := hcs
    rw [h0] at hcs'
    simp only [Array.range_zero', Array.map_empty] at hcs'
    simp [execOp, Instr.buildSlice, run_underlying (TySlice.out (P := P) (T := T)), TySize.size (P := P) (T := E), h0, Array.range_zero', hcs', newRow]
  · have h2 : ¬ len * sz = 0 := by omega
    simp only [execOp, Instr.buildSlice, Sem.run_bind, run_underlying (TySlice.out (P := P) (T := T)), Result.andThen_ok, TySize.size (P := P) (T := E)]
    simp only [show ¬ len * sz > 2 ^ 24 by omega, if_false, h2, Sem.run_bind, TyZero.out (P := P) (T := E), Result.andThen_ok, Sem.run_pure, e, hcs]
    simp [newRow]

/-- One element of a struct type, or of a one-cell type. -/
theorem W_build1 [TySlice P T E] {sz : Nat} [TySize P E sz] {z : Value} [TyZero P E z] {x : Operand} {v : Value} (hS : Sub H w) (hsz : sz ≤ 16777216) (hx : ev f x = v) (hv : v.cells.size = sz)
    (hk : ∀ H' w' b, Grow H w H' w' → H' b = some (.cells v.cells E (0, 0)) → w.heap.size = b → w' = w.alloc (.cells v.cells E (0, 0)) → K (.slice (some ⟨b, 0, none⟩) 1 1) w') : OpW P r ⟨d, .buildSlice T 1 #[(0, x)], ty, pos, af, g⟩ f w K :=
  W_buildSlice hS (by omega) (by
    simp only [List.map_cons, List.map_nil, hx]
    exact fill_one (by simp) hv) hk
theorem W_buildOnes [TySlice P T E] [TySize P E 1] {z : Value} [TyZero P E z] {len : Nat} {parts : Array (Nat × Operand)} {vs : List Value} (hS : Sub H w) (hlen : len ≤ 16777216) (hp : partVals (parts.toList.map fun p => (p.1, ev f p.2)) 0 = some vs) (hl : vs.length = len)
    (hk : ∀ H' w' b, Grow H w H' w' → H' b = some (.cells vs.toArray E (0, 0)) → w.heap.size = b → w' = w.alloc (.cells vs.toArray E (0, 0)) → K (.slice (some ⟨b, 0, none⟩) len len) w') : OpW P r ⟨d, .buildSlice T len parts, ty, pos, af, g⟩ f w K :=
  W_buildSlice hS (by omega) (by
    have := fill_ones _ 0 ((Array.range (len * 1)).map (z.cells[· % z.cells.size]!)) vs hp (by simp [hl])
    simpa using this) hk

/-! ### Regions that draw their order -/
def memb (t : Nat) : List Nat → Bool
  | [] => false
  | a :: l => bif Nat.beq t a then true else memb t l
theorem memb_eq (t : Nat) (l : List Nat) : memb t l = l.elem t := by
  induction l with
  | nil => rfl
  | cons a l ih =>
    simp only [memb, List.elem_cons, ih]
    by_cases e : t = a
    · subst e; simp
    · have h1 : Nat.beq t a = false := by cases hh : Nat.beq t a; rfl; exact absurd (Nat.eq_of_beq_eq_true hh) e
      have h2 : (t == a) = false := by simp [e]
      rw [h1, h2]; rfl
def over (D : List Nat) (u f : Fr) : Fr := fun t => bif memb t D then u t else f t
def dstsOf : List Oper → List Nat
  | [] => []
  | o :: os => match o.dst with | some d => d :: dstsOf os | none => dstsOf os
abbrev Fact := Value → HF → Prop
def factAt (Φ : List Fact) (i : Nat) : Fact := Φ.getD i fun _ _ => True
/-- What is known of the operations that stand ahead by an edge: their values lie in the frame. -/
def DepGo (Φ : List Fact) (Ds : List (Option Nat)) (H : HF) (K : Fr → Prop) : List Edge → Fr → Prop
  | [], f => K f
  | e :: es, f => bif Region.binds .any e then (match Ds.getD e.on none with | some d => ∀ v, factAt Φ e.on v H → DepGo Φ Ds H K es (upd f d v) | none => DepGo Φ Ds H K es f) else DepGo Φ Ds H K es f
/-- One operation's duty. 'G c': the world behind c effects. -/
def StepAny (P : Program) (r : Option Nat) (G : Nat → HF → World → Prop) (Φ : List Fact) (ops : Array Oper) (Ds : List (Option Nat)) (D : List Nat) (f0 : Fr) (o : Oper) (φ : Fact) : Option Nat → Prop
  | none => ∀ (c : Nat) (u : Fr) (H : HF) (w : World), G c H w → DepGo Φ Ds H (fun f =>
      if wantF ops o f then OpW P r o f w (fun v w' => ∃ H', HLe H H' ∧ G c H' w' ∧ ∀ H'', HLe H' H'' → φ v H'') else ∀ H'', HLe H H'' → φ undef H'') o.after.toList (over D u f0)
  | some c => ∀ (u : Fr) (H : HF) (w : World), G c H w → DepGo Φ Ds H (fun f =>
      if wantF ops o f then OpW P r o f w (fun v w' => ∃ H', HLe H H' ∧ G (c + 1) H' w' ∧ ∀ H'', HLe H' H'' → φ v H'') else False) o.after.toList (over D u f0)
def StepsAny (P : Program) (r : Option Nat) (G : Nat → HF → World → Prop) (Φ : List Fact) (ops : Array Oper) (Ds : List (Option Nat)) (D : List Nat) (f0 : Fr) : List Oper → List Fact → List (Option Nat) → Prop
  | o :: os, φ :: φs, e :: es => StepAny P r G Φ ops Ds D f0 o φ e ∧ StepsAny P r G Φ ops Ds D f0 os φs es
  | [], [], [] => True
  | _, _, _ => False
theorem steps_cons {G : Nat → HF → World → Prop} {Φ : List Fact} {ops : Array Oper} {Ds : List (Option Nat)} {D : List Nat} {f0 : Fr} {o : Oper} {os : List Oper} {φ : Fact} {φs : List Fact} {e : Option Nat} {es : List (Option Nat)}
    (h1 : StepAny P r G Φ ops Ds D f0 o φ e) (h2 : StepsAny P r G Φ ops Ds D f0 os φs es) : StepsAny P r G Φ ops Ds D f0 (o :: os) (φ :: φs) (e :: es) := ⟨h1, h2⟩
def FinAny (Q : Fr → World → Prop) (H : HF) (w : World) : List Oper → List Fact → Fr → Prop
  | o :: os, φ :: φs, f => match o.dst with | some d => ∀ v, φ v H → FinAny Q H w os φs (upd f d v) | none => FinAny Q H w os φs f
  | _, _, f => Q f w
def edgesOk (ops : Array Oper) : Bool := (ops.toList.zipIdx).all fun (o, i) => o.after.toList.all fun e => !Region.binds .any e || Nat.blt e.on i
def effOk (ops : Array Oper) (es : List (Option Nat)) : Bool :=
  (ops.toList.zip es).all fun (o, e) => match e with
    | none => true
    | some 0 => true
    | some (c + 1) => o.after.toList.any fun a => Region.binds .any a && decide (es.getD a.on none = some c)
def effUniq (es : List (Option Nat)) : Bool := (es.filterMap id).Nodup
theorem stepsAny_at {G : Nat → HF → World → Prop} {Φ : List Fact} {ops : Array Oper} {Ds : List (Option Nat)} {D : List Nat} {f0 : Fr} : ∀ (os : List Oper) (φs : List Fact) (es : List (Option Nat)), StepsAny P r G Φ ops Ds D f0 os φs es →
    os.length = φs.length ∧ os.length = es.length ∧ ∀ (i : Nat) (o : Oper) (φ : Fact) (e : Option Nat), os[i]? = some o → φs[i]? = some φ → es[i]? = some e → StepAny P r G Φ ops Ds D f0 o φ e
  | [], [], [], _ => ⟨rfl, rfl, fun i o φ e h => by simp at h⟩
  | o :: os, φ :: φs, e :: es, h => by
    obtain ⟨h1, h2, h3⟩ := stepsAny_at os φs es h.2
    refine ⟨by simp [h1], by simp [h2], fun i o' φ' e' ho hφ he => ?_⟩
    cases i with
    | zero =>
      simp at ho hφ he
      subst ho hφ he
      exact h.1
    | succ i => exact h3 i o' φ' e' (by simpa using ho) (by simpa using hφ) (by simpa using he)
  | [], _ :: _, _, h => by cases h
  | [], [], _ :: _, h => by cases h
  | _ :: _, [], _, h => by cases h
  | _ :: _, _ :: _, [], h => by cases h
theorem upd_over_same {D : List Nat} {u f0 : Fr} {d : Nat} (hd : d ∈ D) : upd (over D u f0) d (u d) = over D u f0 := by
  funext t
  simp only [upd, over, memb_eq]
  by_cases ht : t = d
  · subst ht
    have h1 : D.elem t = true := by simpa using hd
    rw [h1]; simp
  · have h3 : Nat.beq t d = false := by cases hh : Nat.beq t d; rfl; exact absurd (Nat.eq_of_beq_eq_true hh) ht
    rw [h3]; rfl
theorem depGo_of {Φ : List Fact} {Ds : List (Option Nat)} {D : List Nat} {u f0 : Fr} {H : HF} {K : Fr → Prop} (hD : ∀ (j d : Nat), Ds[j]? = some (some d) → d ∈ D) : ∀ (es : List Edge),
    (∀ e ∈ es, Region.binds .any e = true → ∀ d, Ds[e.on]? = some (some d) → factAt Φ e.on (u d) H) → DepGo Φ Ds H K es (over D u f0) → K (over D u f0)
  | [], _, h => h
  | e :: es, hf, h => by
    have ih := depGo_of (K := K) (f0 := f0) hD es (fun e' he' => hf e' (by simp [he']))
    simp only [DepGo] at h
    cases hb : Region.binds .any e with
    | false => rw [hb] at h; exact ih h
    | true =>
      rw [hb] at h
      simp only [cond_true] at h
      cases hd : Ds.getD e.on none with
      | none => rw [hd] at h; exact ih h
      | some d =>
        rw [hd] at h
        have hd2 : Ds[e.on]? = some (some d) := by
          rw [List.getD_eq_getElem?_getD] at hd
          cases h5 : Ds[e.on]? with
          | none => rw [h5] at hd; simp at hd
          | some x => rw [h5] at hd; simp at hd; rw [hd]
        have h1 := h (u d) (hf e (by simp) hb d hd2)
        rw [upd_over_same (hD _ _ hd2)] at h1
        exact ih h1
theorem fin_of {Q : Fr → World → Prop} {H : HF} {w : World} {u : Fr} : ∀ (os : List Oper) (φs : List Fact) (k : Nat) (f : Fr),
    (∀ i o, os[i]? = some o → ∀ d, o.dst = some d → factAt φs i (u d) H) → os.length = φs.length → FinAny Q H w os φs f → Q (over (dstsOf os) u f) w
  | [], [], _, f, _, _, h => by
    have : over (dstsOf []) u f = f := by funext t; simp [dstsOf, over, memb]
    rw [this]; exact h
  | o :: os, φ :: φs, k, f, hf, hl, h => by
    simp only [FinAny] at h
    cases hd : o.dst with
    | none =>
      rw [hd] at h
      have e : dstsOf (o :: os) = dstsOf os := by simp [dstsOf, hd]
      rw [e]
      exact fin_of os φs k f (fun i o' ho d hd' => hf (i + 1) o' (by simpa using ho) d hd') (by simpa using hl) h
    | some d =>
      rw [hd] at h
      have e : dstsOf (o :: os) = d :: dstsOf os := by simp [dstsOf, hd]
      have h1 := h (u d) (hf 0 o (by simp) d hd)
      have h2 := fin_of os φs k _ (fun i o' ho d hd' => hf (i + 1) o' (by simpa using ho) d hd') (by simpa using hl) h1
      have e2 : over (dstsOf (o :: os)) u f = over (dstsOf os) u (upd f d (u d)) := by
        funext t
        rw [e]
        simp only [over, memb_eq, List.elem_cons, upd]
        by_cases ht : t = d
        · subst ht; cases (dstsOf os).elem t <;> simp
        · have : (t == d) = false := by simp [ht]
          have h3 : Nat.beq t d = false := by cases hh : Nat.beq t d; rfl; exact absurd (Nat.eq_of_beq_eq_true hh) ht
          rw [this, h3]
          simp
      rw [e2]; exact h2
  | [], _ :: _, _, _, _, hl, _ => by simp at hl
  | _ :: _, [], _, _, _, hl, _ => by simp at hl

theorem over_put {D : List Nat} {u f0 : Fr} {d : Nat} (hd : d ∈ D) (v : Value) : upd (over D u f0) d v = over D (upd u d v) f0 := by
  funext t
  simp only [upd, over, memb_eq]
  by_cases ht : t = d
  · subst ht
    have h1 : D.elem t = true := by simpa using hd
    have h2 : Nat.beq t t = true := by simp
    rw [h1, h2]; rfl
  · have h3 : Nat.beq t d = false := by cases hh : Nat.beq t d; rfl; exact absurd (Nat.eq_of_beq_eq_true hh) ht
    simp [h3]
theorem mem_dsts {d : Nat} {os : List Oper} : ∀ {o : Oper}, o ∈ os → o.dst = some d → d ∈ dstsOf os := by
  induction os with
  | nil => intro o h; cases h
  | cons o os ih =>
    intro o' h hd
    rcases List.mem_cons.1 h with h | h
    · subst h; simp [dstsOf, hd]
    · have := ih h hd
      simp only [dstsOf]
      cases o.dst with
      | none => exact this
      | some d0 => exact List.mem_cons_of_mem _ this
theorem dst_inj : ∀ {os : List Oper}, (dstsOf os).Nodup → ∀ {i j : Nat} {o o' : Oper} {d : Nat}, os[i]? = some o → os[j]? = some o' → o.dst = some d → o'.dst = some d → i = j
  | [], _, i, j, o, o', d, h, _, _, _ => by simp at h
  | x :: os, hn, i, j, o, o', d, h1, h2, h3, h4 => by
    have hx : (dstsOf os).Nodup ∧ ∀ d, x.dst = some d → d ∉ dstsOf os := by
      simp only [dstsOf] at hn
      split at hn
      · rename_i d0 h0
        have := List.nodup_cons.1 hn
        exact ⟨this.2, fun d hd => by rw [h0] at hd; cases hd; exact this.1⟩
      · rename_i h0
        exact ⟨hn, fun d hd => by rw [h0] at hd; cases hd⟩
    cases i with
    | zero =>
      cases j with
      | zero => rfl
      | succ j =>
        simp at h1 h2
        subst h1
        exact absurd (mem_dsts (List.mem_of_getElem? h2) h4) (hx.2 d h3)
    | succ i =>
      cases j with
      | zero =>
        simp at h1 h2
        subst h2
        exact absurd (mem_dsts (List.mem_of_getElem? h1) h3) (hx.2 d h4)
      | succ j =>
        simp at h1 h2
        rw [dst_inj hx.1 h1 h2 h3 h4]
theorem mem_ready {ops : Array Oper} {listed : Array Bool} {i : Nat} (h : i ∈ Region.ready .any ops listed) :
    ∃ o, ops[i]? = some o ∧ listed.getD i true = false ∧ ∀ e ∈ o.after.toList, Region.binds .any e = true → listed.getD e.on false = true := by
  simp only [Region.ready, List.mem_filter, List.mem_range] at h
  obtain ⟨h1, h2⟩ := h
  have hi : ops[i]? = some ops[i] := Array.getElem?_eq_getElem h1
  rw [hi] at h2
  simp only [Option.map_some, Option.getD_some, Bool.and_eq_true, Bool.not_eq_true', Array.all_eq_true_iff_forall_mem, Bool.or_eq_true] at h2
  refine ⟨_, hi, h2.1, fun e he hb => ?_⟩
  rcases h2.2 e (by simpa using he) with h3 | h3
  · rw [hb] at h3; cases h3
  · exact h3
theorem ready_of {ops : Array Oper} {listed : Array Bool} {i : Nat} {o : Oper} (hi : ops[i]? = some o) (hl : listed.getD i true = false) (h : ∀ e ∈ o.after.toList, Region.binds .any e = true → listed.getD e.on false = true) : i ∈ Region.ready .any ops listed := by
  have h1 : i < ops.size := (Array.getElem?_eq_some_iff.1 hi).1
  simp only [Region.ready, List.mem_filter, List.mem_range]
  refine ⟨h1, ?_⟩
  rw [hi]
  simp only [Option.map_some, Option.getD_some, Bool.and_eq_true, Bool.not_eq_true', Array.all_eq_true_iff_forall_mem, Bool.or_eq_true]
  refine ⟨hl, fun e he => ?_⟩
  cases hb : Region.binds .any e with
  | false => exact .inl rfl
  | true => exact .inr (h e (by simpa using he) hb)
theorem edges_lt {ops : Array Oper} (h : edgesOk ops = true) {i : Nat} {o : Oper} (hi : ops[i]? = some o) : ∀ e ∈ o.after.toList, Region.binds .any e = true → e.on < i := by
  intro e he hb
  have h1 := List.all_eq_true.1 h (o, i) (by
    rw [List.mem_zipIdx_iff_getElem?]
    simpa using hi)
  have h2 := List.all_eq_true.1 h1 e he
  simp only [hb, Bool.not_true, Bool.false_or] at h2
  exact Nat.le_of_ble_eq_true h2
theorem all_listed {ops : Array Oper} (h : edgesOk ops = true) {listed : Array Bool} (hs : listed.size = ops.size) (hr : Region.ready .any ops listed = []) : ∀ i, i < ops.size → listed.getD i false = true := by
  intro i
  induction i using Nat.strongRecOn with
  | _ i ih =>
    intro hi
    have ho : ops[i]? = some ops[i] := Array.getElem?_eq_getElem hi
    cases hl : listed.getD i true with
    | true =>
      simp [Array.getD_eq_getD_getElem?, hs, hi] at hl ⊢
      exact hl
    | false =>
      have := ready_of (listed := listed) ho hl fun e he hb => ih e.on (edges_lt h ho e he hb) (by have := edges_lt h ho e he hb; omega)
      rw [hr] at this
      cases this

/-- What holds while the operations of such a region are carried out. -/
structure AnyInv (n : Nat) (d0 : List Deferred) (G : Nat → HF → World → Prop) (Φ : List Fact) (es : List (Option Nat)) (ops : Array Oper) (f0 : Fr) (listed : Array Bool) (a : Act) (w : World) : Prop where
  size : listed.size = ops.size
  def_ : a.defers = d0
  st : ∃ (u : Fr) (H : HF) (c : Nat), Rep n a (over (dstsOf ops.toList) u f0) ∧ G c H w ∧ (∀ (i k : Nat), es[i]? = some (some k) → (listed.getD i false = true ↔ k < c)) ∧
    ∀ (i : Nat) (o : Oper) (d : Nat), listed.getD i false = true → ops[i]? = some o → o.dst = some d → ∀ H', HLe H H' → factAt Φ i (u d) H'
theorem getD_set (l : Array Bool) (i j : Nat) (hi : i < l.size) (b : Bool) : (l.setIfInBounds i true).getD j b = if j = i then true else l.getD j b := by
  by_cases e : j = i
  · subst e
    simp [Array.getD_eq_getD_getElem?, hi]
  · simp [Array.getD_eq_getD_getElem?, e, Array.getElem?_setIfInBounds, Ne.symm e]
theorem region_any_core {rid : Nat} {ops : Array Oper} {Q' : Exit → Act → World → Prop} {Qn : Fr → World → Prop} {d0 : List Deferred} (hQ : ∀ a f w, Rep n a f → a.defers = d0 → Qn f w → Q' .normal a w) (G : Nat → HF → World → Prop) (Φ : List Fact) (es : List (Option Nat)) (Ds : List (Option Nat)) (D : List Nat)
    (hm : P.follows .mixedOrders = true) (hd : dstsOk n ops = true) (he : edgesOk ops = true) (hDs : ops.toList.map (·.dst) = Ds) (hD : dstsOf ops.toList = D) (hu : decide D.Nodup = true) (hef : effOk ops es = true) (heu : effUniq es = true)
    (h0 : G 0 H w.drew) (hst : StepsAny P r G Φ ops Ds D f ops.toList Φ es) (hfin : ∀ c H w, G c H w → (∀ (j k : Nat), es[j]? = some (some k) → k < c) → FinAny Qn H w ops.toList Φ f) : ∀ a, Rep n a f → a.defers = d0 → (Code.region rid ops true).wpIn (FW r) 0 P Q' a w := by
  subst hD
  subst hDs
  intro a ha hd0
  refine wpIn_region_any hm ?_
  obtain ⟨hl1, hl2, hsteps⟩ := stepsAny_at _ _ _ hst
  have hnd : (dstsOf ops.toList).Nodup := of_decide_eq_true hu
  have hget : ∀ i : Nat, ops.toList[i]? = ops[i]? := fun i => by simp
  have key : ∀ (fuel : Nat) (listed : Array Bool) (a : Act) (w : World), AnyInv n d0 G Φ es ops f listed a w → ops.size ≤ fuel + (listed.toList.filter id).length →
      wpAnyIn (FW r) 0 P .any ops Q' fuel listed a w := by
    intro fuel
    induction fuel with
    | zero =>
      intro listed a w hI hc
      have hall : ∀ i, i < ops.size → listed.getD i false = true := by
        have h1 : (listed.toList.filter id).length = listed.toList.length := by
          have := List.length_filter_le id listed.toList
          have h2 : listed.toList.length = ops.size := by simpa using hI.size
          omega
        have h3 := List.length_filter_eq_length_iff.1 h1
        intro i hi
        have h4 : i < listed.size := by rw [hI.size]; exact hi
        simp [Array.getD_eq_getD_getElem?, h4]
        exact h3 _ (by simp)
      have hnil : Region.ready .any ops listed = [] := by
        apply List.eq_nil_iff_forall_not_mem.2
        intro i hi
        obtain ⟨o, ho, h1, _⟩ := mem_ready hi
        have h2 := hall i (Array.getElem?_eq_some_iff.1 ho).1
        have h3 : i < listed.size := by rw [hI.size]; exact (Array.getElem?_eq_some_iff.1 ho).1
        simp [Array.getD_eq_getD_getElem?, h3] at h1 h2
        rw [h1] at h2; cases h2
      refine ⟨hnil, ?_⟩
      obtain ⟨u, H, c, hr, hG, hcc, hf⟩ := hI.st
      refine hQ _ _ _ hr hI.def_ ?_
      have h2 := fin_of (u := u) ops.toList Φ 0 f (fun i o ho d hd' => hf i o d (hall i (by simpa using (List.getElem?_eq_some_iff.1 ho).1)) (by rw [← hget]; exact ho) hd' H (HLe.refl H)) hl1 (hfin c H w hG (fun j k hj => (hcc j k hj).1 (hall j (by have h9 := (List.getElem?_eq_some_iff.1 hj).1; rw [← hl2] at h9; simpa using h9))))
      exact h2
    | succ fuel ih =>
      intro listed a w hI hc
      obtain ⟨u, H, c, hr, hG, hcc, hf⟩ := hI.st
      refine ⟨fun hnil => ?_, fun i hi => ?_⟩
      · have hall := all_listed he hI.size hnil
        refine hQ _ _ _ hr hI.def_ ?_
        exact fin_of (u := u) ops.toList Φ 0 f (fun i o ho d hd' => hf i o d (hall i (by simpa using (List.getElem?_eq_some_iff.1 ho).1)) (by rw [← hget]; exact ho) hd' H (HLe.refl H)) hl1 (hfin c H w hG (fun j k hj => (hcc j k hj).1 (hall j (by have h9 := (List.getElem?_eq_some_iff.1 hj).1; rw [← hl2] at h9; simpa using h9))))
      · obtain ⟨o, ho, hno, hdeps⟩ := mem_ready hi
        have hlt : i < ops.size := (Array.getElem?_eq_some_iff.1 ho).1
        have hlt2 : i < listed.size := by rw [hI.size]; exact hlt
        have hno2 : listed.getD i false = false := by simp [Array.getD_eq_getD_getElem?, hlt2] at hno ⊢; exact hno
        have hφi : Φ[i]? = some (factAt Φ i) := by
          have : i < Φ.length := by rw [← hl1]; simpa using hlt
          simp [factAt, List.getD_eq_getElem?_getD, this]
        have hei : es[i]? = some (es.getD i none) := by
          have : i < es.length := by rw [← hl2]; simpa using hlt
          simp [List.getD_eq_getElem?_getD, this]
        have hstep := hsteps i o _ _ (by rw [hget]; exact ho) hφi hei
        have hDm : ∀ (j d : Nat), (ops.toList.map (·.dst))[j]? = some (some d) → d ∈ dstsOf ops.toList := by
          intro j d hj
          rw [List.getElem?_map, Option.map_eq_some_iff] at hj
          obtain ⟨o', ho', hd'⟩ := hj
          exact mem_dsts (List.mem_of_getElem? ho') hd'
        have hdep : ∀ e ∈ o.after.toList, Region.binds .any e = true → ∀ d, (ops.toList.map (·.dst))[e.on]? = some (some d) → factAt Φ e.on (u d) H := by
          intro e he' hb d hj
          rw [List.getElem?_map, Option.map_eq_some_iff] at hj
          obtain ⟨o', ho', hd'⟩ := hj
          exact hf e.on o' d (hdeps e he' hb) (by rw [← hget]; exact ho') hd' H (HLe.refl H)
        have hbo : ∀ d, o.dst = some d → d < n := fun d => dstsOk_spec hd o (List.mem_of_getElem? (by rw [hget]; exact ho)) d
        have hcount : ops.size ≤ fuel + ((listed.setIfInBounds i true).toList.filter id).length := by
          have hlen : ((listed.setIfInBounds i true).toList.filter id).length = (listed.toList.filter id).length + 1 := by
            rw [Array.toList_setIfInBounds]
            have hl : i < listed.toList.length := by simpa using hlt2
            have hv : listed.toList[i] = false := by simpa [Array.getD_eq_getD_getElem?, hlt2] using hno2
            rw [List.set_eq_take_append_cons_drop, if_pos hl]
            conv => rhs; rw [← List.take_append_drop i listed.toList, List.drop_eq_getElem_cons hl, hv]
            simp only [List.filter_append, List.length_append, List.filter_cons, id]
            simp
            omega
          omega
        -- what is known behind the operation
        have next : ∀ (v : Value) (w' : World) (H' : HF) (c' : Nat), HLe H H' → G c' H' w' → (∀ H'', HLe H' H'' → factAt Φ i v H'') →
            (∀ (j k : Nat), es[j]? = some (some k) → (((if j = i then true else listed.getD j false) = true) ↔ k < c')) → AnyInv n d0 G Φ es ops f (listed.setIfInBounds i true) (a.put o.dst v) w' := by
          intro v w' H' c' hle hG' hφ hcc'
          refine ⟨by simp [hI.size], (put_defers _ _ _).trans hI.def_, updO u o.dst v, H', c', ?_, hG', ?_, ?_⟩
          · have := hr.put o.dst hbo v
            cases hdst : o.dst with
            | none => rw [hdst] at this; exact this
            | some d =>
              rw [hdst] at this
              simp only [updO] at this
              rw [over_put (mem_dsts (List.mem_of_getElem? (by rw [hget]; exact ho)) hdst)] at this
              exact this
          · intro j k hj
            rw [getD_set _ _ _ hlt2]
            exact hcc' j k hj
          · intro j o' d' hj ho' hd' H'' hle''
            rw [getD_set _ _ _ hlt2] at hj
            by_cases e : j = i
            · subst e
              rw [ho] at ho'
              cases ho'
              have : updO u o.dst v d' = v := by
                rw [hd']
                have : Nat.beq d' d' = true := by simp
                simp [updO, upd, this]
              rw [this]
              exact hφ H'' hle''
            · rw [if_neg e] at hj
              have : updO u o.dst v d' = u d' := by
                cases h : o.dst with
                | none => rfl
                | some d =>
                  have hne : d' ≠ d := by
                    intro e2
                    subst e2
                    exact e (dst_inj hnd (i := j) (j := i) (by rw [hget]; exact ho') (by rw [hget]; exact ho) hd' h)
                  have : Nat.beq d' d = false := by cases hh : Nat.beq d' d; rfl; exact absurd (Nat.eq_of_beq_eq_true hh) hne
                  simp [updO, upd, this]
              rw [this]
              exact hf j o' d' hj ho' hd' H'' (hle.trans hle'')
        unfold wpOpIn
        simp only [ho]
        rw [wantF_eq hr]
        cases hee : es.getD i none with
        | none =>
          rw [hee] at hstep hei
          have hcc' : ∀ (j k : Nat), es[j]? = some (some k) → (((if j = i then true else listed.getD j false) = true) ↔ k < c) := by
            intro j k hj
            by_cases e : j = i
            · subst e; rw [hei] at hj; simp at hj
            · rw [if_neg e]; exact hcc j k hj
          have h2 := depGo_of hDm _ hdep (hstep c u H w hG)
          by_cases hw : wantF ops o (over (dstsOf ops.toList) u f) = true
          · simp only [hw, if_true] at h2 ⊢
            refine Oper.wpIn_mono ?_ (h2 a n hr _)
            rintro a' w' ⟨v, rfl, H', hle, hG', hφ⟩
            exact ih _ _ _ (next v w' H' c hle hG' hφ hcc') hcount
          · simp only [hw] at h2 ⊢
            exact ⟨fun _ _ => trivial, ih _ _ _ (next undef w H c (HLe.refl H) hG h2 hcc') hcount⟩
        | some k =>
          rw [hee] at hstep hei
          have hck : c = k := by
            have h1 := hcc i k hei
            rw [hno2] at h1
            have h2 : ¬ k < c := fun h => by have := h1.2 h; cases this
            cases k with
            | zero => omega
            | succ k =>
              have h3 := List.all_eq_true.1 hef (o, some (k + 1)) (by
                rw [List.mem_iff_getElem?]
                refine ⟨i, ?_⟩
                rw [List.getElem?_zip_eq_some]
                exact ⟨by rw [hget]; exact ho, hei⟩)
              simp only [List.any_eq_true, Bool.and_eq_true, decide_eq_true_eq] at h3
              obtain ⟨e, he', hb, hk⟩ := h3
              have h4 : es[e.on]? = some (some k) := by
                rw [List.getD_eq_getElem?_getD] at hk
                cases h5 : es[e.on]? with
                | none => rw [h5] at hk; simp at hk
                | some x => rw [h5] at hk; simp at hk; rw [hk]
              have h5 := (hcc e.on k h4).1 (hdeps e he' hb)
              omega
          subst hck
          have hcc' : ∀ (j k : Nat), es[j]? = some (some k) → (((if j = i then true else listed.getD j false) = true) ↔ k < c + 1) := by
            intro j k hj
            by_cases e : j = i
            · subst e; rw [hei] at hj; cases hj; simp
            · rw [if_neg e, hcc j k hj]
              have hne : k ≠ c := by
                intro e2
                subst e2
                have hn : (es.filterMap id).Nodup := of_decide_eq_true heu
                have : ∀ (l : List (Option Nat)), (l.filterMap id).Nodup → ∀ (i j : Nat), l[i]? = some (some k) → l[j]? = some (some k) → i = j := by
                  intro l
                  induction l with
                  | nil => intro _ i j h; simp at h
                  | cons x l ihl =>
                    intro hn i j h1 h2
                    have hmem : ∀ m, l[m]? = some (some k) → k ∈ l.filterMap id := fun m hm => List.mem_filterMap.2 ⟨some k, List.mem_of_getElem? hm, rfl⟩
                    have htail : (l.filterMap id).Nodup := by
                      cases x with
                      | none => simpa using hn
                      | some y => simp at hn; simpa using hn.2
                    cases i with
                    | zero =>
                      cases j with
                      | zero => rfl
                      | succ j =>
                        simp at h1 h2
                        subst h1
                        have := hmem j h2
                        simp only [List.filterMap_cons, id, List.nodup_cons] at hn
                        exact absurd this hn.1
                    | succ i =>
                      cases j with
                      | zero =>
                        simp at h1 h2
                        subst h2
                        have := hmem i h1
                        simp only [List.filterMap_cons, id, List.nodup_cons] at hn
                        exact absurd this hn.1
                      | succ j =>
                        simp at h1 h2
                        rw [ihl htail i j h1 h2]
                exact e (this es hn j i hj hei)
              omega
          have h2 := depGo_of hDm _ hdep (hstep u H w hG)
          by_cases hw : wantF ops o (over (dstsOf ops.toList) u f) = true
          · simp only [hw, if_true] at h2 ⊢
            refine Oper.wpIn_mono ?_ (h2 a n hr _)
            rintro a' w' ⟨v, rfl, H', hle, hG', hφ⟩
            exact ih _ _ _ (next v w' H' (c + 1) hle hG' hφ hcc') hcount
          · simp only [hw] at h2
            exact h2.elim
  refine key ops.size _ a w.drew ⟨by simp, hd0, f, H, 0, ?_, h0, ?_, ?_⟩ (by simp)
  · have : over (dstsOf ops.toList) f f = f := by funext t; simp [over]
    rw [this]; exact ha
  · intro i k hk
    have h1 : (Array.replicate ops.size false).getD i false = false := by simp [Array.getD_eq_getD_getElem?, Array.getElem?_replicate]; split <;> rfl
    rw [h1]
    simp
  · intro i o d hi
    have h1 : (Array.replicate ops.size false).getD i false = false := by simp [Array.getD_eq_getD_getElem?, Array.getElem?_replicate]; split <;> rfl
    rw [h1] at hi; cases hi

theorem CWD_region_any {rid : Nat} {ops : Array Oper} {Qn Qr : List Nat → Fr → World → Prop} {Qx : Nat → List Nat → Fr → World → Prop} {ds : List Nat} (G : Nat → HF → World → Prop) (Φ : List Fact) (es : List (Option Nat)) (Ds : List (Option Nat)) (D : List Nat)
    (hm : P.follows .mixedOrders = true) (hd : dstsOk n ops = true) (he : edgesOk ops = true) (hDs : ops.toList.map (·.dst) = Ds) (hD : dstsOf ops.toList = D) (hu : decide D.Nodup = true) (hef : effOk ops es = true) (heu : effUniq es = true)
    (h0 : G 0 H w.drew) (hst : StepsAny P r G Φ ops Ds D f ops.toList Φ es) (hfin : ∀ c H w, G c H w → (∀ (j k : Nat), es[j]? = some (some k) → k < c) → FinAny (Qn ds) H w ops.toList Φ f) : CWD P r n (.region rid ops true) Qn Qr Qx ds f w :=
  fun a ha hda => region_any_core (Qn := Qn ds) (fun a f w h1 h2 h3 => ⟨f, ds, h1, h2, h3⟩) G Φ es Ds D hm hd he hDs hD hu hef heu h0 hst hfin a ha hda
theorem CW_region_any {rid : Nat} {ops : Array Oper} {Qn Qr : Fr → World → Prop} {Qx : Nat → Fr → World → Prop} (G : Nat → HF → World → Prop) (Φ : List Fact) (es : List (Option Nat)) (Ds : List (Option Nat)) (D : List Nat)
    (hm : P.follows .mixedOrders = true) (hd : dstsOk n ops = true) (he : edgesOk ops = true) (hDs : ops.toList.map (·.dst) = Ds) (hD : dstsOf ops.toList = D) (hu : decide D.Nodup = true) (hef : effOk ops es = true) (heu : effUniq es = true)
    (h0 : G 0 H w.drew) (hst : StepsAny P r G Φ ops Ds D f ops.toList Φ es) (hfin : ∀ c H w, G c H w → (∀ (j k : Nat), es[j]? = some (some k) → k < c) → FinAny Qn H w ops.toList Φ f) : CW P r n (.region rid ops true) Qn Qr Qx f w :=
  fun a ha hda => region_any_core (Qn := Qn) (fun a f w h1 h2 h3 => ⟨f, [], h1, h2, rfl, h3⟩) G Φ es Ds D hm hd he hDs hD hu hef heu h0 hst hfin a ha hda

/-! ### Duties of single operations in such a region -/
section
variable {G : Nat → HF → World → Prop} {Φ : List Fact} {ops : Array Oper} {Ds : List (Option Nat)} {D : List Nat} {f0 : Fr} {t : Nat} {p : Op} {gd : Option (Nat × Bool)}
theorem depGo_nil {K : Fr → Prop} {f : Fr} (h : K f) : DepGo Φ Ds H K [] f := h
theorem depGo_eq {K : Fr → Prop} {e : Edge} {es : List Edge} {f : Fr} {d : Nat} {X : Value} (hb : Region.binds .any e = true) (hd : Ds.getD e.on none = some d) (hφ : factAt Φ e.on = fun v _ => v = X) (h : DepGo Φ Ds H K es (upd f d X)) : DepGo Φ Ds H K (e :: es) f := by
  simp only [DepGo, hb, cond_true, hd, hφ]
  intro v hv
  rw [hv]; exact h
theorem depGo_fact {K : Fr → Prop} {e : Edge} {es : List Edge} {f : Fr} {d : Nat} {φ : Fact} (hb : Region.binds .any e = true) (hd : Ds.getD e.on none = some d) (hφ : factAt Φ e.on = φ) (h : ∀ v, φ v H → DepGo Φ Ds H K es (upd f d v)) : DepGo Φ Ds H K (e :: es) f := by
  simp only [DepGo, hb, cond_true, hd, hφ]
  exact h
theorem depGo_skip {K : Fr → Prop} {e : Edge} {es : List Edge} {f : Fr} (hb : Region.binds .any e = false) (h : DepGo Φ Ds H K es f) : DepGo Φ Ds H K (e :: es) f := by
  simp only [DepGo, hb, cond_false]
  exact h
theorem depGo_none {K : Fr → Prop} {e : Edge} {es : List Edge} {f : Fr} (hd : Ds.getD e.on none = none) (h : DepGo Φ Ds H K es f) : DepGo Φ Ds H K (e :: es) f := by
  simp only [DepGo, hd]
  cases Region.binds .any e <;> exact h
theorem fin_eq {Q : Fr → World → Prop} {o : Oper} {os : List Oper} {φs : List Fact} {φ : Fact} {f : Fr} {d : Nat} {X : Value} (ho : o.dst = some d) (hφ : φ = fun v _ => v = X) (h : FinAny Q H w os φs (upd f d X)) : FinAny Q H w (o :: os) (φ :: φs) f := by
  simp only [FinAny, ho, hφ]
  intro v hv
  rw [hv]; exact h
theorem fin_fact {Q : Fr → World → Prop} {o : Oper} {os : List Oper} {φs : List Fact} {φ : Fact} {f : Fr} {d : Nat} (ho : o.dst = some d) (h : ∀ v, φ v H → FinAny Q H w os φs (upd f d v)) : FinAny Q H w (o :: os) (φ :: φs) f := by
  simp only [FinAny, ho]
  exact h
theorem fin_none {Q : Fr → World → Prop} {o : Oper} {os : List Oper} {φs : List Fact} {φ : Fact} {f : Fr} (ho : o.dst = none) (h : FinAny Q H w os φs f) : FinAny Q H w (o :: os) (φ :: φs) f := by
  simp only [FinAny, ho]
  exact h
theorem fin_nil {Q : Fr → World → Prop} {f : Fr} (h : Q f w) : FinAny Q H w [] [] f := h
theorem depGo_mono {K K' : Fr → Prop} (hk : ∀ f, K f → K' f) : ∀ (es : List Edge) (f : Fr), DepGo Φ Ds H K es f → DepGo Φ Ds H K' es f
  | [], f, h => hk f h
  | e :: es, f, h => by
    simp only [DepGo] at h ⊢
    cases hb : Region.binds .any e with
    | false => rw [hb] at h; exact depGo_mono hk es f h
    | true =>
      rw [hb] at h
      simp only [cond_true] at h ⊢
      cases hd : Ds.getD e.on none with
      | none => rw [hd] at h; exact depGo_mono hk es f h
      | some d => rw [hd] at h; exact fun v hv => depGo_mono hk es _ (h v hv)
/-- The operation yields one value, whatever the order, and leaves the world. -/
structure Pure1 (P : Program) (r : Option Nat) (o : Oper) (f : Fr) (w : World) (val : Value) : Prop where
  out : ∀ K : Value → World → Prop, K val w → OpW P r o f w K
structure Pure2 (P : Program) (r : Option Nat) (ops : Array Oper) (j : Nat) (b : Bool) (o : Oper) (f : Fr) (w : World) (val : Value) : Prop where
  want : yieldF ops f j = some b
  out : ∀ K : Value → World → Prop, K val w → OpW P r o f w K
structure Pass1 (ops : Array Oper) (j : Nat) (b : Bool) (f : Fr) : Prop where
  pass : yieldF ops f j = some (!b)
theorem A_pure {val : Value} (h : ∀ (c : Nat) (u : Fr) (H : HF) (w : World), G c H w → DepGo Φ Ds H (fun f => Pure1 P r ⟨some t, p, ty, pos, af, none⟩ f w val) af.toList (over D u f0)) :
    StepAny P r G Φ ops Ds D f0 ⟨some t, p, ty, pos, af, none⟩ (fun v _ => v = val) none := by
  intro c u H w hG
  refine depGo_mono ?_ _ _ (h c u H w hG)
  intro f hf
  have : wantF ops ⟨some t, p, ty, pos, af, none⟩ f = true := rfl
  rw [if_pos this]
  exact hf.out _ ⟨H, HLe.refl H, hG, fun _ _ => rfl⟩
/-- A guarded one that is wanted. -/
theorem A_want {val : Value} {j : Nat} {b : Bool} (h : ∀ (c : Nat) (u : Fr) (H : HF) (w : World), G c H w → DepGo Φ Ds H (fun f => Pure2 P r ops j b ⟨some t, p, ty, pos, af, some (j, b)⟩ f w val) af.toList (over D u f0)) :
    StepAny P r G Φ ops Ds D f0 ⟨some t, p, ty, pos, af, some (j, b)⟩ (fun v _ => v = val) none := by
  intro c u H w hG
  refine depGo_mono ?_ _ _ (h c u H w hG)
  rintro f ⟨hy, hf⟩
  have : wantF ops ⟨some t, p, ty, pos, af, some (j, b)⟩ f = true := by simp [wantF, hy]
  rw [if_pos this]
  exact hf _ ⟨H, HLe.refl H, hG, fun _ _ => rfl⟩
/-- A guarded one that is passed by. -/
theorem A_pass {j : Nat} {b : Bool} (h : ∀ (c : Nat) (u : Fr) (H : HF) (w : World), G c H w → DepGo Φ Ds H (fun f => Pass1 ops j b f) af.toList (over D u f0)) :
    StepAny P r G Φ ops Ds D f0 ⟨some t, p, ty, pos, af, some (j, b)⟩ (fun v _ => v = undef) none := by
  intro c u H w hG
  refine depGo_mono ?_ _ _ (h c u H w hG)
  rintro f ⟨hy⟩
  have : ¬ wantF ops ⟨some t, p, ty, pos, af, some (j, b)⟩ f = true := by simp [wantF, hy]
  rw [if_neg this]
  exact fun _ _ => rfl
/-- One that makes memory, or calls: its value is known by a fact. -/
theorem A_fact {φ : Fact} (h : ∀ (c : Nat) (u : Fr) (H : HF) (w : World), G c H w → DepGo Φ Ds H (fun f => OpW P r ⟨some t, p, ty, pos, af, none⟩ f w (fun v w' => ∃ H', HLe H H' ∧ G c H' w' ∧ ∀ H'', HLe H' H'' → φ v H'')) af.toList (over D u f0)) :
    StepAny P r G Φ ops Ds D f0 ⟨some t, p, ty, pos, af, none⟩ φ none := by
  intro c u H w hG
  refine depGo_mono ?_ _ _ (h c u H w hG)
  intro f hf
  have : wantF ops ⟨some t, p, ty, pos, af, none⟩ f = true := rfl
  rw [if_pos this]
  exact hf
theorem A_factG {φ : Fact} {j : Nat} {b : Bool} (h : ∀ (c : Nat) (u : Fr) (H : HF) (w : World), G c H w → DepGo Φ Ds H (fun f => yieldF ops f j = some b ∧ OpW P r ⟨some t, p, ty, pos, af, some (j, b)⟩ f w (fun v w' => ∃ H', HLe H H' ∧ G c H' w' ∧ ∀ H'', HLe H' H'' → φ v H'')) af.toList (over D u f0)) :
    StepAny P r G Φ ops Ds D f0 ⟨some t, p, ty, pos, af, some (j, b)⟩ φ none := by
  intro c u H w hG
  refine depGo_mono ?_ _ _ (h c u H w hG)
  rintro f ⟨hy, hf⟩
  have : wantF ops ⟨some t, p, ty, pos, af, some (j, b)⟩ f = true := by simp [wantF, hy]
  rw [if_pos this]
  exact hf
theorem A_eff {φ : Fact} {k : Nat} {gd : Option Nat} (h : ∀ (u : Fr) (H : HF) (w : World), G k H w → DepGo Φ Ds H (fun f => OpW P r ⟨gd, p, ty, pos, af, none⟩ f w (fun v w' => ∃ H', HLe H H' ∧ G (k + 1) H' w' ∧ ∀ H'', HLe H' H'' → φ v H'')) af.toList (over D u f0)) :
    StepAny P r G Φ ops Ds D f0 ⟨gd, p, ty, pos, af, none⟩ φ (some k) := by
  intro u H w hG
  refine depGo_mono ?_ _ _ (h u H w hG)
  intro f hf
  have : wantF ops ⟨gd, p, ty, pos, af, none⟩ f = true := rfl
  rw [if_pos this]
  exact hf
end
/-- The plain case: nothing that lay there turns. -/
theorem CW_region_grow {rid : Nat} {ops : Array Oper} {Qn Qr : Fr → World → Prop} {Qx : Nat → Fr → World → Prop} (Φ : List Fact) (es : List (Option Nat)) (Ds : List (Option Nat)) (D : List Nat)
    (hm : P.follows .mixedOrders = true) (hd : dstsOk n ops = true) (he : edgesOk ops = true) (hDs : ops.toList.map (·.dst) = Ds) (hD : dstsOf ops.toList = D) (hu : decide D.Nodup = true) (hes : es = ops.toList.map fun _ => none)
    (hS : Sub H w) (hst : StepsAny P r (fun _ H' w' => Grow H w H' w') Φ ops Ds D f ops.toList Φ es) (hfin : ∀ H' w', Grow H w H' w' → FinAny Qn H' w' ops.toList Φ f) : CW P r n (.region rid ops true) Qn Qr Qx f w := by
  refine CW_region_any (H := H) (fun _ H' w' => Grow H w H' w') Φ es Ds D hm hd he hDs hD hu ?_ ?_ (Grow.drew hS) hst (fun _ H' w' h _ => hfin H' w' h)
  · subst hes
    apply List.all_eq_true.2
    rintro ⟨o, e⟩ h
    have := (List.of_mem_zip h).2
    simp at this
    rw [← this.2]
  · subst hes
    have : (ops.toList.map fun _ => (none : Option Nat)).filterMap id = [] := by
      apply List.filterMap_eq_nil_iff.2
      intro a ha
      simp at ha
      exact ha.2.symm
    simp only [effUniq, this]
    rfl

theorem CWD_region_grow {rid : Nat} {ops : Array Oper} {Qn Qr : List Nat → Fr → World → Prop} {Qx : Nat → List Nat → Fr → World → Prop} {ds : List Nat} (Φ : List Fact) (es : List (Option Nat)) (Ds : List (Option Nat)) (D : List Nat)
    (hm : P.follows .mixedOrders = true) (hd : dstsOk n ops = true) (he : edgesOk ops = true) (hDs : ops.toList.map (·.dst) = Ds) (hD : dstsOf ops.toList = D) (hu : decide D.Nodup = true) (hes : es = ops.toList.map fun _ => none)
    (hS : Sub H w) (hst : StepsAny P r (fun _ H' w' => Grow H w H' w') Φ ops Ds D f ops.toList Φ es) (hfin : ∀ H' w', Grow H w H' w' → FinAny (Qn ds) H' w' ops.toList Φ f) : CWD P r n (.region rid ops true) Qn Qr Qx ds f w := by
  refine CWD_region_any (H := H) (fun _ H' w' => Grow H w H' w') Φ es Ds D hm hd he hDs hD hu ?_ ?_ (Grow.drew hS) hst (fun _ H' w' h _ => hfin H' w' h)
  · subst hes
    apply List.all_eq_true.2
    rintro ⟨o, e⟩ h
    have := (List.of_mem_zip h).2
    simp at this
    rw [← this.2]
  · subst hes
    have : (ops.toList.map fun _ => (none : Option Nat)).filterMap id = [] := by
      apply List.filterMap_eq_nil_iff.2
      intro a ha
      simp at ha
      exact ha.2.symm
    simp only [effUniq, this]
    rfl

/-! ### Regions with writes -/
def Closed (M : HF → World → Prop) : Prop := ∀ H w H' w', M H w → Grow H w H' w' → M H' w'
/-- Behind c effects; up to c0 of them M holds, from then on F. H0, w0: the call's beginning; Hr: the region's. -/
structure GE (H0 : HF) (w0 : World) (Hr : HF) (M F : HF → World → Prop) (c0 c : Nat) (H : HF) (w : World) : Prop where
  grow : Grow H0 w0 H w
  le : HLe Hr H
  m : c ≤ c0 → M H w
  f : c0 < c → F H w
  cm : Closed M
  cf : Closed F
section
variable {H0 Hr H H' : HF} {w0 w w' : World} {M F : HF → World → Prop} {c0 c : Nat}
theorem GE.sub (h : GE H0 w0 Hr M F c0 c H w) : Sub H w := h.grow.sub
theorem GE.subOld (h : GE H0 w0 Hr M F c0 c H w) : Sub Hr w := ⟨fun b o e => h.grow.sub.out b o (h.le b o e)⟩
theorem GE.trans (h : GE H0 w0 Hr M F c0 c H w) (k : Grow H w H' w') : GE H0 w0 Hr M F c0 c H' w' :=
  ⟨h.grow.trans k, h.le.trans k.le, fun hc => h.cm _ _ _ _ (h.m hc) k, fun hc => h.cf _ _ _ _ (h.f hc) k, h.cm, h.cf⟩
/-- The effect itself. -/
theorem GE.next (h : GE H0 w0 Hr M F c0 c0 H w) (hg : Grow H0 w0 H w') (hf : F H w') : GE H0 w0 Hr M F c0 (c0 + 1) H w' :=
  ⟨hg, h.le, fun hc => absurd hc (by omega), fun _ => hf, h.cm, h.cf⟩
theorem GE.pass (h : GE H0 w0 Hr M F c0 c H w) (hc : c < c0) : GE H0 w0 Hr M F c0 (c + 1) H w :=
  ⟨h.grow, h.le, fun _ => h.m (by omega), fun h2 => absurd h2 (by omega), h.cm, h.cf⟩
end
theorem CW_region_eff {H0 : HF} {w0 : World} {rid : Nat} {ops : Array Oper} {Qn Qr : Fr → World → Prop} {Qx : Nat → Fr → World → Prop} (M F : HF → World → Prop) (c0 : Nat) (Φ : List Fact) (es : List (Option Nat)) (Ds : List (Option Nat)) (D : List Nat)
    (hm : P.follows .mixedOrders = true) (hd : dstsOk n ops = true) (he : edgesOk ops = true) (hDs : ops.toList.map (·.dst) = Ds) (hD : dstsOf ops.toList = D) (hu : decide D.Nodup = true) (hef : effOk ops es = true) (heu : effUniq es = true)
    (hl : (es.any fun e => e == some c0) = true) (hG : Grow H0 w0 H w) (hM : M H w) (cm : Closed M) (cf : Closed F) (hst : StepsAny P r (GE H0 w0 H M F c0) Φ ops Ds D f ops.toList Φ es)
    (hfin : ∀ H' w', Grow H0 w0 H' w' → HLe H H' → F H' w' → FinAny Qn H' w' ops.toList Φ f) : CW P r n (.region rid ops true) Qn Qr Qx f w := by
  refine CW_region_any (H := H) (GE H0 w0 H M F c0) Φ es Ds D hm hd he hDs hD hu hef heu ⟨hG.trans (Grow.drew hG.sub), HLe.refl _, fun _ => cm _ _ _ _ hM (Grow.drew hG.sub), fun h => absurd h (by omega), cm, cf⟩ hst ?_
  intro c H' w' hG hc
  simp only [List.any_eq_true] at hl
  obtain ⟨e, he1, he2⟩ := hl
  obtain ⟨j, hj, hje⟩ := List.mem_iff_getElem.1 he1
  have hes : es[j]? = some (some c0) := by
    rw [List.getElem?_eq_getElem hj, hje]
    simpa using he2
  exact hfin H' w' hG.grow hG.le (hG.f (hc j c0 hes))
/-! ### Loops: what the round writes -/
def AgreeOff (M : List Nat) (f' f : Fr) : Prop := ∀ t, memb t M = false → f' t = f t
theorem AgreeOff.over {M : List Nat} {u f : Fr} : AgreeOff M (over M u f) f := fun t ht => by simp only [Go.Proofs.Ytnjeoobcejlojaa.over, ht, cond_false]
theorem AgreeOff.upd {M : List Nat} {f' f : Fr} {d : Nat} {v : Value} (hd : memb d M = true) (h : AgreeOff M f' f) : AgreeOff M (upd f' d v) f := fun t ht => by
  have : Nat.beq t d = false := by
    cases hh : Nat.beq t d
    · rfl
    · rw [Nat.eq_of_beq_eq_true hh] at ht; rw [ht] at hd; cases hd
  simp only [Go.Proofs.Ytnjeoobcejlojaa.upd, this, cond_false]; exact h t ht
theorem over_of_agree {M : List Nat} {f' f : Fr} (h : AgreeOff M f' f) : over M f' f = f' := by
  funext t
  cases ht : memb t M with
  | true => simp only [over, ht, cond_true]
  | false => simp only [over, ht, cond_false]; exact (h t ht).symm
theorem CW_loopM {c : Code} {Qn Qr : Fr → World → Prop} {Qx : Nat → Fr → World → Prop} (M : List Nat) (J : Nat → Fr → World → Prop) {m : Nat} (h0 : J m f w)
    (h : ∀ m u w', J m u w' → CW P r n c (fun f' w'' => AgreeOff M f' f ∧ ∃ m', m' < m ∧ J m' f' w'') Qr Qx (over M u f) w') : CW P r n (.loop c) Qn Qr Qx f w := by
  refine CW_loop (fun m f' w' => AgreeOff M f' f ∧ J m f' w') (m := m) ⟨fun _ _ => rfl, h0⟩ ?_
  rintro m f' w' ⟨ha, hJ⟩
  have h1 := h m f' w' hJ
  rw [over_of_agree ha] at h1
  exact CW_mono h1 (fun f2 w2 ⟨h2, m', h3, h4⟩ => ⟨m', h3, h2, h4⟩) (fun _ _ h => h) (fun _ _ _ h => h)
/-- With marks, where a round leaves none behind. -/
theorem CWD_loopM {c : Code} {Qn Qr : List Nat → Fr → World → Prop} {Qx : Nat → List Nat → Fr → World → Prop} {ds : List Nat} (M : List Nat) (J : Nat → List Nat → Fr → World → Prop) {m : Nat} (h0 : J m ds f w)
    (h : ∀ m ds u w', J m ds u w' → CWD P r n c (fun ds' f' w'' => AgreeOff M f' f ∧ ∃ m', m' < m ∧ J m' ds' f' w'') Qr Qx ds (over M u f) w') : CWD P r n (.loop c) Qn Qr Qx ds f w := by
  refine CWD_loop (fun m ds f' w' => AgreeOff M f' f ∧ J m ds f' w') (m := m) ⟨fun _ _ => rfl, h0⟩ ?_
  rintro m ds f' w' ⟨ha, hJ⟩
  have h1 := h m ds f' w' hJ
  rw [over_of_agree ha] at h1
  exact CWD_mono h1 (fun _ f2 w2 ⟨h2, m', h3, h4⟩ => ⟨m', h3, h2, h4⟩) (fun _ _ _ h => h) (fun _ _ _ _ h => h)
end
end Go.Proofs.Ytnjeoobcejlojaa
