/- Variables of the call's own that are written, and what calls turn. Conditions: each law's own premises. -/
import Derived.Test.YtnjeoobcejlojaaSl
import Derived.Laws.CopyRow
import Derived.Laws.Tables
import Derived.Laws.OwnMore
namespace Go.Proofs.Ytnjeoobcejlojaa
open Go.RowKit
set_option linter.unusedVariables false
set_option linter.unusedSimpArgs false

/-- A row in the world that is no part of the persistent heap. -/
structure Mut (H : HF) (w : World) (b : Nat) (cs : List Value) : Prop where
  out : H b = none
  at_ : ∃ T, w.heap[b]? = some (.cells cs.toArray T (0, 0))
theorem Mut.lt {H : HF} {w : World} {b : Nat} {cs : List Value} (h : Mut H w b cs) : b < w.heap.size := by
  obtain ⟨T, h1⟩ := h.at_
  exact (Array.getElem?_eq_some_iff.1 h1).1
/-- What a call turns: rows of S alone. -/
structure Turn (S : Nat → Prop) (H : HF) (w : World) (H' : HF) (w' : World) : Prop where
  os : w'.os = w.os
  tape : w'.tape = w.tape
  output : w'.output = w.output
  size : w.heap.size ≤ w'.heap.size
  block : ∀ k, k < w.heap.size → ¬ S k → w'.heap[k]? = w.heap[k]?
  sub : Sub H' w'
  le : HLe H H'
  old : ∀ b, b < w.heap.size → H' b = H b
theorem Turn.refl {S : Nat → Prop} {H : HF} {w : World} (h : Sub H w) : Turn S H w H w := ⟨rfl, rfl, rfl, Nat.le_refl _, fun _ _ _ => rfl, h, HLe.refl _, fun _ _ => rfl⟩
theorem Grow.turn {S : Nat → Prop} {H H' : HF} {w w' : World} (h : Grow H w H' w') : Turn S H w H' w' :=
  ⟨h.below.os, h.below.tape, h.below.output, h.below.size, fun k hk _ => h.below.block k hk, h.sub, h.le, h.old⟩
theorem Turn.trans {S : Nat → Prop} {H H' H'' : HF} {w w' w'' : World} (h : Turn S H w H' w') (k : Turn S H' w' H'' w'') : Turn S H w H'' w'' :=
  ⟨k.os.trans h.os, k.tape.trans h.tape, k.output.trans h.output, Nat.le_trans h.size k.size, fun j hj hs => (k.block j (Nat.lt_of_lt_of_le hj h.size) hs).trans (h.block j hj hs), k.sub, h.le.trans k.le,
    fun b hb => (k.old b (Nat.lt_of_lt_of_le hb h.size)).trans (h.old b hb)⟩
theorem Turn.wider {S S' : Nat → Prop} {H H' : HF} {w w' : World} (h : Turn S H w H' w') (hs : ∀ b, b < w.heap.size → S b → S' b) : Turn S' H w H' w' :=
  ⟨h.os, h.tape, h.output, h.size, fun k hk hn => h.block k hk (fun h2 => hn (hs k hk h2)), h.sub, h.le, h.old⟩
/-- Seen from the call's beginning, where the turned rows are its own. -/
theorem Turn.grow {S : Nat → Prop} {H0 H H' : HF} {w0 w w' : World} (hG : Grow H0 w0 H w) (h : Turn S H w H' w') (hs : ∀ b, S b → w0.heap.size ≤ b) : Grow H0 w0 H' w' :=
  ⟨⟨h.os.trans hG.below.os, h.tape.trans hG.below.tape, h.output.trans hG.below.output, Nat.le_trans hG.below.size h.size,
      fun k hk => (h.block k (Nat.lt_of_lt_of_le hk hG.below.size) (fun h2 => by have := hs k h2; omega)).trans (hG.below.block k hk)⟩, h.sub, hG.le.trans h.le,
    fun b hb => (h.old b (Nat.lt_of_lt_of_le hb hG.below.size)).trans (hG.old b hb)⟩
theorem Turn.grownBy {S : Nat → Prop} {H0 H : HF} {w0 w w' : World} {row : Option Nat} (hG : Turn S H0 w0 H w) (hg : w.grownBy w' row) (hr : ∀ g, row = some g → H g = none ∧ (w0.heap.size ≤ g ∨ S g)) : Turn S H0 w0 H w' :=
  ⟨hg.os.trans hG.os, hg.tape.trans hG.tape, hg.output.trans hG.output, Nat.le_trans hG.size hg.size, fun k hk hs => (hg.block k (Nat.lt_of_lt_of_le hk hG.size) (fun h => by
      rcases (hr k h.symm).2 with h2 | h2
      · omega
      · exact hs h2)).trans (hG.block k hk hs), hG.sub.grownBy hg fun g h => (hr g h).1, hG.le, hG.old⟩
theorem Turn.subOld {S : Nat → Prop} {H H' : HF} {w w' : World} (h : Turn S H w H' w') : Sub H w' := ⟨fun b o e => h.sub.out b o (h.le b o e)⟩
theorem Mut.turn {S : Nat → Prop} {H H' : HF} {w w' : World} {b : Nat} {cs : List Value} (h : Mut H w b cs) (hg : Turn S H w H' w') (hs : ¬ S b) : Mut H' w' b cs := by
  obtain ⟨T, h1⟩ := h.at_
  exact ⟨by rw [hg.old b h.lt]; exact h.out, T, by rw [hg.block b h.lt hs]; exact h1⟩
theorem Mut.grow {H H' : HF} {w w' : World} {b : Nat} {cs : List Value} (h : Mut H w b cs) (hg : Grow H w H' w') : Mut H' w' b cs :=
  h.turn (S := fun _ => False) hg.turn (fun h => h)
theorem Mut.other {H : HF} {w w' : World} {b : Nat} {cs : List Value} {row : Option Nat} (h : Mut H w b cs) (hg : w.grownBy w' row) (hr : row ≠ some b) : Mut H w' b cs := by
  obtain ⟨T, h1⟩ := h.at_
  exact ⟨h.out, T, by rw [hg.block b h.lt (fun e => hr e.symm)]; exact h1⟩
theorem Own.turn {S : Nat → Prop} {H H' : HF} {w w' : World} {B : Nat} {E : TypeId} {sz : Nat} {A : Option Addr} {n cap : Nat} {xs : List Value} (h : Own H w B E sz A n cap xs) (hg : Turn S H w H' w') (hs : ∀ a, A = some a → ¬ S a.block) : Own H' w' B E sz A n cap xs := by
  cases A with
  | none =>
    refine ⟨⟨h.row.1, ?_⟩, fun a ha => by cases ha⟩
    rcases h.row.2 with h2 | ⟨g, cap', cur, hv, _⟩
    · exact .inl h2
    · simp at hv
  | some a =>
    refine ⟨⟨h.row.1, ?_⟩, fun a' ha => ?_⟩
    · rcases h.row.2 with h2 | ⟨g, cap', cur, hv, h3, h4, h5⟩
      · exact .inl h2
      · refine .inr ⟨g, cap', cur, hv, h3, ?_, h5⟩
        have ha : a = ⟨g, 0, none⟩ := by simp at hv; exact hv.1
        subst ha
        rw [hg.block g (Array.getElem?_eq_some_iff.1 h4).1 (hs _ rfl)]; exact h4
    · cases ha
      rw [hg.old a.block (h.block rfl).2]; exact h.out a rfl
/-- A row of the call's own joins the persistent part. -/
theorem Mut.freezeT {S : Nat → Prop} {H0 H : HF} {w0 w : World} {b : Nat} {cs : List Value} (h : Mut H w b cs) (hG : Turn S H0 w0 H w) (hb : w0.heap.size ≤ b) :
    ∃ H' T, HLe H H' ∧ Turn S H0 w0 H' w ∧ H' b = some (.cells cs.toArray T (0, 0)) ∧ ∀ b', b' ≠ b → H' b' = H b' := by
  obtain ⟨T, h1⟩ := h.at_
  have hle : HLe H (ins H b (.cells cs.toArray T (0, 0))) := by
    intro b' o e
    rw [ins_other (by intro e2; subst e2; rw [h.out] at e; cases e)]; exact e
  refine ⟨ins H b (.cells cs.toArray T (0, 0)), T, hle, ⟨hG.os, hG.tape, hG.output, hG.size, hG.block, ⟨fun b' o e => ?_⟩, hG.le.trans hle, fun b' hb' => ?_⟩, ins_self _ _ _, fun b' hb' => ins_other hb'⟩
  · by_cases hb2 : b' = b
    · subst hb2; rw [ins_self] at e; cases e; exact h1
    · rw [ins_other hb2] at e; exact hG.sub.out b' o e
  · rw [ins_other (by omega)]; exact hG.old b' hb'
theorem Turn.toGrow {H H' : HF} {w w' : World} (h : Turn (fun _ => False) H w H' w') : Grow H w H' w' :=
  ⟨⟨h.os, h.tape, h.output, h.size, fun k hk => h.block k hk (fun h => h)⟩, h.sub, h.le, h.old⟩
theorem Mut.freeze {H0 H : HF} {w0 w : World} {b : Nat} {cs : List Value} (h : Mut H w b cs) (hG : Grow H0 w0 H w) (hb : w0.heap.size ≤ b) :
    ∃ H' T, HLe H H' ∧ Grow H0 w0 H' w ∧ H' b = some (.cells cs.toArray T (0, 0)) ∧ ∀ b', b' ≠ b → H' b' = H b' := by
  obtain ⟨H', T, h1, h2, h3, h4⟩ := h.freezeT (S := fun _ => False) hG.turn hb
  exact ⟨H', T, h1, h2.toGrow, h3, h4⟩
theorem Sub.mut_or {H : HF} {b : Nat} {cs : List Value} {w : World} (h : Mut H w b cs) {j : Nat} {v : Value} (hj : cs[j]? = some v) : w.cell? ⟨b, j, none⟩ = some v := by
  obtain ⟨T, h1⟩ := h.at_
  simp [World.cell?, h1, hj]
theorem setRow_grownBy (w : World) (g : Nat) (cs : Array Value) : w.grownBy (w.setRow g cs) (some g) := by
  refine ⟨rfl, rfl, rfl, by simp [World.setRow], fun k hk hn => ?_⟩
  simp only [World.setRow, Array.getElem?_modify]
  rw [if_neg (by intro e; exact hn (by rw [e]))]
theorem OneCells.of_all {vs : List Value} (h : (vs.all fun v => v.oneCell') = true) : OneCells vs := fun u hu => List.all_eq_true.1 h u hu
def splice (cs : List Value) (o : Nat) (vs : List Value) : List Value := cs.take o ++ vs ++ cs.drop (o + vs.length)
theorem AgreeOff.over2 {M M2 : List Nat} {u f' f : Fr} (hs : (M2.all fun d => memb d M) = true) (h : AgreeOff M f' f) : AgreeOff M (Go.Proofs.Ytnjeoobcejlojaa.over M2 u f') f := fun t ht => by
  have h2 : memb t M2 = false := by
    cases hh : memb t M2
    · rfl
    · rw [memb_eq] at hh
      have := List.all_eq_true.1 hs t (by simpa using hh)
      rw [this] at ht; cases ht
  simp only [Go.Proofs.Ytnjeoobcejlojaa.over, h2, cond_false]; exact h t ht
/-! ### Struct literals -/
def PlacesOk (P : Program) : List Field → List (Nat × Nat) → Prop
  | [], [] => True
  | f :: fs, (o, s) :: ps => f.offset = o ∧ (∃ i, P.info? f.type = some i ∧ i.size = s) ∧ PlacesOk P fs ps
  | _, _ => False
theorem places_run {P : Program} : ∀ (fs : List Field) (ps : List (Nat × Nat)), PlacesOk P fs ps → fs.mapM (fun f => (P.info? f.type).map fun i => (f.offset, i.size)) = some ps
  | [], [], _ => rfl
  | f :: fs, (o, s) :: ps, ⟨h1, ⟨i, h2, h3⟩, h4⟩ => by
    have ih := places_run fs ps h4
    simp [List.mapM_cons, h2, h3, h1, ih]
  | [], _ :: _, h => h.elim
  | _ :: _, [], h => h.elim
class TyBuild (P : Program) (T : TypeId) (z : outParam Value) (ps : outParam (List (Nat × Nat))) : Prop where
  out : ∃ it fs, P.info? T = some it ∧ it.zero = some z ∧ P.underlying T = some (.struct fs) ∧ PlacesOk P fs.toList ps
def fillL (ps : List (Nat × Nat)) : List Value → List (Nat × Value) → Option (List Value)
  | cs, [] => some cs
  | cs, (i, v) :: rest => match ps[i]? with
    | none => none
    | some (o, s) => if v.cells.toList.length = s ∧ o + s ≤ cs.length then fillL ps (splice cs o v.cells.toList) rest else none
theorem splice_set (cs : List Value) (o : Nat) (vs : List Value) (h : o + vs.length ≤ cs.length) : ((vs.zipIdx 0).foldl (fun a p => a.setIfInBounds (o + p.2) p.1) cs.toArray) = (splice cs o vs).toArray := by
  obtain ⟨h1, h2⟩ := set_run o vs 0 cs.toArray (by simpa using h)
  apply Array.ext_getElem?
  intro k
  rw [h2]
  simp only [splice, List.getElem?_toArray, Nat.add_zero]
  by_cases ha : k < o
  · rw [if_neg (by omega), List.append_assoc, List.getElem?_append_left (by simp; omega), List.getElem?_take, if_pos ha]
  · by_cases hb : k < o + vs.length
    · rw [if_pos (by omega), List.append_assoc, List.getElem?_append_right (by simp; omega), List.getElem?_append_left (by simp; omega)]
      congr 1; simp; omega
    · rw [if_neg (by omega), List.getElem?_append_right (by simp; omega), List.getElem?_drop]
      congr 1; simp; omega
theorem fill_fillL (ps : List (Nat × Nat)) : ∀ (parts : List (Nat × Value)) (cs out : List Value), fillL ps cs parts = some out → Instr.fill (fun i => ps[i]?) cs.toArray parts = some out.toArray
  | [], cs, out, h => by simp [fillL] at h; subst h; rfl
  | (i, v) :: rest, cs, out, h => by
    simp only [fillL] at h
    simp only [Instr.fill]
    cases hp : ps[i]? with
    | none => simp [hp] at h
    | some q =>
      obtain ⟨o, s⟩ := q
      simp only [hp] at h ⊢
      split at h
      · rename_i hc
        have hl : v.cells.size = s := by simpa using hc.1
        rw [if_neg (by simp [hl]; omega), zip_foldl, splice_set _ _ _ (by omega)]
        exact fill_fillL ps rest _ out h
      · cases h
section
variable {P : Program} {r : Option Nat} {f : Fr} {H0 H : HF} {w0 w : World} {K : Value → World → Prop} {d : Option Nat} {ty : TypeId} {pos : String} {af : Array Edge} {g : Option (Nat × Bool)} {T E : TypeId} {x y i : Operand}
theorem W_alloc {z : Value} [hz : TyZero P T z] (hS : Sub H w) (hk : ∀ w' b, Grow H w H w' → w.heap.size = b → Mut H w' b z.cells.toList → K (.pointer (some ⟨b, 0, none⟩)) w') : OpW P r ⟨d, .alloc T, ty, pos, af, g⟩ f w K :=
  OpW_val (v := .pointer (some ⟨w.heap.size, 0, none⟩)) (w' := w.alloc (.cells z.cells T (0, 0))) (by simp) (by
      simp only [execOp, Instr.alloc, Sem.run_bind, hz.out, Result.andThen_ok, Sem.run_pure]
      simp [newVar, newRow]) (hk _ _ (Grow.allocMut hS _) rfl ⟨hS.fresh (Nat.le_refl _), T, by rw [heap_alloc_self]⟩)
theorem W_build {z : Value} {ps : List (Nat × Nat)} [hb : TyBuild P T z ps] {parts : Array (Nat × Operand)} {cs : List Value} (hc : fillL ps z.cells.toList (parts.toList.map fun p => (p.1, ev f p.2)) = some cs) (hk : K (.agg cs.toArray) w) : OpW P r ⟨d, .build T parts, ty, pos, af, g⟩ f w K := by
  obtain ⟨it, fs, h1, h2, h3, h4⟩ := hb.out
  have hf := fill_fillL ps _ _ _ hc
  have hbt : P.built T (parts.map fun (i, x) => (i, ev f x)).toList = some cs.toArray := by
    have e : (parts.map fun (i, x) => (i, ev f x)).toList = parts.toList.map fun p => (p.1, ev f p.2) := by simp
    rw [e]
    simp only [Program.built, h1, h2, h3, places_run _ _ h4]
    simpa using hf
  refine OpW_val (v := .agg cs.toArray) (w' := w) (by simp) ?_ hk
  simp only [execOp, Sem.run_bind, run_build w T _ _ hbt, Result.andThen_ok, Sem.run_pure]
theorem W_storeM {sz b o : Nat} [TySize P T sz] {v : Value} {vs cs : List Value} (hx : ev f x = .pointer (some ⟨b, o, none⟩)) (hy : ev f y = v) (hm : Mut H w b cs) (hv : v.cells = vs.toArray) (h1 : OneCells vs) (hl : vs.length = sz) (hfit : o + vs.length ≤ cs.length)
    (hk : ∀ w', w.grownBy w' (some b) → Mut H w' b (splice cs o vs) → K undef w') : OpW P r ⟨d, .store T x y, ty, pos, af, g⟩ f w K := by
  obtain ⟨TT, hb⟩ := hm.at_
  have hrun := run_storeCells_at P b o TT vs 0 cs.toArray w hb (by simpa using hfit) h1
  simp only [Nat.add_zero] at hrun
  refine OpW_skip (w' := w.setRow b (splice cs o vs).toArray) (by simp) ?_ (hk _ (setRow_grownBy _ _ _) ⟨hm.out, TT, ?_⟩)
  · simp [execOp, hx, hy, Instr.storeAt, Instr.sureAddr, storeVar, hv, TySize.size (P := P) (T := T), hl, hrun, splice]
  · exact setRow_heap w b _ _ TT _ hb
theorem W_boxM {v : Value} {cs : List Value} (hS : Sub H w) (hx : ev f x = v) (hcs : v.cells = cs.toArray) (hk : ∀ w' b, Grow H w H w' → w.heap.size = b → Mut H w' b cs → K (.pointer (some ⟨b, 0, none⟩)) w') : OpW P r ⟨d, .box T x, ty, pos, af, g⟩ f w K :=
  OpW_val (w' := w.alloc (.cells v.cells T (0, 0))) (by simp) (by simp [execOp, hx, Instr.box, newVar, newRow]) (hk _ _ (Grow.allocMut hS _) rfl ⟨hS.fresh (Nat.le_refl _), T, by rw [heap_alloc_self, hcs]⟩)
theorem W_make [TySlice P T E] {sz bs : Nat} [hi : TyElem P E sz bs] {z : Value} [hzr : TyZero P E z] {kl kc : IntKind} {l c : Nat} {cs : List Value} (hS : Sub H w) (hx : ev f x = .int kl (l : Int)) (hy : ev f y = .int kc (c : Int)) (hlc : l ≤ c) (hb : bs * c ≤ 281474976710656) (h63 : c ≤ 9223372036854775807)
    (hcs : (madeCells z.cells (c * sz)).toList = cs) (hk : ∀ w' b, Grow H w H w' → w.heap.size = b → Mut H w' b cs → K (.slice (some ⟨b, 0, none⟩) l c) w') : OpW P r ⟨d, .makeSlice T x y, ty, pos, af, g⟩ f w K := by
  obtain ⟨i, z', h1, h2, h3, h4, h5⟩ := hi.out
  subst h5
  subst h4
  have hz : z' = z := by
    have h6 := hzr.out w
    simp only [zeroValue, typeInfo, Sem.run_bind, run_program, Result.andThen_ok, h1, h2, Sem.run_pure] at h6
    simpa using h6
  subst hz
  have hb' : (i.bytes : Int) * (c : Int) ≤ 281474976710656 := by
    have h : ((i.bytes * c : Nat) : Int) ≤ 281474976710656 := by omega
    rwa [Int.natCast_mul] at h
  have hr := run_make (P := P) w T E i z' TySlice.out h1 h2 kl kc l c (by omega) (by omega) hb' (by omega)
  simp only [Int.toNat_natCast] at hr
  refine OpW_val (w' := w.alloc (.cells (madeCells z'.cells (c * i.size)) E)) (by simp) (by simp [execOp, hx, hy, hr]) (hk _ _ (Grow.allocMut hS _) rfl ⟨hS.fresh (Nat.le_refl _), E, ?_⟩)
  rw [heap_alloc_self, ← hcs]
theorem made_one {z : Value} (n : Nat) (h : z.oneCell' = true) : (madeCells z.cells (n * 1)).toList = List.replicate n z := by
  have hv : z.cells = #[z] := by cases z <;> simp_all [Value.cells, Value.oneCell']
  rw [hv, Nat.mul_one, toList_madeCells_one]
theorem W_loadM [TyOne P T] {b o : Nat} {cs : List Value} {v : Value} (hx : ev f x = .pointer (some ⟨b, o, none⟩)) (hm : Mut H w b cs) (hc : cs[o]? = some v) (hk : K v w) : OpW P r ⟨d, .load T x, ty, pos, af, g⟩ f w K :=
  W_load hx (Sub.mut_or hm hc) hk
theorem W_loadMAgg {s : Nat} [TyAgg P T] [TySize P T s] {b o : Nat} {cs vs : List Value} (hx : ev f x = .pointer (some ⟨b, o, none⟩)) (hm : Mut H w b cs) (hl : vs.length = s) (hc : (cs.drop o).take s = vs) (hk : K (.agg vs.toArray) w) :
    OpW P r ⟨d, .load T x, ty, pos, af, g⟩ f w K := by
  refine W_loadAgg hx hl ?_ hk
  intro j v hj
  rw [add_lit']
  refine Sub.mut_or hm ?_
  subst hc
  rw [List.getElem?_take] at hj
  split at hj
  · simpa using hj
  · cases hj
theorem W_loadSub {s : Nat} [TyAgg P T] [TySize P T s] {b o : Nat} {c : Array Value} {E : TypeId} {fr : Nat × Nat} {cs : List Value} (hx : ev f x = .pointer (some ⟨b, o, none⟩)) (hb : H b = some (.cells c E fr)) (hc : ((c.toList.drop o).take s) = cs) (hl : cs.length = s) (hS : Sub H w) (hk : K (.agg cs.toArray) w) :
    OpW P r ⟨d, .load T x, ty, pos, af, g⟩ f w K := W_loadAggH hx hb hl hc hS hk
theorem G_rem {n : TypeId} (h : OpW P r ⟨d, .binOp .rem T x y n, ty, pos, af, g⟩ f w K) : OpW P r ⟨d, .binOp .rem T x y n, ty, pos, af, g⟩ f w K := h
theorem W_remN {n : TypeId} {k : IntKind} {a b : Nat} (hx : ev f x = .int k (a : Int)) (hy : ev f y = .int k (b : Int)) (hb : 0 < b) (hk : K (.int k ((a % b : Nat) : Int)) w) : OpW P r ⟨d, .binOp .rem T x y n, ty, pos, af, g⟩ f w K :=
  W_rem (q := ((a % b : Nat) : Int)) hx hy (by omega) (by rw [Int.tmod_eq_emod_of_nonneg (by omega)]; simp) hk
theorem G_conv (h : OpW P r ⟨d, .convert T E x, ty, pos, af, g⟩ f w K) : OpW P r ⟨d, .convert T E x, ty, pos, af, g⟩ f w K := h
theorem W_convN {k k0 : IntKind} [hs : TyInt P T k0] [ht : TyInt P E .i64] {a : Nat} (hx : ev f x = .int k (a : Int)) (hb : a < 9223372036854775808) (hk : K (.int .i64 (a : Int)) w) : OpW P r ⟨d, .convert T E x, ty, pos, af, g⟩ f w K :=
  OpW_val (v := .int .i64 (a : Int)) (by simp) (by simp [execOp, hx, convert, run_underlying hs.out, run_underlying ht.out, Conv.intToInt, IntWalk.i64_in (a : Int) (by omega)]) hk
theorem S_passU {ops : Array Oper} {Q : Fr → World → Prop} {rest : List Oper} {t j : Nat} {b : Bool} {p : Op} (hy : yieldF ops f j = none) (h : SeqW P r ops Q rest (upd f t undef) w) : SeqW P r ops Q (⟨some t, p, ty, pos, af, some (j, b)⟩ :: rest) f w := by
  have : wantF ops ⟨some t, p, ty, pos, af, some (j, b)⟩ f = false := by simp [wantF, hy]
  simp only [SeqW, this, Bool.false_eq_true, if_false]; exact h
structure Pass2 (ops : Array Oper) (j : Nat) (f : Fr) : Prop where
  pass : yieldF ops f j = none
theorem A_passU {G : Nat → HF → World → Prop} {Φ : List Fact} {ops : Array Oper} {Ds : List (Option Nat)} {D : List Nat} {f0 : Fr} {t j : Nat} {b : Bool} {p : Op} (h : ∀ (c : Nat) (u : Fr) (H : HF) (w : World), G c H w → DepGo Φ Ds H (fun f => Pass2 ops j f) af.toList (over D u f0)) :
    StepAny P r G Φ ops Ds D f0 ⟨some t, p, ty, pos, af, some (j, b)⟩ (fun v _ => v = undef) none := by
  intro c u H w hG
  refine depGo_mono ?_ _ _ (h c u H w hG)
  rintro f ⟨hy⟩
  have : ¬ wantF ops ⟨some t, p, ty, pos, af, some (j, b)⟩ f = true := by simp [wantF, hy]
  rw [if_neg this]
  exact fun _ _ => rfl
theorem W_beqlT {T' : TypeId} [TyBool P T] {m n : Bool} (hx : ev f x = .bool m) (hy : ev f y = .bool n) (h : m = n) (hk : K (.bool true) w) : OpW P r ⟨d, .binOp .eql T x y T', ty, pos, af, g⟩ f w K :=
  W_beql hx hy (by subst h; simpa using hk)
theorem W_beqlF {T' : TypeId} [TyBool P T] {m n : Bool} (hx : ev f x = .bool m) (hy : ev f y = .bool n) (h : ¬ m = n) (hk : K (.bool false) w) : OpW P r ⟨d, .binOp .eql T x y T', ty, pos, af, g⟩ f w K :=
  W_beql hx hy (by rw [show (m == n) = false by simpa using h]; exact hk)
theorem W_bneqT {T' : TypeId} [TyBool P T] {m n : Bool} (hx : ev f x = .bool m) (hy : ev f y = .bool n) (h : ¬ m = n) (hk : K (.bool true) w) : OpW P r ⟨d, .binOp .neq T x y T', ty, pos, af, g⟩ f w K :=
  W_bneq hx hy (by rw [show (m == n) = false by simpa using h]; exact hk)
theorem W_bneqF {T' : TypeId} [TyBool P T] {m n : Bool} (hx : ev f x = .bool m) (hy : ev f y = .bool n) (h : m = n) (hk : K (.bool false) w) : OpW P r ⟨d, .binOp .neq T x y T', ty, pos, af, g⟩ f w K :=
  W_bneq hx hy (by subst h; simpa using hk)
section strs2
variable {T' t1 t2 : TypeId} {a b c e : ByteArray}
theorem eq_strs2 : eqCells [.string a, .string b] [.string c, .string e] = decide (a = c ∧ b = e) := by
  simp [eqCells, eqCell]
theorem W_eneqT [TyFlat P T [t1, t2]] [TyStr P t1] [TyStr P t2] (hx : ev f x = .agg #[.string a, .string b]) (hy : ev f y = .agg #[.string c, .string e]) (h : ¬ (a = c ∧ b = e)) (hk : K (.bool true) w) : OpW P r ⟨d, .binOp .neq T x y T', ty, pos, af, g⟩ f w K :=
  W_aneq (ts := [t1, t2]) (b := false) hx hy ⟨fits_str, fits_str, trivial⟩ ⟨fits_str, fits_str, trivial⟩ rfl (by rw [eq_strs2]; simpa using h) hk
theorem W_eneqF [TyFlat P T [t1, t2]] [TyStr P t1] [TyStr P t2] (hx : ev f x = .agg #[.string a, .string b]) (hy : ev f y = .agg #[.string c, .string e]) (h : a = c ∧ b = e) (hk : K (.bool false) w) : OpW P r ⟨d, .binOp .neq T x y T', ty, pos, af, g⟩ f w K :=
  W_aneq (ts := [t1, t2]) (b := true) hx hy ⟨fits_str, fits_str, trivial⟩ ⟨fits_str, fits_str, trivial⟩ rfl (by rw [eq_strs2]; simpa using h) hk
theorem W_eeqlT [TyFlat P T [t1, t2]] [TyStr P t1] [TyStr P t2] (hx : ev f x = .agg #[.string a, .string b]) (hy : ev f y = .agg #[.string c, .string e]) (h : a = c ∧ b = e) (hk : K (.bool true) w) : OpW P r ⟨d, .binOp .eql T x y T', ty, pos, af, g⟩ f w K :=
  W_aeql (ts := [t1, t2]) (b := true) hx hy ⟨fits_str, fits_str, trivial⟩ ⟨fits_str, fits_str, trivial⟩ rfl (by rw [eq_strs2]; simpa using h) hk
theorem W_eeqlF [TyFlat P T [t1, t2]] [TyStr P t1] [TyStr P t2] (hx : ev f x = .agg #[.string a, .string b]) (hy : ev f y = .agg #[.string c, .string e]) (h : ¬ (a = c ∧ b = e)) (hk : K (.bool false) w) : OpW P r ⟨d, .binOp .eql T x y T', ty, pos, af, g⟩ f w K :=
  W_aeql (ts := [t1, t2]) (b := false) hx hy ⟨fits_str, fits_str, trivial⟩ ⟨fits_str, fits_str, trivial⟩ rfl (by rw [eq_strs2]; simpa using h) hk
end strs2
end
end Go.Proofs.Ytnjeoobcejlojaa
