/- Arguments, opened: what a datum that was read tells of the value's cells. Conditions: each law's own premises. -/
import Derived.Test.YtnjeoobcejlojaaMut
import Derived.Deep.Slices
import Derived.ChangeArms
import Derived.SizedLaws
import Derived.WalkKit
import Derived.ProofKit
import Derived.OpenShut
import Derived.ShutString
import Derived.ChangeOld
import Derived.Carry
import Derived.ChangeMaps5
import Derived.WideShapes
import Derived.Below
namespace Go.Proofs.Ytnjeoobcejlojaa
open Go.RowKit Go.ChangeShapes Go.Deep
set_option linter.unusedVariables false
set_option linter.unusedSimpArgs false
/-- The whole heap, as it stands. -/
def snap (w : World) : HF := fun b => w.heap[b]?
theorem snap_sub (w : World) : Sub (snap w) w := ⟨fun _ _ h => h⟩
section
variable {H : Type} {enc : TypeId × Value → H} {P : Program} {w : World} {t e : TypeId} {cs : List Value}
def Wt (P : Program) (t : TypeId) (d : DataW H) : Prop := ∀ n ∈ d.weights P t, n ≤ reachBytes
def Trd (enc : TypeId × Value → H) (P : Program) (w : World) (t : TypeId) (cs : List Value) : Prop :=
  ∃ fuel x, DataW.trod enc P w 0 (fun _ => true) true fuel t cs = some x ∧ Wt P t x.1
class TyCells (P : Program) (T : TypeId) (s : outParam Nat) : Prop where
  out : P.cellsOf T = s
instance {P : Program} {T : TypeId} {s b : Nat} [h : TyElem P T s b] : TyCells P T s := ⟨by
  obtain ⟨i, z, h1, h2, h3, h4, h5⟩ := h.out
  simp [Program.cellsOf, h1, h4]⟩
theorem Trd.int {k : IntKind} [ht : TyInt P t k] (h : Trd enc P w t cs) : ∃ n : Int, cs = [.int k n] ∧ (Lit.int k n).wf = true := by
  obtain ⟨fuel, x, h1, _⟩ := h
  cases fuel with
  | zero => simp [DataW.trod] at h1
  | succ n =>
    unfold DataW.trod at h1
    rw [ht.out] at h1
    split at h1 <;> simp_all
theorem Trd.bool [ht : TyBool P t] (h : Trd enc P w t cs) : ∃ b : Bool, cs = [.bool b] := by
  obtain ⟨fuel, x, h1, _⟩ := h
  cases fuel with
  | zero => simp [DataW.trod] at h1
  | succ n =>
    unfold DataW.trod at h1
    rw [ht.out] at h1
    split at h1 <;> simp_all
theorem Trd.str [ht : TyStr P t] (h : Trd enc P w t cs) : ∃ s : ByteArray, cs = [.string s] ∧ s.size ≤ reachBytes := by
  obtain ⟨fuel, x, h1, h2⟩ := h
  cases fuel with
  | zero => simp [DataW.trod] at h1
  | succ n =>
    unfold DataW.trod at h1
    rw [ht.out] at h1
    split at h1 <;> simp_all
    obtain ⟨h3, h4⟩ := h1
    subst h4
    have := h2 _ (by simp [DataW.weights]; rfl)
    simpa using this
/-- Fields: offset, size, type. -/
def ReadsOk (P : Program) : List Field → List (Nat × Nat × TypeId) → Prop
  | [], [] => True
  | f :: fs, (o, s, t) :: ps => f.offset = o ∧ P.cellsOf f.type = s ∧ f.type = t ∧ ReadsOk P fs ps
  | _, _ => False
class TyRead (P : Program) (T : TypeId) (l : outParam (List (Nat × Nat × TypeId))) : Prop where
  out : ∃ fs : Array Field, P.underlying T = some (.struct fs) ∧ ReadsOk P fs.toList l
def DecAll (enc : TypeId × Value → H) (P : Program) (w : World) (cs : List Value) : List (Nat × Nat × TypeId) → Prop
  | [] => True
  | (o, s, t) :: r => Trd enc P w t ((cs.drop o).take s) ∧ DecAll enc P w cs r
theorem decAll_of {n : Nat} : ∀ (fs : List Field) (l : List (Nat × Nat × TypeId)) (xs : List (DataW H × List MemPlace)), ReadsOk P fs l → fs.length = xs.length →
    (∀ (i : Nat) (f : Field), fs[i]? = some f → DataW.trod enc P w 0 (fun _ => true) true n f.type ((cs.drop f.offset).take (P.cellsOf f.type)) = xs[i]?) →
    (∀ n ∈ DataW.weightsEach P (fs.map (·.type)) (xs.map (·.1)), n ≤ reachBytes) → DecAll enc P w cs l
  | [], [], _, _, _, _, _ => trivial
  | f :: fs, (o, s, t) :: l, x :: xs, ⟨h1, h2, h3, h4⟩, hl, h, hw => by
    subst h1 h2 h3
    simp only [List.map_cons, DataW.weightsEach, List.mem_append] at hw
    refine ⟨⟨n, x, by simpa using h 0 f rfl, fun m hm => hw m (.inl hm)⟩, decAll_of fs l xs h4 (by simpa using hl) (fun i f hf => by simpa using h (i + 1) f (by simpa using hf)) (fun m hm => hw m (.inr hm))⟩
  | f :: fs, _ :: l, [], _, hl, _, _ => by simp at hl
  | [], _ :: _, _, h, _, _, _ => h.elim
  | _ :: _, [], _, h, _, _, _ => h.elim
theorem Trd.struct {l : List (Nat × Nat × TypeId)} {s : Nat} [ht : TyRead P t l] [hc : TyCells P t s] (h : Trd enc P w t cs) : cs.length = s ∧ DecAll enc P w cs l := by
  obtain ⟨fuel, x, h1, h2⟩ := h
  obtain ⟨fs, hu, hr⟩ := ht.out
  obtain ⟨xs, n, rfl, rfl, h3, h4, h5⟩ := DataW.trod_struct hu h1
  refine ⟨by rw [h3, hc.out], decAll_of fs.toList l xs hr (by simp [h4]) (fun i f hf => h5 i f (by simpa using hf)) ?_⟩
  intro m hm
  refine h2 m ?_
  simp only [DataW.weights, hu]
  exact hm
theorem weightsAll_mem {e : TypeId} : ∀ {ds : List (DataW H)} {d : DataW H}, d ∈ ds → ∀ n ∈ d.weights P e, n ∈ DataW.weightsAll P e ds
  | d0 :: ds, d, h, n, hn => by
    simp only [DataW.weightsAll, List.mem_append]
    rcases List.mem_cons.1 h with rfl | h
    · exact .inl hn
    · exact .inr (weightsAll_mem h n hn)
theorem flat_get {sz : Nat} : ∀ (css : List (List Value)), (∀ x ∈ css, x.length = sz) → ∀ (k : Nat) (v : Value), css.flatten[k]? = some v → ∃ i j x, k = i * sz + j ∧ css[i]? = some x ∧ x[j]? = some v ∧ i < css.length ∧ j < sz
  | [], _, k, v, h => by simp at h
  | x :: css, hl, k, v, h => by
    have hx := hl x (by simp)
    simp only [List.flatten_cons] at h
    by_cases hk : k < sz
    · rw [List.getElem?_append_left (by omega)] at h
      exact ⟨0, k, x, by simp, by simp, h, by simp, hk⟩
    · rw [List.getElem?_append_right (by omega), hx] at h
      obtain ⟨i, j, y, h1, h2, h3, h4, h5⟩ := flat_get css (fun y hy => hl y (by simp [hy])) _ _ h
      exact ⟨i + 1, j, y, by rw [Nat.add_mul]; omega, by simpa using h2, h3, by simpa using h4, h5⟩
theorem Trd.slice {sz bs : Nat} [ht : TySlice P t e] [hc : TyElem P e sz bs] (h : Trd enc P w t cs) :
    ∃ (A : Option Addr) (n c : Nat) (css : List (List Value)), cs = [.slice A n c] ∧ n ≤ c ∧ css.length = n ∧ (∀ x ∈ css, Trd enc P w e x ∧ x.length = sz) ∧ SlAt (snap w) A css.flatten ∧ n * bs ≤ reachBytes ∧ (A = none → n = 0 ∧ c = 0) := by
  obtain ⟨fuel, x, h1, h2⟩ := h
  have hsz : P.cellsOf e = sz := (inferInstance : TyCells P e sz).out
  have hbs : P.bytesOf e = bs := by
    obtain ⟨i, z, h3, _, _, _, h4⟩ := hc.out
    simp [Program.bytesOf, h3, h4]
  rcases open_slice ht.out h1 with ⟨rfl, rfl⟩ | ⟨a, len, cap, m, n, D, Pl, rfl, hb, hl, hm, hmm, rfl, hi⟩
  · exact ⟨none, 0, 0, [], rfl, Nat.le_refl _, rfl, by simp, .inl rfl, by simp, fun _ => ⟨rfl, rfl⟩⟩
  · simp only [if_true] at hmm
    subst hmm
    rw [hsz] at hi
    have hch : ∃ F : Nat → List Value, ∀ i, i < m → w.cells? 0 (a.add (i * sz)) sz = some (F i) ∧ DataW.trod enc P w 0 (fun _ => true) true n e (F i) = some (D i, Pl i) := by
      refine ⟨fun i => if h : i < m then Classical.choose (hi i h) else [], fun i h => ?_⟩
      simp only [dif_pos h]
      exact Classical.choose_spec (hi i h)
    obtain ⟨F, hF⟩ := hch
    have hw : ∀ k, k ∈ DataW.weights P t (.slice ((List.range len).map D) ((List.range (m - len)).map fun j => D (len + j)) : DataW H) → k ≤ reachBytes := h2
    simp only [DataW.weights, ht.out, List.length_map, List.length_range] at hw
    refine ⟨some a, len, m, (List.range len).map F, rfl, hl, by simp, ?_, ?_, ?_, by simp⟩
    · intro x hx
      simp only [List.mem_map, List.mem_range] at hx
      obtain ⟨i, hi2, rfl⟩ := hx
      obtain ⟨h3, h4⟩ := hF i (by omega)
      refine ⟨⟨n, _, h4, fun k hk => hw k ?_⟩, (World.cells?_some h3).2.1⟩
      simp only [List.mem_cons, List.mem_append]
      exact .inr (.inl (weightsAll_mem (d := D i) (by simp; exact ⟨i, hi2, rfl⟩) k hk))
    · have hone : ∀ (i j : Nat) (v : Value), i < len → (F i)[j]? = some v → j < sz → w.cell? ((a.add (i * sz)).add j) = some v := by
        intro i j v hi2 hj hs
        obtain ⟨_, _, h4⟩ := World.cells?_some (hF i (by omega)).1
        rw [h4 j hs]; exact hj
      have hlen : ∀ x ∈ (List.range len).map F, x.length = sz := by
        intro x hx
        simp only [List.mem_map, List.mem_range] at hx
        obtain ⟨i, hi2, rfl⟩ := hx
        exact (World.cells?_some (hF i (by omega)).1).2.1
      have hall : ∀ (k : Nat) (v : Value), ((List.range len).map F).flatten[k]? = some v → w.cell? (a.add k) = some v := by
        intro k v hk
        obtain ⟨i, j, x, rfl, h4, h5, h6, h7⟩ := flat_get _ hlen k v hk
        simp only [List.length_map, List.length_range] at h6
        simp [h6] at h4
        subst h4
        have := hone i j v h6 h5 h7
        rw [Go.Deep.add_add] at this
        exact this
      by_cases h0 : ((List.range len).map F).flatten = []
      · exact .inl h0
      · right
        obtain ⟨v0, h3⟩ : ∃ v0, ((List.range len).map F).flatten[0]? = some v0 := by
          cases hh : ((List.range len).map F).flatten with
          | nil => exact absurd hh h0
          | cons v r => exact ⟨v, rfl⟩
        have h4 := hall 0 v0 h3
        obtain ⟨b, off, sp⟩ := a
        unfold World.cell? at h4
        cases hb2 : w.heap[b]? with
        | none => simp [Addr.add] at h4; split at h4 <;> simp_all
        | some o =>
          cases o with
          | cells c E fr =>
            have hsp : sp = none := by
              cases sp with
              | none => rfl
              | some q => simp [Addr.add, hb2] at h4
            subst hsp
            refine ⟨b, off, rfl, c, E, fr, hb2, fun i v hi3 => ?_⟩
            have h5 := hall i v hi3
            rw [add_lit'] at h5
            simpa [World.cell?, hb2] using h5
          | _ => exfalso; simp [Addr.add, hb2] at h4
    · have := hw _ (by simp only [List.mem_cons]; exact .inl rfl)
      rw [hbs] at this
      exact Nat.le_trans (Nat.mul_le_mul_right _ (Nat.le_add_right _ _)) this
theorem decode {α : Type} (cell : α → List Value) (Q : α → Prop) : ∀ (css : List (List Value)), (∀ x ∈ css, ∃ a, x = cell a ∧ Q a) → ∃ l : List α, css = l.map cell ∧ ∀ a ∈ l, Q a
  | [], _ => ⟨[], rfl, by simp⟩
  | x :: css, h => by
    obtain ⟨a, rfl, ha⟩ := h x (by simp)
    obtain ⟨l, rfl, hl⟩ := decode cell Q css (fun y hy => h y (by simp [hy]))
    exact ⟨a :: l, rfl, by simp [ha]; exact hl⟩
/-! ### The row -/
def rowable (P : Program) : List TypeId → Bool
  | [] => true
  | t :: ts => P.readableRec t && (decide (t < P.types.size) && rowable P ts)
theorem trodAll_back (hl : laidOutB P = true) {W W' : World} (hb : Below W.heap.size W W') : ∀ {ts : List TypeId} {vs : List Value} {ds : List (DataW H)} {ps : List MemPlace}, rowable P ts = true →
    DataW.TrodAll enc P W 0 (fun _ => true) true ts vs ds ps → DataW.TrodAll enc P W' 0 (fun b => decide (b < W.heap.size)) true ts vs ds ps
  | [], [], [], _, _, h => h
  | t :: ts, v :: vs, d :: ds, ps, hr, h => by
    obtain ⟨p, q, h1, h2, rfl⟩ := h
    simp only [rowable, Bool.and_eq_true, decide_eq_true_eq] at hr
    exact ⟨p, q, Below.trod hl hr.1 hr.2.1 h1 hb (by obtain ⟨m, hm⟩ := h1; exact DataW.trod_lt m _ _ _ hm), trodAll_back hl hb hr.2.2 h2, rfl⟩
  | [], [], _ :: _, _, _, h => h.elim
  | [], _ :: _, _, _, _, h => by cases ‹List (DataW H)› <;> exact h.elim
  | _ :: _, [], _, _, _, h => by cases ‹List (DataW H)› <;> exact h.elim
  | _ :: _, _ :: _, [], _, _, h => h.elim
/-- An argument, opened. -/
def Opn (enc : TypeId × Value → H) (P : Program) (w : World) (t : TypeId) (v : Value) : Prop := (∃ base, Value.okWide P w .any base t v) ∧ Trd enc P w t v.cells.toList
theorem Opn.str [ht : TyStr P t] {v : Value} (h : Opn enc P w t v) : ∃ s, v = .string s ∧ s.size ≤ reachBytes := by
  obtain ⟨⟨base, h1⟩, h2⟩ := h
  obtain ⟨s, rfl⟩ := Go.WideShapes.okWide_string ht.out h1
  obtain ⟨s', h3, h4⟩ := h2.str
  simp [Value.cells] at h3
  subst h3
  exact ⟨_, rfl, h4⟩
theorem Opn.int {k : IntKind} [ht : TyInt P t k] {v : Value} (h : Opn enc P w t v) : ∃ n, v = .int k n ∧ (Lit.int k n).wf = true := by
  obtain ⟨⟨base, h1⟩, h2⟩ := h
  obtain ⟨s, rfl⟩ := Go.WideShapes.okWide_int ht.out h1
  obtain ⟨s', h3, h4⟩ := h2.int
  simp [Value.cells] at h3
  subst h3
  exact ⟨_, rfl, h4⟩
theorem Opn.bool [ht : TyBool P t] {v : Value} (h : Opn enc P w t v) : ∃ b, v = .bool b := by
  obtain ⟨⟨base, h1⟩, h2⟩ := h
  exact Go.WideShapes.okWide_bool ht.out h1
theorem Opn.slice {sz bs : Nat} [ht : TySlice P t e] [hc : TyElem P e sz bs] {v : Value} (h : Opn enc P w t v) :
    ∃ (A : Option Addr) (n c : Nat) (css : List (List Value)), v = .slice A n c ∧ n ≤ c ∧ css.length = n ∧ (∀ x ∈ css, Trd enc P w e x ∧ x.length = sz) ∧ SlAt (snap w) A css.flatten ∧ n * bs ≤ reachBytes ∧ (A = none → n = 0 ∧ c = 0) := by
  obtain ⟨⟨base, h1⟩, h2⟩ := h
  obtain ⟨a, n, c, rfl⟩ := Go.WideShapes.okWide_slice ht.out h1
  obtain ⟨A, n', c', css, h3, h4⟩ := h2.slice (sz := sz) (bs := bs)
  simp [Value.cells] at h3
  obtain ⟨rfl, rfl, rfl⟩ := h3
  exact ⟨_, _, _, css, rfl, h4⟩
theorem Opn.struct {l : List (Nat × Nat × TypeId)} {s : Nat} [ht : TyRead P t l] [hc : TyCells P t s] {v : Value} (h : Opn enc P w t v) : ∃ cs : List Value, v = .agg cs.toArray ∧ cs.length = s ∧ DecAll enc P w cs l := by
  obtain ⟨⟨base, h1⟩, h2⟩ := h
  obtain ⟨fs, hu, _⟩ := ht.out
  obtain ⟨cs, rfl, h3⟩ := Go.WideShapes.okWide_struct hu h1
  obtain ⟨h4, h5⟩ := h2.struct (l := l) (s := s)
  exact ⟨cs.toList, by simp, by simpa [Value.cells] using h4, by simpa [Value.cells] using h5⟩
def Args (enc : TypeId × Value → H) (P : Program) (w : World) : List TypeId → List Value → Prop
  | [], [] => True
  | t :: ts, v :: vs => Opn enc P w t v ∧ Args enc P w ts vs
  | _, _ => False
theorem args_of {W : World} {base : Nat} : ∀ {ts : List TypeId} {vs : List Value} {ds : List (DataW H)} {ps : List MemPlace}, (∀ (j : Nat) t v, ts[j]? = some t → vs[j]? = some v → Value.okWide P W .any base t v) →
    DataW.TrodAll enc P W 0 (fun _ => true) true ts vs ds ps → (∀ n ∈ DataW.weightsEach P ts ds, n ≤ reachBytes) → Args enc P W ts vs
  | [], [], [], _, _, _, _ => trivial
  | t :: ts, v :: vs, d :: ds, ps, hv, h, hw => by
    obtain ⟨p, q, ⟨fuel, h1⟩, h2, rfl⟩ := h
    simp only [DataW.weightsEach, List.mem_append] at hw
    exact ⟨⟨⟨base, hv 0 t v rfl rfl⟩, ⟨fuel, _, h1, fun n hn => hw n (.inl hn)⟩⟩, args_of (fun j t v h3 h4 => hv (j + 1) t v h3 h4) h2 (fun n hn => hw n (.inr hn))⟩
  | [], [], _ :: _, _, _, h, _ => h.elim
  | [], _ :: _, _, _, _, h, _ => by cases ‹List (DataW H)› <;> exact h.elim
  | _ :: _, [], _, _, _, h, _ => by cases ‹List (DataW H)› <;> exact h.elim
  | _ :: _, _ :: _, [], _, _, h, _ => h.elim
theorem trodAll_len {W : World} : ∀ {ts : List TypeId} {vs : List Value} {ds : List (DataW H)} {ps : List MemPlace}, DataW.TrodAll enc P W 0 (fun _ => true) true ts vs ds ps → ds.length = ts.length
  | [], [], [], _, _ => rfl
  | t :: ts, v :: vs, d :: ds, ps, h => by
    obtain ⟨p, q, _, h2, rfl⟩ := h
    simp [trodAll_len h2]
  | [], [], _ :: _, _, h => h.elim
  | [], _ :: _, _, _, h => by cases ‹List (DataW H)› <;> exact h.elim
  | _ :: _, [], _, _, h => by cases ‹List (DataW H)› <;> exact h.elim
  | _ :: _, _ :: _, [], _, h => h.elim
/-- A law that answers true, and turns nothing that lay there. -/
theorem row_close {W : World} {base : Nat} {fn : Func} {s : ChangeSpec} {k : FuncId} {rt : TypeId} {args : Array Value} {ds gs : List (DataW H)} {before : List MemPlace} (hl : laidOutB P = true) (hvars : s.vars = []) (hrows : rowable P fn.params.toList = true)
    (hres : fn.resultTypes = #[rt]) [hb : TyBool P rt] (hfn : ∀ ds : List (DataW H), ds.length = fn.params.toList.length → s.fn H ds = { results := [.lit (.bool true)], args := ds })
    (hval : ∀ (j : Nat) t v, fn.params[j]? = some t → args[j]? = some v → Value.okWide P W .any base t v)
    (hW : DataW.Whole enc P fn.params.toList s.vars false W args.toList ds gs before)
    (hsz : (DataW.weightsEach P (fn.params.toList ++ s.plain.varTypes P) (ds ++ gs)).all (· ≤ reachBytes) = true)
    (hcall : Args enc P W fn.params.toList args.toList → CallW P k args W fun v w' => v = .bool true ∧ Below W.heap.size W w') :
    Calls P k args W fun e W' => ∃ v, e = .returned v ∧ s.post enc P fn false true false false W args v W' := by
  have hW' := hW
  obtain ⟨p, q, hA, hV, rfl, hfz, hnd⟩ := hW
  rw [hvars] at hV
  have hgs : gs = [] ∧ q = [] := by
    cases gs with
    | nil => exact ⟨rfl, hV⟩
    | cons g gs => exact hV.elim
  obtain ⟨rfl, rfl⟩ := hgs
  have hvt : s.plain.varTypes P = [] := by simp [ChangeSpec.plain, DataSpec.varTypes, hvars]
  rw [hvt, List.append_nil, List.append_nil] at hsz
  have hsz' : ∀ n ∈ DataW.weightsEach P fn.params.toList ds, n ≤ reachBytes := by
    intro n hn
    have := List.all_eq_true.1 hsz n hn
    simpa using this
  have hargs := args_of (base := base) (fun j t v h1 h2 => hval j t v (by simpa using h1) (by simpa using h2)) hA hsz'
  refine Calls.mono (hcall hargs) ?_
  rintro e W' ⟨v, rfl, rfl, bel⟩
  have hf := hfn ds (trodAll_len hA)
  refine ⟨_, rfl, ds, [], _, [], p, [], hW', ?_, ?_, ?_, bel.frame _, fun h => by cases h⟩
  · rw [List.append_nil, hf, hres]
    exact trodAll_mk1 (shut_bool hb.out _)
  · rw [List.append_nil, hf]
    exact trodAll_back hl bel hrows hA
  · rw [List.append_nil, hf, hvars]
    rfl
/-- The contract over the heap as it stands is the law's. -/
theorem law_of {k : FuncId} {vs : List Value} {args : Array Value} {W : World} (ha : args.toList = vs) (h : Fn P k vs (snap W) fun v _ => v = .bool true) : CallW P k args W fun v w' => v = .bool true ∧ Below W.heap.size W w' := by
  have e : args = vs.toArray := by rw [← ha]
  subst e
  exact (h W (snap_sub W)).mono fun _ _ ⟨_, hg, hv⟩ => ⟨hv, hg.below⟩
end
end Go.Proofs.Ytnjeoobcejlojaa
