/- Changes of a tree as the laws of layer 22 are handed them: how they lie in memory. Conditions: each law's own premises. -/
import Derived.Test.YtnjeoobcejlojaaOpenEnt
import Derived.Test.YtnjeoobcejlojaaMemBase
import Derived.Test.YtnjeoobcejlojaaPure2
namespace Go.Proofs.Ytnjeoobcejlojaa
open Go.Proofs Go.RowKit
set_option linter.unusedVariables false
/-- A change: Del, E. -/
structure Op10 where
  del : Bool
  e : Ent
  deriving Inhabited
def op10Cell (o : Op10) : List Value := [.bool o.del, .string o.e.key, .string o.e.val]
def ops10 (l : List Op10) : List Value := (l.map op10Cell).flatten
theorem ops10_get {l : List Op10} : ∀ {q j : Nat}, q < l.length → j < 3 → (ops10 l)[q * 3 + j]? = (op10Cell (nth l q))[j]? := by
  induction l with
  | nil => intro q j h; simp at h
  | cons o l ih =>
    intro q j hq hj
    simp only [ops10, List.map_cons, List.flatten_cons]
    cases q with
    | zero =>
      rw [Nat.zero_mul, Nat.zero_add, List.getElem?_append_left (by simp [op10Cell]; omega)]
      simp [nth]
    | succ q =>
      rw [List.getElem?_append_right (by simp [op10Cell]; omega)]
      have := ih (q := q) (j := j) (by simpa using hq) hj
      rw [show (q + 1) * 3 + j - (op10Cell o).length = q * 3 + j by simp [op10Cell]; omega]
      simpa [nth, ops10] using this
section
variable {P : Program} {r : Option Nat} {f : Fr} {H : HF} {w : World} {K : Value → World → Prop} {d : Option Nat} {ty : TypeId} {pos : String} {af : Array Edge} {g : Option (Nat × Bool)} {T : TypeId} {x : Operand} {b o q : Nat} {l : List Op10}
theorem W_loadOa [TyOne P T] (hx : ev f x = .pointer (some ⟨b, o + q * 3 + 0, none⟩)) (hb : Row H b o (ops10 l)) (hq : q < l.length) (hS : Sub H w) (hk : K (.bool (nth l q).del) w) : OpW P r ⟨d, .load T x, ty, pos, af, g⟩ f w K :=
  W_loadRow (j := q * 3 + 0) hx hb (ops10_get hq (by omega)) hS hk
theorem W_loadOb [TyOne P T] (hx : ev f x = .pointer (some ⟨b, o + q * 3 + 1 + 0, none⟩)) (hb : Row H b o (ops10 l)) (hq : q < l.length) (hS : Sub H w) (hk : K (.string (nth l q).e.key) w) : OpW P r ⟨d, .load T x, ty, pos, af, g⟩ f w K :=
  W_loadRow (j := q * 3 + 1) hx hb (ops10_get hq (by omega)) hS hk
theorem W_loadOc [TyOne P T] (hx : ev f x = .pointer (some ⟨b, o + q * 3 + 1 + 1, none⟩)) (hb : Row H b o (ops10 l)) (hq : q < l.length) (hS : Sub H w) (hk : K (.string (nth l q).e.val) w) : OpW P r ⟨d, .load T x, ty, pos, af, g⟩ f w K :=
  W_loadRow (j := q * 3 + 2) hx hb (ops10_get hq (by omega)) hS hk
theorem W_loadOd [TyAgg P T] [TySize P T 3] (hx : ev f x = .pointer (some ⟨b, o + q * 3, none⟩)) (hb : Row H b o (ops10 l)) (hq : q < l.length) (hS : Sub H w) (hk : K (.agg #[.bool (nth l q).del, .string (nth l q).e.key, .string (nth l q).e.val]) w) : OpW P r ⟨d, .load T x, ty, pos, af, g⟩ f w K := by
  obtain ⟨c, E, fr, h1, h2⟩ := hb
  refine W_loadAgg (s := 3) (cs := op10Cell (nth l q)) hx rfl ?_ hk
  intro j v hj
  rw [add_lit']
  refine hS.cell h1 ?_
  have hj3 : j < 3 := by
    rcases Nat.lt_or_ge j 3 with h | h
    · exact h
    · rw [List.getElem?_eq_none (by simpa [op10Cell] using h)] at hj; cases hj
  rw [Nat.add_assoc]
  exact h2 _ _ ((ops10_get hq hj3).trans hj)
theorem W_loadOe [TyAgg P T] [TySize P T 2] (hx : ev f x = .pointer (some ⟨b, o + q * 3 + 1, none⟩)) (hb : Row H b o (ops10 l)) (hq : q < l.length) (hS : Sub H w) (hk : K (.agg #[.string (nth l q).e.key, .string (nth l q).e.val]) w) : OpW P r ⟨d, .load T x, ty, pos, af, g⟩ f w K := by
  obtain ⟨c, E, fr, h1, h2⟩ := hb
  refine W_loadAgg (s := 2) (cs := [.string (nth l q).e.key, .string (nth l q).e.val]) hx rfl ?_ hk
  intro j v hj
  rw [add_lit']
  refine hS.cell h1 ?_
  rw [Nat.add_assoc, Nat.add_assoc]
  match j with
  | 0 => exact h2 _ _ ((ops10_get hq (by omega)).trans hj)
  | 1 => exact h2 _ _ ((ops10_get hq (by omega)).trans hj)
  | j + 2 => simp at hj
end
def Op10.Ok (o : Op10) : Prop := SmallE o.e
section
variable {H : Type} {enc : TypeId × Value → H} {W : World}
theorem readOp10 {cs : List Value} (h : Trd enc Try.prog W 81 cs) : ∃ o, cs = op10Cell o ∧ o.Ok := by
  obtain ⟨h1, h2, h3, _⟩ := h.struct
  match cs, h1 with
  | [a, b, c], _ =>
    obtain ⟨d, e1⟩ := h2.bool
    obtain ⟨e, e2, w2⟩ := readEnt h3
    simp at e1
    simp [entCell] at e2
    obtain ⟨rfl, rfl⟩ := e2
    subst e1
    exact ⟨⟨d, e⟩, rfl, w2⟩
theorem openOp10 {v : Value} (h : Opn enc Try.prog W 81 v) : ∃ o : Op10, v = .agg (op10Cell o).toArray ∧ o.Ok := by
  obtain ⟨cs, rfl, _, _⟩ := h.struct
  obtain ⟨e, h1, h2⟩ := readOp10 h.2
  simp [Value.cells] at h1
  subst h1
  exact ⟨e, rfl, h2⟩
theorem openOps10 {v : Value} (h : Opn enc Try.prog W 33 v) : ∃ A c l, v = .slice A l.length c ∧ l.length ≤ c ∧ SlAt (snap W) A (ops10 l) ∧ (∀ o ∈ l, o.Ok) ∧ l.length * 40 ≤ reachBytes := by
  obtain ⟨A, n, c, css, rfl, h2, h3, h4, h5, h6, h7⟩ := h.slice
  obtain ⟨l, rfl, hl⟩ := decode op10Cell Op10.Ok css (fun x hx => readOp10 (h4 x hx).1)
  simp at h3
  subst h3
  exact ⟨A, c, l, rfl, h2, h5, hl, h6⟩
end
theorem ops10_some {H : HF} {A : Option Addr} {l : List Op10} (h : SlAt H A (ops10 l)) {q : Nat} (hq : q < l.length) : ∃ b off, A = some ⟨b, off, none⟩ ∧ Row H b off (ops10 l) := by
  rcases h with h | h
  · have := ops10_get (j := 0) hq (by omega)
    rw [h] at this
    simp [op10Cell] at this
  · exact h
end Go.Proofs.Ytnjeoobcejlojaa
