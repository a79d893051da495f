/- Arguments that are entries, opened. Conditions: each law's own premises. -/
import Derived.Test.YtnjeoobcejlojaaTyb
namespace Go.Proofs.Ytnjeoobcejlojaa
open Go.Proofs Go.RowKit
set_option linter.unusedVariables false
def SmallE (e : Ent) : Prop := e.key.size ≤ reachBytes ∧ e.val.size ≤ reachBytes
def Small (l : List Ent) : Prop := ∀ e ∈ l, SmallE e
def entCell (e : Ent) : List Value := [.string e.key, .string e.val]
theorem entCells_flat (l : List Ent) : (l.map entCell).flatten = entCells l := by
  induction l with
  | nil => rfl
  | cons e l ih => simp [entCells, entCell, ih]
section
variable {H : Type} {enc : TypeId × Value → H} {W : World}
theorem readEnt {cs : List Value} (h : Trd enc Try.prog W 60 cs) : ∃ e, cs = entCell e ∧ SmallE e := by
  obtain ⟨h1, h2, h3, _⟩ := h.struct
  match cs, h1 with
  | [a, b], _ =>
    obtain ⟨s, h4, h5⟩ := h2.str
    obtain ⟨u, h6, h7⟩ := h3.str
    simp at h4 h6
    subst h4 h6
    exact ⟨⟨s, u⟩, rfl, h5, h7⟩
theorem readEnts {v : Value} (h : Trd enc Try.prog W 39 [v]) : ∃ A c l, v = .slice A l.length c ∧ l.length ≤ c ∧ EntsAt (snap W) A l ∧ Small l ∧ l.length * 32 ≤ reachBytes ∧ (A = none → l.length = 0 ∧ c = 0) := by
  obtain ⟨A, n, c, css, hv, h2, h3, h4, h5, h6, h7⟩ := h.slice
  obtain ⟨l, rfl, hl⟩ := decode entCell SmallE css (fun x hx => readEnt (h4 x hx).1)
  simp at h3 hv
  subst h3
  rw [entCells_flat] at h5
  exact ⟨A, c, l, hv, h2, h5, hl, h6, h7⟩
theorem openEnts {v : Value} (h : Opn enc Try.prog W 39 v) : ∃ A c l, v = .slice A l.length c ∧ l.length ≤ c ∧ EntsAt (snap W) A l ∧ Small l ∧ l.length * 32 ≤ reachBytes ∧ (A = none → l.length = 0 ∧ c = 0) := by
  obtain ⟨A, n, c, css, rfl, _⟩ := h.slice
  exact readEnts h.2
theorem openEnt {v : Value} (h : Opn enc Try.prog W 60 v) : ∃ e, v = .agg #[.string e.key, .string e.val] ∧ SmallE e := by
  obtain ⟨cs, rfl, _, _⟩ := h.struct
  obtain ⟨e, h1, h2⟩ := readEnt h.2
  simp [Value.cells] at h1
  subst h1
  exact ⟨e, rfl, h2⟩
end
end Go.Proofs.Ytnjeoobcejlojaa
