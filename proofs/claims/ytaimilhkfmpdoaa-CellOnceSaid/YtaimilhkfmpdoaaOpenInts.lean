/- Arguments that are slices of numbers, opened. Conditions: each law's own premises. -/
import Derived.Test.YtaimilhkfmpdoaaTyb
import Derived.Test.YtaimilhkfmpdoaaMemBase
namespace Go.Proofs.Ytaimilhkfmpdoaa
open Go.Proofs Go.RowKit
set_option linter.unusedVariables false
section
variable {H : Type} {enc : TypeId × Value → H} {W : World}
theorem flat_map1 {α : Type} (val : α → Value) (l : List α) : (l.map fun n => [val n]).flatten = l.map val := by
  induction l with
  | nil => rfl
  | cons x l ih => simp [ih]
theorem openInts {v : Value} (h : Opn enc Try.prog W 42 v) : ∃ A c, ∃ l : List Int, v = .slice A l.length c ∧ l.length ≤ c ∧ SlAt (snap W) A (l.map vI) ∧ l.length * 8 ≤ reachBytes := by
  obtain ⟨A, n, c, css, rfl, h2, h3, h4, h5, h6, h7⟩ := h.slice
  obtain ⟨l, rfl, hl⟩ := decode (fun n => [vI n]) (fun _ => True) css (fun x hx => by
    obtain ⟨n, e, _⟩ := (h4 x hx).1.int
    exact ⟨n, e, trivial⟩)
  simp at h3
  subst h3
  rw [flat_map1] at h5
  exact ⟨A, c, l, rfl, h2, h5, h6⟩
end
end Go.Proofs.Ytaimilhkfmpdoaa
