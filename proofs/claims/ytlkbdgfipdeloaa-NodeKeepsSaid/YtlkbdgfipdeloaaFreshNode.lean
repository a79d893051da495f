/- slices.Clone at Node: the copy lies in a block of its own. Conditions: sizes. -/
import Derived.Test.YtlkbdgfipdeloaaLibNode
namespace Go.Proofs.Ytlkbdgfipdeloaa
open Go.Proofs Go.RowKit
set_option linter.unusedVariables false
theorem cloneNew_Node (H : HF) (A : Option Addr) (n c : Nat) (cs : List Value) (hA : SlAt H A cs) (hl : cs.length = n * 1) (h1 : OneCells cs) (hn : n ≤ 100000000) (h0 : 0 < n) (hnc : n ≤ c) :
    Fn Try.prog 52 [.slice A n c] H fun v H' => ∃ A' c', v = .slice A' n c' ∧ n ≤ c' ∧ SlAt H' A' cs ∧ New H A' := by
  refine (cloneN_Node H A n c cs hA hl h1 hn hnc).mono ?_
  rintro v H' _ ⟨A', c', rfl, h2, ⟨_, h3, _⟩ | ⟨g, cur, rfl, h3, h4, h5, h6, h7, h8⟩⟩
  · omega
  · refine ⟨_, c', rfl, h5, .inr ⟨g, 0, rfl, cur, _, _, h3, fun i u hi => ?_⟩, fun a ha => by cases ha; exact h4⟩
    subst h8
    rw [List.getElem?_take] at hi
    split at hi
    · simpa using hi
    · cases hi
end Go.Proofs.Ytlkbdgfipdeloaa
