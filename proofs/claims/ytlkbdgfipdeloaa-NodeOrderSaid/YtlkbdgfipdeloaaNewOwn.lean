/- A slice of the call's own, seen as a row that is written. Conditions: each law's own premises. -/
import Derived.Test.YtlkbdgfipdeloaaNew
namespace Go.Proofs.Ytlkbdgfipdeloaa
open Go.Proofs Go.RowKit
set_option linter.unusedVariables false
theorem Own.mut {H : HF} {w : World} {B : Nat} {E : TypeId} {sz : Nat} {A : Option Addr} {n cap : Nat} {xs : List Value} (h : Own H w B E sz A n cap xs) (h0 : 0 < n) :
    ∃ g cs, A = some ⟨g, 0, none⟩ ∧ B ≤ g ∧ Mut H w g cs ∧ cs.take (n * sz) = xs := by
  rcases h.row.2 with ⟨h1, h2⟩ | ⟨g, cap', cur, hv, hbg, hg, hnc, hcm, hcs, htake⟩
  · omega
  · have hA : A = some ⟨g, 0, none⟩ := by simp at hv; exact hv.1
    refine ⟨g, cur.toList, hA, hbg, ⟨h.out _ hA, E, ?_⟩, htake⟩
    simpa using hg
end Go.Proofs.Ytlkbdgfipdeloaa
