/- DiffFew: for every input it answers true, and what came in reads as before. Conditions: none. -/
import Derived.Test.YtnjeoobcejlojaaRows
import Derived.Test.YtnjeoobcejlojaaOpen
import Derived.Test.YtnjeoobcejlojaaDiffFew
import Derived.JoinedOf
import Derived.KernelRfl
namespace Go.Proofs.Ytnjeoobcejlojaa
open Go.Proofs Go.RowKit
set_option linter.unusedVariables false
set_option maxHeartbeats 4000000
namespace diffFew
theorem own : ownKnob Try.prog.godebug = none := by kernel_rfl
theorem laidOut : laidOutB Try.prog = true := by kernel_rfl
theorem rowed : rowable Try.prog [33, 33] = true := by kernel_rfl
set_option maxRecDepth 100000 in
theorem contract {H : Type} {enc : TypeId × Value → H} (W : World) (args : Array Value) (h : Args enc Try.prog W [33, 33] args.toList) : CallW Try.prog 5 args W fun v w' => v = .bool true ∧ Below W.heap.size W w' := by
  obtain ⟨l, hl⟩ : ∃ l, args.toList = l := ⟨_, rfl⟩
  rw [hl] at h
  match l, h with
  | [v0, v1], h =>
    obtain ⟨h0, h1, _⟩ := h
    obtain ⟨A, c, a, rfl, hn, hl2, hl3, hl4⟩ := openOps10 h0
    obtain ⟨B, d, b, rfl, hm, hm2, hm3, hm4⟩ := openOps10 h1
    simp only [reachBytes] at hl4 hm4
    exact law_of hl (diffFew_c _ A B c d a b hl2 hm2 (by omega) (by omega) hl3 hm3)
set_option maxRecDepth 100000 in
theorem lifted (os : Os) (started : os.Started) (H : Type) (enc : TypeId × Value → H) :
    ReturnsInHanded {} Try.checked os 5 .any (Rows.diffFewSpec.pre6 enc Try.prog Try.f5 Rows.diffFewRow.domain false) (Rows.diffFewSpec.post enc Try.prog Try.f5 false true false false) := by
  refine returnsInHanded_of_change_sized (C := Try.checked) own started (by kernel_rfl) Try.func5
    (ChangeSpec.witness6 (enc := enc) (C := Try.checked) false ⟨#[], #[.slice none 0 0, .slice none 0 0], []⟩ 8 (by kernel_rfl) (by kernel_rfl) (by kernel_rfl) (by kernel_rfl)) ?_
  intro W base args ds gs before hval hW _ hsz _
  have hp : Try.f5.params.toList = [33, 33] := by rw [Try.params5]
  refine row_close (P := Try.prog) (rt := 4) laidOut rfl (by rw [hp]; exact rowed) (by rfl) ?_ hval hW hsz (fun h => contract W args (by rw [← hp]; exact h))
  intro ds hd
  rw [hp] at hd
  match ds, hd with
  | [_, _], _ => rfl
theorem over : Rows.diffFewRow.holds Try.pinned (OpenSpec.ofChange Rows.diffFewSpec) :=
  OpenClaim.holds_of_wide 5 Try.f5 rfl rfl rfl rfl rfl rfl rfl ⟨rfl, rfl, rfl, rfl, rfl⟩ rfl rfl rfl rfl rfl (by kernel_rfl) Try.func5 (by kernel_rfl)
    (of_decide_eq_true (by kernel_rfl)) (by unfold Func.isWrapper; first | (rw [if_pos (by decide +kernel)]; kernel_rfl) | (rw [if_neg (by decide +kernel)]; exact ⟨rfl, rfl⟩))
    (fun os started H enc _ => lifted os started H enc)
end diffFew
theorem diffFew_holds : Rows.DiffFewSaid := diffFew.over
#print axioms diffFew_holds
end Go.Proofs.Ytnjeoobcejlojaa
