/- DiffTells: for every input it answers true, and what came in reads as before. Conditions: none. -/
import Derived.Test.YtnjeoobcejlojaaRows
import Derived.Test.YtnjeoobcejlojaaOpen
import Derived.Test.YtnjeoobcejlojaaDiffTells
import Derived.JoinedOf
import Derived.KernelRfl
namespace Go.Proofs.Ytnjeoobcejlojaa
open Go.Proofs Go.RowKit
set_option linter.unusedVariables false
set_option maxHeartbeats 4000000
namespace diffTells
theorem own : ownKnob Try.prog.godebug = none := by kernel_rfl
theorem laidOut : laidOutB Try.prog = true := by kernel_rfl
theorem rowed : rowable Try.prog [33, 33, 4] = true := by kernel_rfl
set_option maxRecDepth 100000 in
theorem contract {H : Type} {enc : TypeId × Value → H} (W : World) (args : Array Value) (h : Args enc Try.prog W [33, 33, 4] args.toList) : CallW Try.prog 4 args W fun v w' => v = .bool true ∧ Below W.heap.size W w' := by
  obtain ⟨l, hl⟩ : ∃ l, args.toList = l := ⟨_, rfl⟩
  rw [hl] at h
  match l, h with
  | [v0, v1, v2], h =>
    obtain ⟨h0, h1, h2, _⟩ := h
    obtain ⟨A, c, a, rfl, hn, hl2, hl3, hl4⟩ := openOps10 h0
    obtain ⟨B, d, b, rfl, hm, hm2, hm3, hm4⟩ := openOps10 h1
    obtain ⟨s, rfl⟩ := h2.bool
    simp only [reachBytes] at hl4 hm4
    exact law_of hl (diffTells_c _ A B c d a b s hl2 hm2 (by omega) (by omega) hl3 hm3)
set_option maxRecDepth 100000 in
theorem lifted (os : Os) (started : os.Started) (H : Type) (enc : TypeId × Value → H) :
    ReturnsInHanded {} Try.checked os 4 .any (Rows.diffTellsSpec.pre6 enc Try.prog Try.f4 Rows.diffTellsRow.domain false) (Rows.diffTellsSpec.post enc Try.prog Try.f4 false true false false) := by
  refine returnsInHanded_of_change_sized (C := Try.checked) own started (by kernel_rfl) Try.func4
    (ChangeSpec.witness6 (enc := enc) (C := Try.checked) false ⟨#[], #[.slice none 0 0, .slice none 0 0, .bool false], []⟩ 8 (by kernel_rfl) (by kernel_rfl) (by kernel_rfl) (by kernel_rfl)) ?_
  intro W base args ds gs before hval hW _ hsz _
  have hp : Try.f4.params.toList = [33, 33, 4] := by rw [Try.params4]
  refine row_close (P := Try.prog) (rt := 4) laidOut rfl (by rw [hp]; exact rowed) (by rfl) ?_ hval hW hsz (fun h => contract W args (by rw [← hp]; exact h))
  intro ds hd
  rw [hp] at hd
  match ds, hd with
  | [_, _, _], _ => rfl
theorem over : Rows.diffTellsRow.holds Try.pinned (OpenSpec.ofChange Rows.diffTellsSpec) :=
  OpenClaim.holds_of_wide 4 Try.f4 rfl rfl rfl rfl rfl rfl rfl ⟨rfl, rfl, rfl, rfl, rfl⟩ rfl rfl rfl rfl rfl (by kernel_rfl) Try.func4 (by kernel_rfl)
    (of_decide_eq_true (by kernel_rfl)) (by unfold Func.isWrapper; first | (rw [if_pos (by decide +kernel)]; kernel_rfl) | (rw [if_neg (by decide +kernel)]; exact ⟨rfl, rfl⟩))
    (fun os started H enc _ => lifted os started H enc)
end diffTells
theorem diffTells_holds : Rows.DiffTellsSaid := diffTells.over
#print axioms diffTells_holds
end Go.Proofs.Ytnjeoobcejlojaa
