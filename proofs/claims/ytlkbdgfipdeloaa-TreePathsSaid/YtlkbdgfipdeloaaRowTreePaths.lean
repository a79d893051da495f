/- TreePaths: for every input it answers true, and what came in reads as before. Conditions: none. -/
import Derived.Test.YtlkbdgfipdeloaaRows
import Derived.Test.YtlkbdgfipdeloaaOpen
import Derived.Test.YtlkbdgfipdeloaaTreePaths
import Derived.JoinedOf
import Derived.KernelRfl
namespace Go.Proofs.Ytlkbdgfipdeloaa
open Go.Proofs Go.RowKit
set_option linter.unusedVariables false
set_option maxHeartbeats 4000000
namespace treePaths
theorem own : ownKnob Try.prog.godebug = none := by kernel_rfl
theorem laidOut : laidOutB Try.prog = true := by kernel_rfl
theorem rowed : rowable Try.prog [53, 9] = true := by kernel_rfl
set_option maxRecDepth 100000 in
theorem contract {H : Type} {enc : TypeId × Value → H} (W : World) (args : Array Value) (h : Args enc Try.prog W [53, 9] args.toList) : CallW Try.prog 9 args W fun v w' => v = .bool true ∧ Below W.heap.size W w' := by
  obtain ⟨l, hl⟩ : ∃ l, args.toList = l := ⟨_, rfl⟩
  rw [hl] at h
  match l, h with
  | [v0, v1], h =>
    obtain ⟨h0, h1, _⟩ := h
    obtain ⟨A, c, l, rfl, hn, hl2, hl3, hl4⟩ := openOps10 h0
    obtain ⟨s, rfl, hs⟩ := h1.str
    simp only [reachBytes] at hl4 hs
    exact law_of hl (treePaths_c _ A c l s hl2 (by omega) hl3 (by omega))
set_option maxRecDepth 100000 in
theorem lifted (os : Os) (started : os.Started) (H : Type) (enc : TypeId × Value → H) :
    ReturnsInHanded {} Try.checked os 9 .any (Rows.treePathsSpec.pre6 enc Try.prog Try.f9 Rows.treePathsRow.domain false) (Rows.treePathsSpec.post enc Try.prog Try.f9 false true false false) := by
  refine returnsInHanded_of_change_sized (C := Try.checked) own started (by kernel_rfl) Try.func9
    (ChangeSpec.witness6 (enc := enc) (C := Try.checked) false ⟨#[], #[.slice none 0 0, .string ByteArray.empty], []⟩ 8 (by kernel_rfl) (by kernel_rfl) (by kernel_rfl) (by kernel_rfl)) ?_
  intro W base args ds gs before hval hW _ hsz _
  have hp : Try.f9.params.toList = [53, 9] := by rw [Try.params9]
  refine row_close (P := Try.prog) (rt := 4) laidOut rfl (by rw [hp]; exact rowed) (by rfl) ?_ hval hW hsz (fun h => contract W args (by rw [← hp]; exact h))
  intro ds hd
  rw [hp] at hd
  match ds, hd with
  | [_, _], _ => rfl
theorem over : Rows.treePathsRow.holds Try.pinned (OpenSpec.ofChange Rows.treePathsSpec) :=
  OpenClaim.holds_of_wide 9 Try.f9 rfl rfl rfl rfl rfl rfl rfl ⟨rfl, rfl, rfl, rfl, rfl⟩ rfl rfl rfl rfl rfl (by kernel_rfl) Try.func9 (by kernel_rfl)
    (of_decide_eq_true (by kernel_rfl)) (by unfold Func.isWrapper; first | (rw [if_pos (by decide +kernel)]; kernel_rfl) | (rw [if_neg (by decide +kernel)]; exact ⟨rfl, rfl⟩))
    (fun os started H enc _ => lifted os started H enc)
end treePaths
theorem treePaths_holds : Rows.TreePathsSaid := treePaths.over
#print axioms treePaths_holds
end Go.Proofs.Ytlkbdgfipdeloaa
