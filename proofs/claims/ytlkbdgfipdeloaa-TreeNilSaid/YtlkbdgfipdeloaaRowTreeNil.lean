/- TreeNil: for every input it answers true, and what came in reads as before. Conditions: none. -/
import Derived.Test.YtlkbdgfipdeloaaRows
import Derived.Test.YtlkbdgfipdeloaaOpen
import Derived.Test.YtlkbdgfipdeloaaTreeNil
import Derived.JoinedOf
import Derived.KernelRfl
namespace Go.Proofs.Ytlkbdgfipdeloaa
open Go.Proofs Go.RowKit
set_option linter.unusedVariables false
set_option maxHeartbeats 4000000
namespace treeNil
theorem own : ownKnob Try.prog.godebug = none := by kernel_rfl
theorem laidOut : laidOutB Try.prog = true := by kernel_rfl
theorem rowed : rowable Try.prog [9] = true := by kernel_rfl
set_option maxRecDepth 100000 in
theorem contract {H : Type} {enc : TypeId × Value → H} (W : World) (args : Array Value) (h : Args enc Try.prog W [9] args.toList) : CallW Try.prog 14 args W fun v w' => v = .bool true ∧ Below W.heap.size W w' := by
  obtain ⟨l, hl⟩ : ∃ l, args.toList = l := ⟨_, rfl⟩
  rw [hl] at h
  match l, h with
  | [v0], h =>
    obtain ⟨h0, _⟩ := h
    obtain ⟨s, rfl, hs⟩ := h0.str
    exact law_of hl (treeNil_c _ s)
set_option maxRecDepth 100000 in
theorem lifted (os : Os) (started : os.Started) (H : Type) (enc : TypeId × Value → H) :
    ReturnsInHanded {} Try.checked os 14 .any (Rows.treeNilSpec.pre6 enc Try.prog Try.f14 Rows.treeNilRow.domain false) (Rows.treeNilSpec.post enc Try.prog Try.f14 false true false false) := by
  refine returnsInHanded_of_change_sized (C := Try.checked) own started (by kernel_rfl) Try.func14
    (ChangeSpec.witness6 (enc := enc) (C := Try.checked) false ⟨#[], #[.string ByteArray.empty], []⟩ 8 (by kernel_rfl) (by kernel_rfl) (by kernel_rfl) (by kernel_rfl)) ?_
  intro W base args ds gs before hval hW _ hsz _
  have hp : Try.f14.params.toList = [9] := by rw [Try.params14]
  refine row_close (P := Try.prog) (rt := 4) laidOut rfl (by rw [hp]; exact rowed) (by rfl) ?_ hval hW hsz (fun h => contract W args (by rw [← hp]; exact h))
  intro ds hd
  rw [hp] at hd
  match ds, hd with
  | [_], _ => rfl
theorem over : Rows.treeNilRow.holds Try.pinned (OpenSpec.ofChange Rows.treeNilSpec) :=
  OpenClaim.holds_of_wide 14 Try.f14 rfl rfl rfl rfl rfl rfl rfl ⟨rfl, rfl, rfl, rfl, rfl⟩ rfl rfl rfl rfl rfl (by kernel_rfl) Try.func14 (by kernel_rfl)
    (of_decide_eq_true (by kernel_rfl)) (by unfold Func.isWrapper; first | (rw [if_pos (by decide +kernel)]; kernel_rfl) | (rw [if_neg (by decide +kernel)]; exact ⟨rfl, rfl⟩))
    (fun os started H enc _ => lifted os started H enc)
end treeNil
theorem treeNil_holds : Rows.TreeNilSaid := treeNil.over
#print axioms treeNil_holds
end Go.Proofs.Ytlkbdgfipdeloaa
