/- DiffBack: for every input it answers true, and what came in reads as before. Conditions: none. -/
import Derived.Test.YtnjeoobcejlojaaRows
import Derived.Test.YtnjeoobcejlojaaOpen
import Derived.Test.YtnjeoobcejlojaaDiffBack
import Derived.JoinedOf
import Derived.KernelRfl
namespace Go.Proofs.Ytnjeoobcejlojaa
open Go.Proofs Go.RowKit
set_option linter.unusedVariables false
set_option maxHeartbeats 4000000
namespace diffBack
theorem own : ownKnob Try.prog.godebug = none := by kernel_rfl
theorem laidOut : laidOutB Try.prog = true := by kernel_rfl
theorem rowed : rowable Try.prog [22] = true := by kernel_rfl
set_option maxRecDepth 100000 in
theorem contract {H : Type} {enc : TypeId × Value → H} (W : World) (args : Array Value) (h : Args enc Try.prog W [22] args.toList) : CallW Try.prog 3 args W fun v w' => v = .bool true ∧ Below W.heap.size W w' := by
  obtain ⟨l, hl⟩ : ∃ l, args.toList = l := ⟨_, rfl⟩
  rw [hl] at h
  match l, h with
  | [v0], h =>
    obtain ⟨h0, _⟩ := h
    obtain ⟨A, c, l, rfl, hn, hl2, hl4⟩ := openChgs h0
    simp only [reachBytes] at hl4
    exact law_of hl (diffBack_c _ A c l hl2 (by omega))
set_option maxRecDepth 100000 in
theorem lifted (os : Os) (started : os.Started) (H : Type) (enc : TypeId × Value → H) :
    ReturnsInHanded {} Try.checked os 3 .any (Rows.diffBackSpec.pre6 enc Try.prog Try.f3 Rows.diffBackRow.domain false) (Rows.diffBackSpec.post enc Try.prog Try.f3 false true false false) := by
  refine returnsInHanded_of_change_sized (C := Try.checked) own started (by kernel_rfl) Try.func3
    (ChangeSpec.witness6 (enc := enc) (C := Try.checked) false ⟨#[], #[.slice none 0 0], []⟩ 8 (by kernel_rfl) (by kernel_rfl) (by kernel_rfl) (by kernel_rfl)) ?_
  intro W base args ds gs before hval hW _ hsz _
  have hp : Try.f3.params.toList = [22] := by rw [Try.params3]
  refine row_close (P := Try.prog) (rt := 4) laidOut rfl (by rw [hp]; exact rowed) (by rfl) ?_ hval hW hsz (fun h => contract W args (by rw [← hp]; exact h))
  intro ds hd
  rw [hp] at hd
  match ds, hd with
  | [_], _ => rfl
theorem over : Rows.diffBackRow.holds Try.pinned (OpenSpec.ofChange Rows.diffBackSpec) :=
  OpenClaim.holds_of_wide 3 Try.f3 rfl rfl rfl rfl rfl rfl rfl ⟨rfl, rfl, rfl, rfl, rfl⟩ rfl rfl rfl rfl rfl (by kernel_rfl) Try.func3 (by kernel_rfl)
    (of_decide_eq_true (by kernel_rfl)) (by unfold Func.isWrapper; first | (rw [if_pos (by decide +kernel)]; kernel_rfl) | (rw [if_neg (by decide +kernel)]; exact ⟨rfl, rfl⟩))
    (fun os started H enc _ => lifted os started H enc)
end diffBack
theorem diffBack_holds : Rows.DiffBackSaid := diffBack.over
#print axioms diffBack_holds
end Go.Proofs.Ytnjeoobcejlojaa
