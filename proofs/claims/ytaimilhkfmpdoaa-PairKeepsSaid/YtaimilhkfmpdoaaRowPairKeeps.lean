/- PairKeeps: for every input it answers true, and what came in reads as before. Conditions: none. -/
import Derived.Test.YtaimilhkfmpdoaaRows
import Derived.Test.YtaimilhkfmpdoaaOpen
import Derived.Test.YtaimilhkfmpdoaaPairKeeps
import Derived.JoinedOf
import Derived.KernelRfl
namespace Go.Proofs.Ytaimilhkfmpdoaa
open Go.Proofs Go.RowKit
set_option linter.unusedVariables false
set_option maxHeartbeats 4000000
namespace pairKeeps
theorem own : ownKnob Try.prog.godebug = none := by kernel_rfl
theorem laidOut : laidOutB Try.prog = true := by kernel_rfl
theorem rowed : rowable Try.prog [58, 62] = true := by kernel_rfl
set_option maxRecDepth 100000 in
theorem contract {H : Type} {enc : TypeId × Value → H} (W : World) (args : Array Value) (h : Args enc Try.prog W [58, 62] args.toList) : CallW Try.prog 12 args W fun v w' => v = .bool true ∧ Below W.heap.size W w' := by
  obtain ⟨l, hl⟩ : ∃ l, args.toList = l := ⟨_, rfl⟩
  rw [hl] at h
  match l, h with
  | [v0, v1], h =>
    obtain ⟨h0, h1, _⟩ := h
    obtain ⟨A, c, l, rfl, hn, hl2, hl3, hl4, _⟩ := openEnts h0
    obtain ⟨e, rfl, he⟩ := openEnt h1
    simp only [reachBytes] at hl4
    exact law_of hl (pairKeeps_c _ A c l e hl2 hn (by omega) hl3 he)
set_option maxRecDepth 100000 in
theorem lifted (os : Os) (started : os.Started) (H : Type) (enc : TypeId × Value → H) :
    ReturnsInHanded {} Try.checked os 12 .any (Rows.pairKeepsSpec.pre6 enc Try.prog Try.f12 Rows.pairKeepsRow.domain false) (Rows.pairKeepsSpec.post enc Try.prog Try.f12 false true false false) := by
  refine returnsInHanded_of_change_sized (C := Try.checked) own started (by kernel_rfl) Try.func12
    (ChangeSpec.witness6 (enc := enc) (C := Try.checked) false ⟨#[], #[.slice none 0 0, .agg #[.string ByteArray.empty, .string ByteArray.empty]], []⟩ 8 (by kernel_rfl) (by kernel_rfl) (by kernel_rfl) (by kernel_rfl)) ?_
  intro W base args ds gs before hval hW _ hsz _
  have hp : Try.f12.params.toList = [58, 62] := by rw [Try.params12]
  refine row_close (P := Try.prog) (rt := 4) laidOut rfl (by rw [hp]; exact rowed) (by rfl) ?_ hval hW hsz (fun h => contract W args (by rw [← hp]; exact h))
  intro ds hd
  rw [hp] at hd
  match ds, hd with
  | [_, _], _ => rfl
theorem over : Rows.pairKeepsRow.holds Try.pinned (OpenSpec.ofChange Rows.pairKeepsSpec) :=
  OpenClaim.holds_of_wide 12 Try.f12 rfl rfl rfl rfl rfl rfl rfl ⟨rfl, rfl, rfl, rfl, rfl⟩ rfl rfl rfl rfl rfl (by kernel_rfl) Try.func12 (by kernel_rfl)
    (of_decide_eq_true (by kernel_rfl)) (by unfold Func.isWrapper; first | (rw [if_pos (by decide +kernel)]; kernel_rfl) | (rw [if_neg (by decide +kernel)]; exact ⟨rfl, rfl⟩))
    (fun os started H enc _ => lifted os started H enc)
end pairKeeps
theorem pairKeeps_holds : Rows.PairKeepsSaid := pairKeeps.over
#print axioms pairKeeps_holds
end Go.Proofs.Ytaimilhkfmpdoaa
