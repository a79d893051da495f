/- CellNil: for every input it answers true, and what came in reads as before. Conditions: none. -/
import Derived.Test.YtaimilhkfmpdoaaRows
import Derived.Test.YtaimilhkfmpdoaaOpen
import Derived.Test.YtaimilhkfmpdoaaLaw08
import Derived.Test.YtaimilhkfmpdoaaOpenOp8
import Derived.JoinedOf
import Derived.KernelRfl
namespace Go.Proofs.Ytaimilhkfmpdoaa
open Go.Proofs Go.RowKit
set_option linter.unusedVariables false
set_option maxHeartbeats 4000000
namespace cellNil
theorem own : ownKnob Try.prog.godebug = none := by kernel_rfl
theorem laidOut : laidOutB Try.prog = true := by kernel_rfl
theorem rowed : rowable Try.prog [29, 4] = true := by kernel_rfl
theorem contract {H : Type} {enc : TypeId × Value → H} (W : World) (args : Array Value) (h : Args enc Try.prog W [29, 4] args.toList) : CallW Try.prog 6 args W fun v w' => v = .bool true ∧ Below W.heap.size W w' := by
  obtain ⟨l, hl⟩ : ∃ l, args.toList = l := ⟨_, rfl⟩
  rw [hl] at h
  match l, h with
  | [v0, v1], h =>
    obtain ⟨h0, h1, _⟩ := h
    obtain ⟨o, rfl, _⟩ := openOp8 h0
    obtain ⟨z, rfl⟩ := h1.bool
    exact law_of hl (cellNil_c _ o.kind o.i o.old o.x z)
set_option maxRecDepth 100000 in
theorem lifted (os : Os) (started : os.Started) (H : Type) (enc : TypeId × Value → H) :
    ReturnsInHanded {} Try.checked os 6 .any (Rows.cellNilSpec.pre6 enc Try.prog Try.f6 Rows.cellNilRow.domain false) (Rows.cellNilSpec.post enc Try.prog Try.f6 false true false false) := by
  refine returnsInHanded_of_change_sized (C := Try.checked) own started (by kernel_rfl) Try.func6
    (ChangeSpec.witness6 (enc := enc) (C := Try.checked) false ⟨#[], #[.agg #[.int .i64 0, .int .i64 0, .int .i64 0, .int .i64 0], .bool false], []⟩ 8 (by kernel_rfl) (by kernel_rfl) (by kernel_rfl) (by kernel_rfl)) ?_
  intro W base args ds gs before hval hW _ hsz _
  have hp : Try.f6.params.toList = [29, 4] := by rw [Try.params6]
  refine row_close (P := Try.prog) (rt := 4) laidOut rfl (by rw [hp]; exact rowed) (by rfl) ?_ hval hW hsz (fun h => contract W args (by rw [← hp]; exact h))
  intro ds hd
  rw [hp] at hd
  match ds, hd with
  | [_, _], _ => rfl
theorem over : Rows.cellNilRow.holds Try.pinned (OpenSpec.ofChange Rows.cellNilSpec) :=
  OpenClaim.holds_of_wide 6 Try.f6 rfl rfl rfl rfl rfl rfl rfl ⟨rfl, rfl, rfl, rfl, rfl⟩ rfl rfl rfl rfl rfl (by kernel_rfl) Try.func6 (by kernel_rfl)
    (of_decide_eq_true (by kernel_rfl)) (by unfold Func.isWrapper; first | (rw [if_pos (by decide +kernel)]; kernel_rfl) | (rw [if_neg (by decide +kernel)]; exact ⟨rfl, rfl⟩))
    (fun os started H enc _ => lifted os started H enc)
end cellNil
theorem cellNil_holds : Rows.CellNilSaid := cellNil.over
#print axioms cellNil_holds
end Go.Proofs.Ytaimilhkfmpdoaa
