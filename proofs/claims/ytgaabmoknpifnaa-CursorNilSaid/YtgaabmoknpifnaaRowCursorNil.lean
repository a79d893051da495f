/- CursorNil: for every input it answers true, and what came in reads as before. Conditions: none. -/
import Derived.Test.YtgaabmoknpifnaaRows
import Derived.Test.YtgaabmoknpifnaaOpen
import Derived.Test.YtgaabmoknpifnaaBookCursorNil4
import Derived.JoinedOf
import Derived.KernelRfl
namespace Go.Proofs.Ytgaabmoknpifnaa
open Go.Proofs Go.RowKit
set_option linter.unusedVariables false
set_option maxHeartbeats 4000000
namespace cursorNil
theorem own : ownKnob Try.prog.godebug = none := by kernel_rfl
theorem laidOut : laidOutB Try.prog = true := by kernel_rfl
theorem rowed : rowable Try.prog [9, 5] = true := by kernel_rfl
set_option maxRecDepth 100000 in
theorem contract {H : Type} {enc : TypeId × Value → H} (W : World) (args : Array Value) (h : Args enc Try.prog W [9, 5] args.toList) : CallW Try.prog 12 args W fun v w' => v = .bool true ∧ Below W.heap.size W w' := by
  obtain ⟨l, hl⟩ : ∃ l, args.toList = l := ⟨_, rfl⟩
  rw [hl] at h
  match l, h with
  | [v0, v1], h =>
    obtain ⟨h0, h1, _⟩ := h
    obtain ⟨key, rfl, _⟩ := h0.str
    obtain ⟨n, rfl, hw⟩ := h1.int
    have hw : IntKind.u8.min ≤ n ∧ n ≤ IntKind.u8.max := by simpa [Lit.wf] using hw
    have h1 : (0 : Int) ≤ n := hw.1
    obtain ⟨q, rfl⟩ := Int.eq_ofNat_of_zero_le h1
    exact law_of hl (cursorNil_c _ key q)
set_option maxRecDepth 100000 in
theorem lifted (os : Os) (started : os.Started) (H : Type) (enc : TypeId × Value → H) :
    ReturnsInHanded {} Try.checked os 12 .any (Rows.cursorNilSpec.pre6 enc Try.prog Try.f12 Rows.cursorNilRow.domain false) (Rows.cursorNilSpec.post enc Try.prog Try.f12 false true false false) := by
  refine returnsInHanded_of_change_sized (C := Try.checked) own started (by kernel_rfl) Try.func12
    (ChangeSpec.witness6 (enc := enc) (C := Try.checked) false ⟨#[], #[.string ByteArray.empty, .int .u8 0], []⟩ 8 (by kernel_rfl) (by kernel_rfl) (by kernel_rfl) (by kernel_rfl)) ?_
  intro W base args ds gs before hval hW _ hsz _
  have hp : Try.f12.params.toList = [9, 5] := by rw [Try.params12]
  refine row_close (P := Try.prog) (rt := 4) laidOut rfl (by rw [hp]; exact rowed) (by rfl) ?_ hval hW hsz (fun h => contract W args (by rw [← hp]; exact h))
  intro ds hd
  rw [hp] at hd
  match ds, hd with
  | [_, _], _ => rfl
theorem over : Rows.cursorNilRow.holds Try.pinned (OpenSpec.ofChange Rows.cursorNilSpec) :=
  OpenClaim.holds_of_wide 12 Try.f12 rfl rfl rfl rfl rfl rfl rfl ⟨rfl, rfl, rfl, rfl, rfl⟩ rfl rfl rfl rfl rfl (by kernel_rfl) Try.func12 (by kernel_rfl)
    (of_decide_eq_true (by kernel_rfl)) (by unfold Func.isWrapper; first | (rw [if_pos (by decide +kernel)]; kernel_rfl) | (rw [if_neg (by decide +kernel)]; exact ⟨rfl, rfl⟩))
    (fun os started H enc _ => lifted os started H enc)
end cursorNil
theorem cursorNil_holds : Rows.CursorNilSaid := cursorNil.over
#print axioms cursorNil_holds
end Go.Proofs.Ytgaabmoknpifnaa
