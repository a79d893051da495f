/- WalkAgain: for every input it answers true, and what came in reads as before. Conditions: none. -/
import Derived.Test.YtgaabmoknpifnaaRows
import Derived.Test.YtgaabmoknpifnaaOpen
import Derived.Test.YtgaabmoknpifnaaBookWalkAgain3
import Derived.JoinedOf
import Derived.KernelRfl
namespace Go.Proofs.Ytgaabmoknpifnaa
open Go.Proofs Go.RowKit
set_option linter.unusedVariables false
set_option maxHeartbeats 4000000
namespace walkAgain
theorem own : ownKnob Try.prog.godebug = none := by kernel_rfl
theorem laidOut : laidOutB Try.prog = true := by kernel_rfl
theorem rowed : rowable Try.prog [22, 9, 5] = true := by kernel_rfl
set_option maxRecDepth 100000 in
theorem contract {H : Type} {enc : TypeId × Value → H} (W : World) (args : Array Value) (h : Args enc Try.prog W [22, 9, 5] args.toList) : CallW Try.prog 4 args W fun v w' => v = .bool true ∧ Below W.heap.size W w' := by
  obtain ⟨l, hl⟩ : ∃ l, args.toList = l := ⟨_, rfl⟩
  rw [hl] at h
  match l, h with
  | [v0, v1, v2], h =>
    obtain ⟨h0, h1, h2, _⟩ := h
    obtain ⟨A, c, l, rfl, hn, hl2, hl3, hl4⟩ := openEnts h0
    obtain ⟨k, rfl, hk⟩ := h1.str
    obtain ⟨n, rfl, hw⟩ := h2.int
    simp only [reachBytes] at hl4 hk
    replace hw : IntKind.u8.min ≤ n ∧ n ≤ IntKind.u8.max := by simpa [Lit.wf] using hw
    have w1 : (0 : Int) ≤ n := hw.1
    have w2 : n ≤ (255 : Int) := hw.2
    obtain ⟨m, rfl⟩ := Int.eq_ofNat_of_zero_le w1
    exact law_of hl (walkAgain_c _ A c l k m hl2 (by omega) (fun e he => by have := hl3 e he; simp only [SmallE, reachBytes] at this; omega) (by omega) (by omega))
set_option maxRecDepth 100000 in
theorem lifted (os : Os) (started : os.Started) (H : Type) (enc : TypeId × Value → H) :
    ReturnsInHanded {} Try.checked os 4 .any (Rows.walkAgainSpec.pre6 enc Try.prog Try.f4 Rows.walkAgainRow.domain false) (Rows.walkAgainSpec.post enc Try.prog Try.f4 false true false false) := by
  refine returnsInHanded_of_change_sized (C := Try.checked) own started (by kernel_rfl) Try.func4
    (ChangeSpec.witness6 (enc := enc) (C := Try.checked) false ⟨#[], #[.slice none 0 0, .string ByteArray.empty, .int .u8 0], []⟩ 8 (by kernel_rfl) (by kernel_rfl) (by kernel_rfl) (by kernel_rfl)) ?_
  intro W base args ds gs before hval hW _ hsz _
  have hp : Try.f4.params.toList = [22, 9, 5] := by rw [Try.params4]
  refine row_close (P := Try.prog) (rt := 4) laidOut rfl (by rw [hp]; exact rowed) (by rfl) ?_ hval hW hsz (fun h => contract W args (by rw [← hp]; exact h))
  intro ds hd
  rw [hp] at hd
  match ds, hd with
  | [_, _, _], _ => rfl
theorem over : Rows.walkAgainRow.holds Try.pinned (OpenSpec.ofChange Rows.walkAgainSpec) :=
  OpenClaim.holds_of_wide 4 Try.f4 rfl rfl rfl rfl rfl rfl rfl ⟨rfl, rfl, rfl, rfl, rfl⟩ rfl rfl rfl rfl rfl (by kernel_rfl) Try.func4 (by kernel_rfl)
    (of_decide_eq_true (by kernel_rfl)) (by unfold Func.isWrapper; first | (rw [if_pos (by decide +kernel)]; kernel_rfl) | (rw [if_neg (by decide +kernel)]; exact ⟨rfl, rfl⟩))
    (fun os started H enc _ => lifted os started H enc)
end walkAgain
theorem walkAgain_holds : Rows.WalkAgainSaid := walkAgain.over
#print axioms walkAgain_holds
end Go.Proofs.Ytgaabmoknpifnaa
