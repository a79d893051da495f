/- CursorAll: for every input it answers true, and what came in reads as before. Conditions: none. -/
import Derived.Test.YtgaabmoknpifnaaRows
import Derived.Test.YtgaabmoknpifnaaOpen
import Derived.Test.YtgaabmoknpifnaaBookCursorAll4
import Derived.JoinedOf
import Derived.KernelRfl
namespace Go.Proofs.Ytgaabmoknpifnaa
open Go.Proofs Go.RowKit
set_option linter.unusedVariables false
set_option maxHeartbeats 4000000
namespace cursorAll
theorem own : ownKnob Try.prog.godebug = none := by kernel_rfl
theorem laidOut : laidOutB Try.prog = true := by kernel_rfl
theorem rowed : rowable Try.prog [22, 22] = true := by kernel_rfl
set_option maxRecDepth 100000 in
theorem contract {H : Type} {enc : TypeId × Value → H} (W : World) (args : Array Value) (h : Args enc Try.prog W [22, 22] args.toList) : CallW Try.prog 13 args W fun v w' => v = .bool true ∧ Below W.heap.size W w' := by
  obtain ⟨l, hl⟩ : ∃ l, args.toList = l := ⟨_, rfl⟩
  rw [hl] at h
  match l, h with
  | [v0, v1], h =>
    obtain ⟨h0, h1, _⟩ := h
    obtain ⟨A, c, l, rfl, hn, hl2, hl3, hl4⟩ := openEnts h0
    obtain ⟨B, d, s, rfl, hm, hs2, hs3, hs4⟩ := openEnts h1
    simp only [reachBytes] at hl4 hs4
    exact law_of hl (cursorAll_c _ A B c d l s hl2 (by omega) (fun e he => by have := hl3 e he; simp only [SmallE, reachBytes] at this; omega) hs2 (by omega) (fun e he => by have := hs3 e he; simp only [SmallE, reachBytes] at this; omega))
set_option maxRecDepth 100000 in
theorem lifted (os : Os) (started : os.Started) (H : Type) (enc : TypeId × Value → H) :
    ReturnsInHanded {} Try.checked os 13 .any (Rows.cursorAllSpec.pre6 enc Try.prog Try.f13 Rows.cursorAllRow.domain false) (Rows.cursorAllSpec.post enc Try.prog Try.f13 false true false false) := by
  refine returnsInHanded_of_change_sized (C := Try.checked) own started (by kernel_rfl) Try.func13
    (ChangeSpec.witness6 (enc := enc) (C := Try.checked) false ⟨#[], #[.slice none 0 0, .slice none 0 0], []⟩ 8 (by kernel_rfl) (by kernel_rfl) (by kernel_rfl) (by kernel_rfl)) ?_
  intro W base args ds gs before hval hW _ hsz _
  have hp : Try.f13.params.toList = [22, 22] := by rw [Try.params13]
  refine row_close (P := Try.prog) (rt := 4) laidOut rfl (by rw [hp]; exact rowed) (by rfl) ?_ hval hW hsz (fun h => contract W args (by rw [← hp]; exact h))
  intro ds hd
  rw [hp] at hd
  match ds, hd with
  | [_, _], _ => rfl
theorem over : Rows.cursorAllRow.holds Try.pinned (OpenSpec.ofChange Rows.cursorAllSpec) :=
  OpenClaim.holds_of_wide 13 Try.f13 rfl rfl rfl rfl rfl rfl rfl ⟨rfl, rfl, rfl, rfl, rfl⟩ rfl rfl rfl rfl rfl (by kernel_rfl) Try.func13 (by kernel_rfl)
    (of_decide_eq_true (by kernel_rfl)) (by unfold Func.isWrapper; first | (rw [if_pos (by decide +kernel)]; kernel_rfl) | (rw [if_neg (by decide +kernel)]; exact ⟨rfl, rfl⟩))
    (fun os started H enc _ => lifted os started H enc)
end cursorAll
theorem cursorAll_holds : Rows.CursorAllSaid := cursorAll.over
#print axioms cursorAll_holds
end Go.Proofs.Ytgaabmoknpifnaa
