/- CursorPlays: for every input it answers true, and what came in reads as before. Conditions: none. -/
import Derived.Test.YtgaabmoknpifnaaRows
import Derived.Test.YtgaabmoknpifnaaOpen
import Derived.Test.YtgaabmoknpifnaaBookCursorPlays4
import Derived.JoinedOf
import Derived.KernelRfl
namespace Go.Proofs.Ytgaabmoknpifnaa
open Go.Proofs Go.RowKit
set_option linter.unusedVariables false
set_option maxHeartbeats 4000000
namespace cursorPlays
theorem own : ownKnob Try.prog.godebug = none := by kernel_rfl
theorem laidOut : laidOutB Try.prog = true := by kernel_rfl
theorem rowed : rowable Try.prog [22, 55] = true := by kernel_rfl
set_option maxRecDepth 100000 in
theorem contract {H : Type} {enc : TypeId × Value → H} (W : World) (args : Array Value) (h : Args enc Try.prog W [22, 55] args.toList) : CallW Try.prog 11 args W fun v w' => v = .bool true ∧ Below W.heap.size W w' := by
  obtain ⟨l, hl⟩ : ∃ l, args.toList = l := ⟨_, rfl⟩
  rw [hl] at h
  match l, h with
  | [v0, v1], h =>
    obtain ⟨h0, h1, _⟩ := h
    obtain ⟨A, c, l, rfl, hn, hl2, hl3, hl4⟩ := openEnts h0
    obtain ⟨B, d, s, rfl, hm, hs2, hs3, hs4⟩ := openOps12 h1
    simp only [reachBytes] at hl4 hs3 hs4
    exact law_of hl (cursorPlays_c _ A B c d l s hl2 (by omega) (fun e he => by have := hl3 e he; simp only [SmallE, reachBytes] at this; omega) hs2 (by omega) (fun o ho => by have := hs3 o ho; omega))
set_option maxRecDepth 100000 in
theorem lifted (os : Os) (started : os.Started) (H : Type) (enc : TypeId × Value → H) :
    ReturnsInHanded {} Try.checked os 11 .any (Rows.cursorPlaysSpec.pre6 enc Try.prog Try.f11 Rows.cursorPlaysRow.domain false) (Rows.cursorPlaysSpec.post enc Try.prog Try.f11 false true false false) := by
  refine returnsInHanded_of_change_sized (C := Try.checked) own started (by kernel_rfl) Try.func11
    (ChangeSpec.witness6 (enc := enc) (C := Try.checked) false ⟨#[], #[.slice none 0 0, .slice none 0 0], []⟩ 8 (by kernel_rfl) (by kernel_rfl) (by kernel_rfl) (by kernel_rfl)) ?_
  intro W base args ds gs before hval hW _ hsz _
  have hp : Try.f11.params.toList = [22, 55] := by rw [Try.params11]
  refine row_close (P := Try.prog) (rt := 4) laidOut rfl (by rw [hp]; exact rowed) (by rfl) ?_ hval hW hsz (fun h => contract W args (by rw [← hp]; exact h))
  intro ds hd
  rw [hp] at hd
  match ds, hd with
  | [_, _], _ => rfl
theorem over : Rows.cursorPlaysRow.holds Try.pinned (OpenSpec.ofChange Rows.cursorPlaysSpec) :=
  OpenClaim.holds_of_wide 11 Try.f11 rfl rfl rfl rfl rfl rfl rfl ⟨rfl, rfl, rfl, rfl, rfl⟩ rfl rfl rfl rfl rfl (by kernel_rfl) Try.func11 (by kernel_rfl)
    (of_decide_eq_true (by kernel_rfl)) (by unfold Func.isWrapper; first | (rw [if_pos (by decide +kernel)]; kernel_rfl) | (rw [if_neg (by decide +kernel)]; exact ⟨rfl, rfl⟩))
    (fun os started H enc _ => lifted os started H enc)
end cursorPlays
theorem cursorPlays_holds : Rows.CursorPlaysSaid := cursorPlays.over
#print axioms cursorPlays_holds
end Go.Proofs.Ytgaabmoknpifnaa
