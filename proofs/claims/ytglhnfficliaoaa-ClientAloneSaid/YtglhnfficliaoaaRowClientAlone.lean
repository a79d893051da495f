/- ClientAlone: for every input it answers true, and what came in reads as before. Conditions: none. -/
import Derived.Test.YtglhnfficliaoaaRows
import Derived.Test.YtglhnfficliaoaaOpen
import Derived.Test.YtglhnfficliaoaaClientAlone
import Derived.JoinedOf
import Derived.KernelRfl
namespace Go.Proofs.Ytglhnfficliaoaa
open Go.Proofs Go.RowKit
set_option linter.unusedVariables false
set_option maxHeartbeats 4000000
namespace clientAlone
theorem own : ownKnob Try.prog.godebug = none := by kernel_rfl
theorem laidOut : laidOutB Try.prog = true := by kernel_rfl
theorem rowed : rowable Try.prog [61] = true := by kernel_rfl
set_option maxRecDepth 100000 in
theorem contract {H : Type} {enc : TypeId × Value → H} (W : World) (args : Array Value) (h : Args enc Try.prog W [61] args.toList) : CallW Try.prog 9 args W fun v w' => v = .bool true ∧ Below W.heap.size W w' := by
  obtain ⟨l, hl⟩ : ∃ l, args.toList = l := ⟨_, rfl⟩
  rw [hl] at h
  match l, h with
  | [v0], h =>
    obtain ⟨h0, _⟩ := h
    obtain ⟨A, c, l, rfl, hn, hl2, hl3, hl4⟩ := openOps16 h0
    simp only [reachBytes] at hl4
    exact law_of hl (clientAlone_c _ A c l hl2 (by omega) (fun o ho => by have := hl3 o ho; simp only [Op16.Ok, reachBytes] at this; omega))
set_option maxRecDepth 100000 in
theorem lifted (os : Os) (started : os.Started) (H : Type) (enc : TypeId × Value → H) :
    ReturnsInHanded {} Try.checked os 9 .any (Rows.clientAloneSpec.pre6 enc Try.prog Try.f9 Rows.clientAloneRow.domain false) (Rows.clientAloneSpec.post enc Try.prog Try.f9 false true false false) := by
  refine returnsInHanded_of_change_sized (C := Try.checked) own started (by kernel_rfl) Try.func9
    (ChangeSpec.witness6 (enc := enc) (C := Try.checked) false ⟨#[], #[.slice none 0 0], []⟩ 8 (by kernel_rfl) (by kernel_rfl) (by kernel_rfl) (by kernel_rfl)) ?_
  intro W base args ds gs before hval hW _ hsz _
  have hp : Try.f9.params.toList = [61] := by rw [Try.params9]
  refine row_close (P := Try.prog) (rt := 4) laidOut rfl (by rw [hp]; exact rowed) (by rfl) ?_ hval hW hsz (fun h => contract W args (by rw [← hp]; exact h))
  intro ds hd
  rw [hp] at hd
  match ds, hd with
  | [_], _ => rfl
theorem over : Rows.clientAloneRow.holds Try.pinned (OpenSpec.ofChange Rows.clientAloneSpec) :=
  OpenClaim.holds_of_wide 9 Try.f9 rfl rfl rfl rfl rfl rfl rfl ⟨rfl, rfl, rfl, rfl, rfl⟩ rfl rfl rfl rfl rfl (by kernel_rfl) Try.func9 (by kernel_rfl)
    (of_decide_eq_true (by kernel_rfl)) (by unfold Func.isWrapper; first | (rw [if_pos (by decide +kernel)]; kernel_rfl) | (rw [if_neg (by decide +kernel)]; exact ⟨rfl, rfl⟩))
    (fun os started H enc _ => lifted os started H enc)
end clientAlone
theorem clientAlone_holds : Rows.ClientAloneSaid := clientAlone.over
#print axioms clientAlone_holds
end Go.Proofs.Ytglhnfficliaoaa
