/- ClientEnds: for every input it answers true, and what came in reads as before. Conditions: none. -/
import Derived.Test.YtglhnfficliaoaaRows
import Derived.Test.YtglhnfficliaoaaOpen
import Derived.Test.YtglhnfficliaoaaClientEnds
import Derived.JoinedOf
import Derived.KernelRfl
namespace Go.Proofs.Ytglhnfficliaoaa
open Go.Proofs Go.RowKit
set_option linter.unusedVariables false
set_option maxHeartbeats 4000000
namespace clientEnds
theorem own : ownKnob Try.prog.godebug = none := by kernel_rfl
theorem laidOut : laidOutB Try.prog = true := by kernel_rfl
theorem rowed : rowable Try.prog [61] = true := by kernel_rfl
set_option maxRecDepth 100000 in
theorem contract {H : Type} {enc : TypeId × Value → H} (W : World) (args : Array Value) (h : Args enc Try.prog W [61] args.toList) : CallW Try.prog 7 args W fun v w' => v = .bool true ∧ Below W.heap.size W w' := by
  obtain ⟨l, hl⟩ : ∃ l, args.toList = l := ⟨_, rfl⟩
  rw [hl] at h
  match l, h with
  | [v0], h =>
    obtain ⟨h0, _⟩ := h
    obtain ⟨A, c, l, rfl, hn, hl2, hl3, hl4⟩ := openOps16 h0
    simp only [reachBytes] at hl4
    exact law_of hl (clientEnds_c _ A c l hl2 (by omega) (fun o ho => by have := hl3 o ho; simp only [Op16.Ok, reachBytes] at this; omega))
set_option maxRecDepth 100000 in
theorem lifted (os : Os) (started : os.Started) (H : Type) (enc : TypeId × Value → H) :
    ReturnsInHanded {} Try.checked os 7 .any (Rows.clientEndsSpec.pre6 enc Try.prog Try.f7 Rows.clientEndsRow.domain false) (Rows.clientEndsSpec.post enc Try.prog Try.f7 false true false false) := by
  refine returnsInHanded_of_change_sized (C := Try.checked) own started (by kernel_rfl) Try.func7
    (ChangeSpec.witness6 (enc := enc) (C := Try.checked) false ⟨#[], #[.slice none 0 0], []⟩ 8 (by kernel_rfl) (by kernel_rfl) (by kernel_rfl) (by kernel_rfl)) ?_
  intro W base args ds gs before hval hW _ hsz _
  have hp : Try.f7.params.toList = [61] := by rw [Try.params7]
  refine row_close (P := Try.prog) (rt := 4) laidOut rfl (by rw [hp]; exact rowed) (by rfl) ?_ hval hW hsz (fun h => contract W args (by rw [← hp]; exact h))
  intro ds hd
  rw [hp] at hd
  match ds, hd with
  | [_], _ => rfl
theorem over : Rows.clientEndsRow.holds Try.pinned (OpenSpec.ofChange Rows.clientEndsSpec) :=
  OpenClaim.holds_of_wide 7 Try.f7 rfl rfl rfl rfl rfl rfl rfl ⟨rfl, rfl, rfl, rfl, rfl⟩ rfl rfl rfl rfl rfl (by kernel_rfl) Try.func7 (by kernel_rfl)
    (of_decide_eq_true (by kernel_rfl)) (by unfold Func.isWrapper; first | (rw [if_pos (by decide +kernel)]; kernel_rfl) | (rw [if_neg (by decide +kernel)]; exact ⟨rfl, rfl⟩))
    (fun os started H enc _ => lifted os started H enc)
end clientEnds
theorem clientEnds_holds : Rows.ClientEndsSaid := clientEnds.over
#print axioms clientEnds_holds
end Go.Proofs.Ytglhnfficliaoaa
