/- BulkGoes: for every input it answers true, and what came in reads as before. Conditions: none. -/
import Derived.Test.YtnjeoobcejlojaaRows
import Derived.Test.YtnjeoobcejlojaaOpen
import Derived.Test.YtnjeoobcejlojaaBulkGoes
import Derived.JoinedOf
import Derived.KernelRfl
namespace Go.Proofs.Ytnjeoobcejlojaa
open Go.Proofs Go.RowKit
set_option linter.unusedVariables false
set_option maxHeartbeats 4000000
namespace bulkGoes
theorem own : ownKnob Try.prog.godebug = none := by kernel_rfl
theorem laidOut : laidOutB Try.prog = true := by kernel_rfl
theorem rowed : rowable Try.prog [39, 39, 74] = true := by kernel_rfl
set_option maxRecDepth 100000 in
theorem contract {H : Type} {enc : TypeId × Value → H} (W : World) (args : Array Value) (h : Args enc Try.prog W [39, 39, 74] args.toList) : CallW Try.prog 14 args W fun v w' => v = .bool true ∧ Below W.heap.size W w' := by
  obtain ⟨l, hl⟩ : ∃ l, args.toList = l := ⟨_, rfl⟩
  rw [hl] at h
  match l, h with
  | [v0, v1, v2], h =>
    obtain ⟨h0, h1, h2, _⟩ := h
    obtain ⟨A, c, l, rfl, hn, hl2, hl3, hl4⟩ := openEnts h0
    obtain ⟨B, d, b, rfl, hm, hm2, hm3, hm4⟩ := openEnts h1
    obtain ⟨C, e, g, rfl, hg, hg2, hg3, hg4⟩ := openStrs h2
    simp only [reachBytes] at hl4 hm4 hg4
    exact law_of hl (bulkGoes_c _ A B C c d e l b g hl2 hm2 hg2 (by omega) (by omega) (by omega) (fun e he => by have := hl3 e he; simp only [SmallE, reachBytes] at this; omega) (fun e he => by have := hm3 e he; simp only [SmallE, reachBytes] at this; omega) (fun s hs => by have := hg3 s hs; simp only [reachBytes] at this; omega))
set_option maxRecDepth 100000 in
theorem lifted (os : Os) (started : os.Started) (H : Type) (enc : TypeId × Value → H) :
    ReturnsInHanded {} Try.checked os 14 .any (Rows.bulkGoesSpec.pre6 enc Try.prog Try.f14 Rows.bulkGoesRow.domain false) (Rows.bulkGoesSpec.post enc Try.prog Try.f14 false true false false) := by
  refine returnsInHanded_of_change_sized (C := Try.checked) own started (by kernel_rfl) Try.func14
    (ChangeSpec.witness6 (enc := enc) (C := Try.checked) false ⟨#[], #[.slice none 0 0, .slice none 0 0, .slice none 0 0], []⟩ 8 (by kernel_rfl) (by kernel_rfl) (by kernel_rfl) (by kernel_rfl)) ?_
  intro W base args ds gs before hval hW _ hsz _
  have hp : Try.f14.params.toList = [39, 39, 74] := by rw [Try.params14]
  refine row_close (P := Try.prog) (rt := 4) laidOut rfl (by rw [hp]; exact rowed) (by rfl) ?_ hval hW hsz (fun h => contract W args (by rw [← hp]; exact h))
  intro ds hd
  rw [hp] at hd
  match ds, hd with
  | [_, _, _], _ => rfl
theorem over : Rows.bulkGoesRow.holds Try.pinned (OpenSpec.ofChange Rows.bulkGoesSpec) :=
  OpenClaim.holds_of_wide 14 Try.f14 rfl rfl rfl rfl rfl rfl rfl ⟨rfl, rfl, rfl, rfl, rfl⟩ rfl rfl rfl rfl rfl (by kernel_rfl) Try.func14 (by kernel_rfl)
    (of_decide_eq_true (by kernel_rfl)) (by unfold Func.isWrapper; first | (rw [if_pos (by decide +kernel)]; kernel_rfl) | (rw [if_neg (by decide +kernel)]; exact ⟨rfl, rfl⟩))
    (fun os started H enc _ => lifted os started H enc)
end bulkGoes
theorem bulkGoes_holds : Rows.BulkGoesSaid := bulkGoes.over
#print axioms bulkGoes_holds
end Go.Proofs.Ytnjeoobcejlojaa
