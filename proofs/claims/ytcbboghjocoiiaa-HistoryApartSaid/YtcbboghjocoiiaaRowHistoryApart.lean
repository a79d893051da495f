/- HistoryApart: for every input it answers true, and what came in reads as before. Conditions: none. -/
import Derived.Test.YtcbboghjocoiiaaRows
import Derived.Test.YtcbboghjocoiiaaOpen
import Derived.Test.YtcbboghjocoiiaaHistApart
import Derived.Test.YtcbboghjocoiiaaOpenHist
import Derived.JoinedOf
import Derived.KernelRfl
namespace Go.Proofs.Ytcbboghjocoiiaa
open Go.Proofs Go.RowKit
set_option linter.unusedVariables false
set_option maxHeartbeats 4000000
namespace historyApart
theorem own : ownKnob Try.prog.godebug = none := by kernel_rfl
theorem laidOut : laidOutB Try.prog = true := by kernel_rfl
theorem rowed : rowable Try.prog [22, 23, 23] = true := by kernel_rfl
set_option maxRecDepth 100000 in
theorem contract {H : Type} {enc : TypeId × Value → H} (W : World) (args : Array Value) (h : Args enc Try.prog W [22, 23, 23] args.toList) : CallW Try.prog 8 args W fun v w' => v = .bool true ∧ Below W.heap.size W w' := by
  obtain ⟨l, hl⟩ : ∃ l, args.toList = l := ⟨_, rfl⟩
  rw [hl] at h
  match l, h with
  | [v0, v1, v2], h =>
    obtain ⟨h0, h1, h2, _⟩ := h
    obtain ⟨A, c, l, rfl, hn, hl2, hl3, hl4, _⟩ := openEnts h0
    obtain ⟨B, d, a, rfl, hn2, hd2, hd3, hd4⟩ := openDons h1
    obtain ⟨C, e, b, rfl, hn3, he2, he3, he4⟩ := openDons h2
    exact law_of hl (historyApart_c _ A B C c d e l a b hl2 hn hd2 hn2 he2 hn3 (szE_of hl3 hl4) (szD_of hd3 hd4) (szD_of he3 he4))
set_option maxRecDepth 100000 in
theorem lifted (os : Os) (started : os.Started) (H : Type) (enc : TypeId × Value → H) :
    ReturnsInHanded {} Try.checked os 8 .any (Rows.historyApartSpec.pre6 enc Try.prog Try.f8 Rows.historyApartRow.domain false) (Rows.historyApartSpec.post enc Try.prog Try.f8 false true false false) := by
  refine returnsInHanded_of_change_sized (C := Try.checked) own started (by kernel_rfl) Try.func8
    (ChangeSpec.witness6 (enc := enc) (C := Try.checked) false ⟨#[], #[.slice none 0 0, .slice none 0 0, .slice none 0 0], []⟩ 8 (by kernel_rfl) (by kernel_rfl) (by kernel_rfl) (by kernel_rfl)) ?_
  intro W base args ds gs before hval hW _ hsz _
  have hp : Try.f8.params.toList = [22, 23, 23] := by rw [Try.params8]
  refine row_close (P := Try.prog) (rt := 4) laidOut rfl (by rw [hp]; exact rowed) (by rfl) ?_ hval hW hsz (fun h => contract W args (by rw [← hp]; exact h))
  intro ds hd
  rw [hp] at hd
  match ds, hd with
  | [_, _, _], _ => rfl
theorem over : Rows.historyApartRow.holds Try.pinned (OpenSpec.ofChange Rows.historyApartSpec) :=
  OpenClaim.holds_of_wide 8 Try.f8 rfl rfl rfl rfl rfl rfl rfl ⟨rfl, rfl, rfl, rfl, rfl⟩ rfl rfl rfl rfl rfl (by kernel_rfl) Try.func8 (by kernel_rfl)
    (of_decide_eq_true (by kernel_rfl)) (by unfold Func.isWrapper; first | (rw [if_pos (by decide +kernel)]; kernel_rfl) | (rw [if_neg (by decide +kernel)]; exact ⟨rfl, rfl⟩))
    (fun os started H enc _ => lifted os started H enc)
end historyApart
theorem historyApart_holds : Rows.HistoryApartSaid := historyApart.over
#print axioms historyApart_holds
end Go.Proofs.Ytcbboghjocoiiaa
