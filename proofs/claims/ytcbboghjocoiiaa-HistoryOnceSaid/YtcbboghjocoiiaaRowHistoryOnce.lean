/- HistoryOnce: for every input it answers true, and what came in reads as before. Conditions: none. -/
import Derived.Test.YtcbboghjocoiiaaRows
import Derived.Test.YtcbboghjocoiiaaOpen
import Derived.Test.YtcbboghjocoiiaaHistOnce
import Derived.Test.YtcbboghjocoiiaaOpenHist
import Derived.JoinedOf
import Derived.KernelRfl
namespace Go.Proofs.Ytcbboghjocoiiaa
open Go.Proofs Go.RowKit
set_option linter.unusedVariables false
set_option maxHeartbeats 4000000
namespace historyOnce
theorem own : ownKnob Try.prog.godebug = none := by kernel_rfl
theorem laidOut : laidOutB Try.prog = true := by kernel_rfl
theorem rowed : rowable Try.prog [22, 25, 30] = true := by kernel_rfl
set_option maxRecDepth 100000 in
theorem contract {H : Type} {enc : TypeId × Value → H} (W : World) (args : Array Value) (h : Args enc Try.prog W [22, 25, 30] args.toList) : CallW Try.prog 7 args W fun v w' => v = .bool true ∧ Below W.heap.size W w' := by
  obtain ⟨l, hl⟩ : ∃ l, args.toList = l := ⟨_, rfl⟩
  rw [hl] at h
  match l, h with
  | [v0, v1, v2], h =>
    obtain ⟨h0, h1, h2, _⟩ := h
    obtain ⟨A, c, l, rfl, hn, hl2, hl3, hl4, _⟩ := openEnts h0
    obtain ⟨x, rfl, hx⟩ := openCall h1
    obtain ⟨q, rfl, hq⟩ := openRep h2
    simp only [reachBytes] at hq
    exact law_of hl (historyOnce_c _ A c l x q hl2 hn (szE_of hl3 hl4) hx.sz (by omega))
set_option maxRecDepth 100000 in
theorem lifted (os : Os) (started : os.Started) (H : Type) (enc : TypeId × Value → H) :
    ReturnsInHanded {} Try.checked os 7 .any (Rows.historyOnceSpec.pre6 enc Try.prog Try.f7 Rows.historyOnceRow.domain false) (Rows.historyOnceSpec.post enc Try.prog Try.f7 false true false false) := by
  refine returnsInHanded_of_change_sized (C := Try.checked) own started (by kernel_rfl) Try.func7
    (ChangeSpec.witness6 (enc := enc) (C := Try.checked) false ⟨#[], #[.slice none 0 0, .agg #[.int .i64 0, .string ByteArray.empty, .string ByteArray.empty], .agg #[.int .i64 0, .string ByteArray.empty, .bool false, .int .i64 0]], []⟩ 8 (by kernel_rfl) (by kernel_rfl) (by kernel_rfl) (by kernel_rfl)) ?_
  intro W base args ds gs before hval hW _ hsz _
  have hp : Try.f7.params.toList = [22, 25, 30] := by rw [Try.params7]
  refine row_close (P := Try.prog) (rt := 4) laidOut rfl (by rw [hp]; exact rowed) (by rfl) ?_ hval hW hsz (fun h => contract W args (by rw [← hp]; exact h))
  intro ds hd
  rw [hp] at hd
  match ds, hd with
  | [_, _, _], _ => rfl
theorem over : Rows.historyOnceRow.holds Try.pinned (OpenSpec.ofChange Rows.historyOnceSpec) :=
  OpenClaim.holds_of_wide 7 Try.f7 rfl rfl rfl rfl rfl rfl rfl ⟨rfl, rfl, rfl, rfl, rfl⟩ rfl rfl rfl rfl rfl (by kernel_rfl) Try.func7 (by kernel_rfl)
    (of_decide_eq_true (by kernel_rfl)) (by unfold Func.isWrapper; first | (rw [if_pos (by decide +kernel)]; kernel_rfl) | (rw [if_neg (by decide +kernel)]; exact ⟨rfl, rfl⟩))
    (fun os started H enc _ => lifted os started H enc)
end historyOnce
theorem historyOnce_holds : Rows.HistoryOnceSaid := historyOnce.over
#print axioms historyOnce_holds
end Go.Proofs.Ytcbboghjocoiiaa
