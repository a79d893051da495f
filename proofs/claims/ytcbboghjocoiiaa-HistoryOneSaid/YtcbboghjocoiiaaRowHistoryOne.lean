/- HistoryOne: for every input it answers true, and what came in reads as before. Conditions: none. -/
import Derived.Test.YtcbboghjocoiiaaRows
import Derived.Test.YtcbboghjocoiiaaOpen
import Derived.Test.YtcbboghjocoiiaaHistOne
import Derived.Test.YtcbboghjocoiiaaOpenHist
import Derived.JoinedOf
import Derived.KernelRfl
namespace Go.Proofs.Ytcbboghjocoiiaa
open Go.Proofs Go.RowKit
set_option linter.unusedVariables false
set_option maxHeartbeats 4000000
namespace historyOne
theorem own : ownKnob Try.prog.godebug = none := by kernel_rfl
theorem laidOut : laidOutB Try.prog = true := by kernel_rfl
theorem rowed : rowable Try.prog [22, 45, 41] = true := by kernel_rfl
set_option maxRecDepth 100000 in
theorem contract {H : Type} {enc : TypeId × Value → H} (W : World) (args : Array Value) (h : Args enc Try.prog W [22, 45, 41] args.toList) : CallW Try.prog 5 args W fun v w' => v = .bool true ∧ Below W.heap.size W w' := by
  obtain ⟨l, hl⟩ : ∃ l, args.toList = l := ⟨_, rfl⟩
  rw [hl] at h
  match l, h with
  | [v0, v1, v2], h =>
    obtain ⟨h0, h1, h2, _⟩ := h
    obtain ⟨A, c, l, rfl, hn, hl2, hl3, hl4, _⟩ := openEnts h0
    obtain ⟨B, d, xs, rfl, hn2, hd2, hd3, hd4⟩ := openCalls h1
    obtain ⟨p0, rfl, hw⟩ := h2.int
    have hw : IntKind.u64.min ≤ p0 ∧ p0 ≤ IntKind.u64.max := by simpa [Lit.wf] using hw
    have h1' : (0 : Int) ≤ p0 := hw.1
    have h2' : p0 ≤ (18446744073709551615 : Int) := hw.2
    obtain ⟨p, rfl⟩ : ∃ q : Nat, p0 = q := ⟨p0.toNat, by omega⟩
    simp only [reachBytes] at hd4
    exact law_of hl (historyOne_c _ A B c d l xs p (by omega) hl2 hn hd2 hn2 (szE_of hl3 hl4) (by omega) (fun x hx => (hd3 x hx).sz))
set_option maxRecDepth 100000 in
theorem lifted (os : Os) (started : os.Started) (H : Type) (enc : TypeId × Value → H) :
    ReturnsInHanded {} Try.checked os 5 .any (Rows.historyOneSpec.pre6 enc Try.prog Try.f5 Rows.historyOneRow.domain false) (Rows.historyOneSpec.post enc Try.prog Try.f5 false true false false) := by
  refine returnsInHanded_of_change_sized (C := Try.checked) own started (by kernel_rfl) Try.func5
    (ChangeSpec.witness6 (enc := enc) (C := Try.checked) false ⟨#[], #[.slice none 0 0, .slice none 0 0, .int .u64 0], []⟩ 8 (by kernel_rfl) (by kernel_rfl) (by kernel_rfl) (by kernel_rfl)) ?_
  intro W base args ds gs before hval hW _ hsz _
  have hp : Try.f5.params.toList = [22, 45, 41] := by rw [Try.params5]
  refine row_close (P := Try.prog) (rt := 4) laidOut rfl (by rw [hp]; exact rowed) (by rfl) ?_ hval hW hsz (fun h => contract W args (by rw [← hp]; exact h))
  intro ds hd
  rw [hp] at hd
  match ds, hd with
  | [_, _, _], _ => rfl
theorem over : Rows.historyOneRow.holds Try.pinned (OpenSpec.ofChange Rows.historyOneSpec) :=
  OpenClaim.holds_of_wide 5 Try.f5 rfl rfl rfl rfl rfl rfl rfl ⟨rfl, rfl, rfl, rfl, rfl⟩ rfl rfl rfl rfl rfl (by kernel_rfl) Try.func5 (by kernel_rfl)
    (of_decide_eq_true (by kernel_rfl)) (by unfold Func.isWrapper; first | (rw [if_pos (by decide +kernel)]; kernel_rfl) | (rw [if_neg (by decide +kernel)]; exact ⟨rfl, rfl⟩))
    (fun os started H enc _ => lifted os started H enc)
end historyOne
theorem historyOne_holds : Rows.HistoryOneSaid := historyOne.over
#print axioms historyOne_holds
end Go.Proofs.Ytcbboghjocoiiaa
