/- TreeOrder: for every input it answers true, and what came in reads as before. Conditions: none. -/
import Derived.Test.YtlkbdgfipdeloaaRows
import Derived.Test.YtlkbdgfipdeloaaOpen
import Derived.Test.YtlkbdgfipdeloaaTreeOrder
import Derived.JoinedOf
import Derived.KernelRfl
namespace Go.Proofs.Ytlkbdgfipdeloaa
open Go.Proofs Go.RowKit
set_option linter.unusedVariables false
set_option maxHeartbeats 4000000
namespace treeOrder
theorem own : ownKnob Try.prog.godebug = none := by kernel_rfl
theorem laidOut : laidOutB Try.prog = true := by kernel_rfl
theorem rowed : rowable Try.prog [22, 72] = true := by kernel_rfl
set_option maxRecDepth 100000 in
theorem contract {H : Type} {enc : TypeId × Value → H} (W : World) (args : Array Value) (h : Args enc Try.prog W [22, 72] args.toList) : CallW Try.prog 10 args W fun v w' => v = .bool true ∧ Below W.heap.size W w' := by
  obtain ⟨l, hl⟩ : ∃ l, args.toList = l := ⟨_, rfl⟩
  rw [hl] at h
  match l, h with
  | [v0, v1], h =>
    obtain ⟨h0, h1, _⟩ := h
    obtain ⟨A, c, l, rfl, hn, hl2, hl3, hl4⟩ := openEnts h0
    obtain ⟨n, rfl, hw⟩ := h1.int
    have hw : IntKind.u64.min ≤ n ∧ n ≤ IntKind.u64.max := by simpa [Lit.wf] using hw
    have h1 : (0 : Int) ≤ n := hw.1
    have h2 : n ≤ (18446744073709551615 : Int) := hw.2
    simp only [reachBytes] at hl4
    exact law_of hl (treeOrder_c _ A c l n h1 h2 hl2 hn (by omega))
set_option maxRecDepth 100000 in
theorem lifted (os : Os) (started : os.Started) (H : Type) (enc : TypeId × Value → H) :
    ReturnsInHanded {} Try.checked os 10 .any (Rows.treeOrderSpec.pre6 enc Try.prog Try.f10 Rows.treeOrderRow.domain false) (Rows.treeOrderSpec.post enc Try.prog Try.f10 false true false false) := by
  refine returnsInHanded_of_change_sized (C := Try.checked) own started (by kernel_rfl) Try.func10
    (ChangeSpec.witness6 (enc := enc) (C := Try.checked) false ⟨#[], #[.slice none 0 0, .int .u64 0], []⟩ 8 (by kernel_rfl) (by kernel_rfl) (by kernel_rfl) (by kernel_rfl)) ?_
  intro W base args ds gs before hval hW _ hsz _
  have hp : Try.f10.params.toList = [22, 72] := by rw [Try.params10]
  refine row_close (P := Try.prog) (rt := 4) laidOut rfl (by rw [hp]; exact rowed) (by rfl) ?_ hval hW hsz (fun h => contract W args (by rw [← hp]; exact h))
  intro ds hd
  rw [hp] at hd
  match ds, hd with
  | [_, _], _ => rfl
theorem over : Rows.treeOrderRow.holds Try.pinned (OpenSpec.ofChange Rows.treeOrderSpec) :=
  OpenClaim.holds_of_wide 10 Try.f10 rfl rfl rfl rfl rfl rfl rfl ⟨rfl, rfl, rfl, rfl, rfl⟩ rfl rfl rfl rfl rfl (by kernel_rfl) Try.func10 (by kernel_rfl)
    (of_decide_eq_true (by kernel_rfl)) (by unfold Func.isWrapper; first | (rw [if_pos (by decide +kernel)]; kernel_rfl) | (rw [if_neg (by decide +kernel)]; exact ⟨rfl, rfl⟩))
    (fun os started H enc _ => lifted os started H enc)
end treeOrder
theorem treeOrder_holds : Rows.TreeOrderSaid := treeOrder.over
#print axioms treeOrder_holds
end Go.Proofs.Ytlkbdgfipdeloaa
