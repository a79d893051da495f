/- The iterators of package walk, walked. Conditions: none but the tree's. -/
import Derived.Test.YtnjeoobcejlojaaWalk1
namespace Go.Proofs.Ytnjeoobcejlojaa
open Go.Proofs Go.RowKit
set_option linter.unusedVariables false
attribute [local irreducible] CW CWD SeqW OpW CallV
set_option maxHeartbeats 4000000
theorem slt_nil (a : ByteArray) : slt a ⟨#[]⟩ = false := by simp [slt, Op.bytesLess]
theorem Tr.val_cells (t : Tr) : t.val.cells = #[t.val] := by cases t <;> rfl
section
variable {xs : List Ent} {y : Value} {J Jx : Inv Ent} {key : ByteArray}
theorem up_t (hJ : Stable J) (hy : Yields Try.prog y encP xs J Jx) {H0 : HF} {w0 : World} {t : Tr} {X0 : Nat → Prop} {pre rest : List Ent} (ht : Tr.At H0 t) (hS : Sub H0 w0) (hxs : xs = pre ++ fromL key t.items ++ rest) (hj : J X0 pre H0 w0) :
    CallW Try.prog 90 [t.val, .string key, y].toArray w0 (Went xs J Jx X0 H0 w0 (pre ++ fromL key t.items)) := by
  cases t with
  | none =>
    rw [show pre ++ fromL key (Tr.items none) = pre by simp [Tr.items, fromL]]
    exact up_nil hJ hS hj
  | some x => exact up_c hJ hy x.1 H0 w0 x.2 X0 pre rest ht hS hxs hj
end
theorem from1_it {H : HF} {w : World} {t : Tr} {key : ByteArray} {a b : Nat} {T U : TypeId} (ht : Tr.At H t) (ha : H a = some (.cells #[t.val] T (0, 0))) (hb : H b = some (.cells #[.string key] U (0, 0))) :
    IterAt Try.prog 89 [.pointer (some ⟨a, 0, none⟩), .pointer (some ⟨b, 0, none⟩)] encP (fromL key t.items) (fun _ => False) H w := by
  intro y J Jx X hyc _ hXb hJ hJx hy hS hj
  refine CallW_of_CW Try.func89 rfl Try.ntmps89 Try.results89 rfl ?_
  have hG := Grow.refl hS
  (refine CW_region rfl ?_; refine S_op ?_; refine W_loadHL (by first | rfl | assumption) (by assumption) (by rfl) (by assumption) ?_; refine S_op ?_; refine W_loadHL (by first | rfl | assumption) (by assumption) (by rfl) (by assumption) ?_; refine S_op ?_; refine W_move rfl ?_)
  refine S_op ?_
  refine W_callW (vs := [t.val, .string key, y]) (by rfl) ((up_t hJ hy (rest := []) ht hS (by simp) hj).mono ?_)
  rintro v w' hw
  (refine S_nil ?_)
  exact ⟨_, ResW_zero, Went.end hw⟩
theorem from_c (H : HF) (t : Tr) (key : ByteArray) (ht : Tr.At H t) : Fn Try.prog 65 [t.val, .string key] H fun v H' => IterV Try.prog encP (fromL key t.items) v H' := by
  have hc := Tr.val_cells t
  refine Fn_of_CW Try.func65 rfl Try.ntmps65 Try.results65 rfl fun w hS => ?_; have hG := Grow.refl hS; have hS0 := hS
  (refine CW_seq ?_; refine CW_region rfl ?_)
  (refine S_op (W_box1 hS (by rfl) (by first | rfl | assumption) ?_)); intro H w _ hG' h2; replace hG := hG.trans hG'; replace hS := hG'.sub; replace ht := ht.mono hG'.le; clear hG'
  skip
  (refine S_op (W_box1 hS (by rfl) (by first | rfl | assumption) ?_)); intro H w _ hG' h3; replace hG := hG.trans hG'; replace hS := hG'.sub; replace ht := ht.mono hG'.le; replace h2 := hG'.le _ _ h2; clear hG'
  (refine S_op ?_; refine W_assign rfl ?_; refine S_nil ?_; refine CW_seq ?_; refine CW_region rfl ?_)
  refine S_op (W_makeFunc rfl rfl ?_)
  (refine S_op ?_; refine W_assignFun (by first | rfl | assumption) ?_; refine S_nil ?_; refine CW_ret ?_)
  exact ⟨_, ResW_one (v := .func _ _ _) rfl, H, hG, _, _, inferInstance, rfl, fun H1 w1 hle => from1_it (ht.mono hle) (hle _ _ h2) (hle _ _ h3)⟩
theorem all_c (H : HF) (t : Tr) (ht : Tr.At H t) : Fn Try.prog 70 [t.val] H fun v H' => IterV Try.prog encP t.items v H' := by
  have e : fromL ⟨#[]⟩ t.items = t.items := by
    simp only [fromL, List.filter_eq_self]
    intro x _
    simp [slt, Op.bytesLess]
  refine Fn_of_CW Try.func70 rfl Try.ntmps70 Try.results70 rfl fun w hS => ?_; have hG := Grow.refl hS; have hS0 := hS
  (refine CW_seq ?_; refine CW_region rfl ?_; refine S_op ?_; refine W_assign rfl ?_; refine S_nil ?_; refine CW_seq ?_; refine CW_region rfl ?_; refine S_op ?_; refine W_movePtr (by first | rfl | assumption) ?_)
  (refine S_op ?_; refine W_call hS (by rfl) (from_c H t ⟨#[]⟩ ht) ?_); rintro v H w hG' hv; replace hG := hG.trans hG'; replace hS := hG'.sub; replace ht := ht.mono hG'.le; clear hG'
  rw [e] at hv
  obtain ⟨gf, lb, h1, rfl, h3⟩ := hv
  (refine S_op ?_; refine W_assignFun (by first | rfl | assumption) ?_; refine S_nil ?_; refine CW_ret ?_)
  exact ⟨_, ResW_one (v := .func _ _ _) rfl, H, hG, gf, lb, h1, rfl, h3⟩
def enc1 (e : Ent) : List Value := [.agg #[.string e.key, .string e.val]]
end Go.Proofs.Ytnjeoobcejlojaa
