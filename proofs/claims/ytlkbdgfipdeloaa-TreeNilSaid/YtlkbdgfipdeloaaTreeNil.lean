/- TreeNil: it answers true. Conditions: none. -/
import Derived.Test.YtlkbdgfipdeloaaTreePlays
import Derived.Test.YtlkbdgfipdeloaaMap
namespace Go.Proofs.Ytlkbdgfipdeloaa
open Go.Proofs Go.RowKit
set_option linter.unusedVariables false
attribute [local irreducible] CW SeqW OpW
set_option maxHeartbeats 4000000
theorem gather_nil (H : HF) (m : Option Nat) : Fn Try.prog 67 [.pointer none, .map m] H fun v _ => v = .tuple #[] := by
  refine Fn_of_CW Try.func67 rfl Try.ntmps67 Try.results67 rfl fun w hS => ?_; have hG := Grow.refl hS; have hS0 := hS
  (refine CW_seq ?_; refine CW_seq ?_; refine CW_region rfl ?_; refine S_op ?_; refine W_movePtr (by first | rfl | assumption) ?_; refine S_op ?_; refine W_peqT (by first | rfl | assumption) (by first | rfl | assumption) (by first | rfl | assumption) ?_; refine S_nil ?_; refine CW_true (by first | rfl | assumption) ?_; refine CW_ret ?_)
  exact ⟨_, ResW_zero, H, hG, rfl⟩
theorem nodes_nil (H : HF) : Fn Try.prog 46 [.pointer none, .pointer none] H fun v _ => v = .tuple #[.int .i64 0, .int .i64 0] := by
  refine Fn_of_CW Try.func46 rfl Try.ntmps46 Try.results46 rfl fun w hS => ?_; have hG := Grow.refl hS; have hS0 := hS
  (refine CW_seq ?_; refine CW_region rfl ?_; refine S_op ?_; refine W_assignInt (by first | rfl | assumption) ?_; refine S_op ?_; refine W_assignInt (by first | rfl | assumption) ?_; refine S_nil ?_; refine CW_seq ?_; refine CW_region rfl ?_)
  refine S_op (W_makeMap hS ?_)
  intro H w m1 hG' hm
  replace hG := hG.trans hG'
  replace hS := hG'.sub
  clear hG'
  refine S_op (W_makeMap hS ?_)
  intro H w m2 hG' hm2
  replace hG := hG.trans hG'
  replace hS := hG'.sub
  replace hm := hG'.le _ _ hm
  clear hG'
  (refine S_op ?_; refine W_assign rfl ?_; refine S_op ?_; refine W_assign rfl ?_; refine S_nil ?_; refine CW_seq ?_; refine CW_region rfl ?_; refine S_op ?_; refine W_movePtr (by first | rfl | assumption) ?_; refine S_op ?_; refine W_move rfl ?_)
  (refine S_op ?_; refine W_call hS (by rfl) (gather_nil H _) ?_); rintro v H w hG' rfl; replace hG := hG.trans hG'; replace hS := hG'.sub; replace hm := hG'.le _ _ hm; clear hG'
  (refine S_nil ?_; refine CW_seq ?_; refine CW_region rfl ?_; refine S_op ?_; refine W_movePtr (by first | rfl | assumption) ?_; refine S_op ?_; refine W_move rfl ?_)
  (refine S_op ?_; refine W_call hS (by rfl) (gather_nil H _) ?_); rintro v H w hG' rfl; replace hG := hG.trans hG'; replace hS := hG'.sub; replace hm := hG'.le _ _ hm; clear hG'
  (refine S_nil ?_; refine CW_seq ?_; refine CW_seq ?_; refine CW_region rfl ?_; refine S_op ?_; refine W_move rfl ?_)
  refine S_op (W_rangeMap Try.underlying99 (by rfl) hS hm ?_)
  intro H w it hG' hi
  replace hG := hG.trans hG'
  replace hS := hG'.sub
  replace hm := hG'.le _ _ hm
  clear hG'
  (refine S_nil ?_; refine CW_block ?_)
  refine CW_loopM [5, 8, 9, 10, 21, 22, 23, 24, 25, 26, 27, 28, 29, 30, 31, 32, 33]
    (fun m u w2 => ∃ H2, u 5 = .int .i64 0 ∧ Grow H w H2 w2)
    (m := 0) ⟨H, rfl, Grow.refl hS⟩ ?_
  rintro m u w2 ⟨H2, h5, hG2⟩
  replace hG := hG.trans hG2
  replace hS := hG2.sub
  replace hm := hG2.le _ _ hm
  replace hi := hG2.le _ _ hi
  (refine CW_seq ?_; refine CW_region rfl ?_)
  refine S_op (W_nextDone (by rfl) hS hm hi ?_)
  (refine S_op ?_; refine W_extract (by first | rfl | assumption) (by rfl) ?_; refine S_nil ?_; refine CW_seq ?_; refine CW_false (by first | rfl | assumption) ?_; refine CW_exit ?_; refine CW_seq ?_; refine CW_region rfl ?_; refine S_op ?_; refine W_move rfl ?_)
  refine S_op (W_lenMap Try.underlying99 (by rfl) hS hm ?_)
  (refine S_op ?_; refine W_moveInt (by first | rfl | assumption) ?_; refine S_op ?_; refine W_assignInt (by first | rfl | assumption) ?_; refine S_op ?_; refine W_assignInt (by first | rfl | assumption) ?_; refine S_nil ?_; refine CW_ret ?_)
  exact ⟨_, ResW_two (v1 := .int .i64 0) (v2 := .int .i64 0) rfl rfl, H2, hG, rfl⟩
theorem get_nil (H : HF) (key : ByteArray) : Fn Try.prog 36 [.pointer none, .string key] H fun v _ => v = .tuple #[.string ⟨#[]⟩, .bool false] := tGet_c (t := none) key TreeAt.nil (by simp [Tr.items])
theorem del_nil (H : HF) (key : ByteArray) : Fn Try.prog 38 [.pointer none, .string key] H fun v _ => v = .tuple #[.pointer none, .bool false] := by
  refine (tDel_c (t := none) key (TreeAt.nil (H := H)) (by simp [Tr.items])).mono ?_
  rintro v H' _ ⟨t', rfl, _, _, h⟩
  rw [h rfl]; rfl
theorem itemsNil (H : HF) : Fn Try.prog 35 [.pointer none] H fun v H' => ∃ A c, v = .slice A 0 c := by
  refine (items_t (t := none) (TreeAt.nil (H := H)).at_ (by simp [Tr.items])).mono ?_
  rintro v H' _ ⟨A, c, rfl, _⟩
  exact ⟨A, c, rfl⟩
theorem right_nil (H : HF) : Fn Try.prog 34 [.pointer none] H fun v _ => v = .bool true := right_t (t := none) (TreeAt.nil (H := H)).at_
theorem treeNil_c (H : HF) (key : ByteArray) : Fn Try.prog 14 [.string key] H fun v _ => v = .bool true := by
  refine Fn_of_CW Try.func14 rfl Try.ntmps14 Try.results14 rfl fun w hS => ?_; have hG := Grow.refl hS; have hS0 := hS
  (refine CW_seq ?_; refine CW_region rfl ?_; refine S_op ?_; refine W_assignBool (by first | rfl | assumption) ?_; refine S_nil ?_; refine CW_seq ?_; refine CW_seq ?_; refine CW_region rfl ?_)
  (refine S_op ?_; refine W_call hS (by rfl) (awake10_c H) ?_); rintro v H w hG' rfl; replace hG := hG.trans hG'; replace hS := hG'.sub; clear hG'
  (refine S_op ?_; refine W_not (by first | rfl | assumption) ?_; refine S_nil ?_; refine CW_false (by first | rfl | assumption) ?_; refine CW_skip ?_; refine CW_seq ?_; refine CW_region rfl ?_; refine S_op ?_; refine W_moveStr (by first | rfl | assumption) ?_)
  (refine S_op ?_; refine W_call hS (by rfl) (get_nil H key) ?_); rintro v H w hG' rfl; replace hG := hG.trans hG'; replace hS := hG'.sub; clear hG'
  (refine S_op ?_; refine W_moveTup (by first | rfl | assumption) ?_; refine S_op ?_; refine W_extract (by first | rfl | assumption) (by rfl) ?_; refine S_op ?_; refine W_extract (by first | rfl | assumption) (by rfl) ?_; refine S_op ?_; refine W_assignStr (by first | rfl | assumption) ?_; refine S_op ?_; refine W_assignBool (by first | rfl | assumption) ?_; refine S_nil ?_; refine CW_seq ?_; refine CW_region rfl ?_; refine S_op ?_; refine W_moveStr (by first | rfl | assumption) ?_)
  (refine S_op ?_; refine W_call hS (by rfl) (del_nil H key) ?_); rintro v H w hG' rfl; replace hG := hG.trans hG'; replace hS := hG'.sub; clear hG'
  (refine S_op ?_; refine W_moveTup (by first | rfl | assumption) ?_; refine S_op ?_; refine W_extract (by first | rfl | assumption) (by rfl) ?_; refine S_op ?_; refine W_extract (by first | rfl | assumption) (by rfl) ?_; refine S_op ?_; refine W_assignPtr (by first | rfl | assumption) ?_; refine S_op ?_; refine W_assignBool (by first | rfl | assumption) ?_; refine S_nil ?_; refine CW_seq ?_; refine CW_region rfl ?_)
  (refine S_op ?_; refine W_call hS (by rfl) (nodes_nil H) ?_); rintro v H w hG' rfl; replace hG := hG.trans hG'; replace hS := hG'.sub; clear hG'
  (refine S_op ?_; refine W_moveTup (by first | rfl | assumption) ?_; refine S_op ?_; refine W_extract (by first | rfl | assumption) (by rfl) ?_; refine S_op ?_; refine W_extract (by first | rfl | assumption) (by rfl) ?_; refine S_op ?_; refine W_assignInt (by first | rfl | assumption) ?_; refine S_op ?_; refine W_assignInt (by first | rfl | assumption) ?_; refine S_nil ?_; refine CW_seq ?_; refine CW_region rfl ?_; refine S_op ?_; refine W_moveStr (by first | rfl | assumption) ?_; refine S_op ?_; refine W_seqlT (by first | rfl | assumption) (by first | rfl | assumption) (by first | assumption | rfl) ?_; refine S_op ?_; refine W_moveBool (by first | rfl | assumption) ?_; refine S_want (by rfl) ?_; refine W_moveBool (by first | rfl | assumption) ?_; refine S_want (by rfl) ?_; refine W_not (by first | rfl | assumption) ?_; refine S_op ?_; refine W_pickT (by first | rfl | assumption) (by first | rfl | assumption) ?_; refine S_op ?_; refine W_moveBool (by first | rfl | assumption) ?_; refine S_want (by rfl) ?_; refine W_movePtr (by first | rfl | assumption) ?_; refine S_want (by rfl) ?_; refine W_peqT (by first | rfl | assumption) (by first | rfl | assumption) (by first | rfl | assumption) ?_; refine S_op ?_; refine W_pickT (by first | rfl | assumption) (by first | rfl | assumption) ?_; refine S_op ?_; refine W_moveBool (by first | rfl | assumption) ?_; refine S_want (by rfl) ?_; refine W_moveBool (by first | rfl | assumption) ?_; refine S_want (by rfl) ?_; refine W_not (by first | rfl | assumption) ?_; refine S_op ?_; refine W_pickT (by first | rfl | assumption) (by first | rfl | assumption) ?_; refine S_op ?_; refine W_moveBool (by first | rfl | assumption) ?_; refine S_want (by rfl) ?_; refine W_moveStr (by first | rfl | assumption) ?_)
  (refine S_want (by rfl) ?_; refine W_call hS (by rfl) (path_nil H key) ?_); rintro v H w hG' rfl; replace hG := hG.trans hG'; replace hS := hG'.sub; clear hG'
  (refine S_want (by rfl) ?_; refine W_len (by first | rfl | assumption) ?_; refine S_want (by rfl) ?_; refine W_eqlT (by first | rfl | assumption) (by first | rfl | assumption) (by first | omega | rfl) ?_; refine S_op ?_; refine W_pickT (by first | rfl | assumption) (by first | rfl | assumption) ?_; refine S_op ?_; refine W_moveBool (by first | rfl | assumption) ?_)
  (refine S_want (by rfl) ?_; refine W_call hS (by rfl) (itemsNil H) ?_); rintro v H w hG' ⟨A, c, rfl⟩; replace hG := hG.trans hG'; replace hS := hG'.sub; clear hG'
  (refine S_want (by rfl) ?_; refine W_len (by first | rfl | assumption) ?_; refine S_want (by rfl) ?_; refine W_eqlT (by first | rfl | assumption) (by first | rfl | assumption) (by first | omega | rfl) ?_; refine S_op ?_; refine W_pickT (by first | rfl | assumption) (by first | rfl | assumption) ?_; refine S_op ?_; refine W_moveBool (by first | rfl | assumption) ?_)
  (refine S_want (by rfl) ?_; refine W_call hS (by rfl) (right_nil H) ?_); rintro v H w hG' rfl; replace hG := hG.trans hG'; replace hS := hG'.sub; clear hG'
  (refine S_op ?_; refine W_pickT (by first | rfl | assumption) (by first | rfl | assumption) ?_; refine S_op ?_; refine W_moveBool (by first | rfl | assumption) ?_; refine S_want (by rfl) ?_; refine W_moveInt (by first | rfl | assumption) ?_; refine S_want (by rfl) ?_; refine W_eqlT (by first | rfl | assumption) (by first | rfl | assumption) (by first | omega | rfl) ?_; refine S_op ?_; refine W_pickT (by first | rfl | assumption) (by first | rfl | assumption) ?_; refine S_op ?_; refine W_moveBool (by first | rfl | assumption) ?_; refine S_want (by rfl) ?_; refine W_moveInt (by first | rfl | assumption) ?_; refine S_want (by rfl) ?_; refine W_eqlT (by first | rfl | assumption) (by first | rfl | assumption) (by first | omega | rfl) ?_; refine S_op ?_; refine W_pickT (by first | rfl | assumption) (by first | rfl | assumption) ?_; refine S_op ?_; refine W_assignBool (by first | rfl | assumption) ?_; refine S_nil ?_; refine CW_ret ?_)
  exact ⟨_, ResW_one (v := .bool _) rfl, H, hG, rfl⟩
end Go.Proofs.Ytlkbdgfipdeloaa
