/- PairRights: it answers true. Conditions: sizes. -/
import Derived.Test.YtaimilhkfmpdoaaLaw03
import Derived.Test.YtaimilhkfmpdoaaOpen
namespace Go.Proofs.Ytaimilhkfmpdoaa
open Go.Proofs Go.RowKit
set_option linter.unusedVariables false
attribute [local irreducible] CW SeqW OpW
set_option maxHeartbeats 4000000
theorem fewB_le {l : List Ent} (h : fewB l = true) : l.length ≤ 300 := by simp [fewB] at h; exact h.1
theorem pairRights_c (H : HF) (A : Option Addr) (c : Nat) (s : ByteArray) (l : List Ent) (hl : EntsAt H A l) (hc : l.length ≤ c) (hb : l.length ≤ 100000000000000) (hs : Small l) (hss : s.size ≤ reachBytes) :
    Fn Try.prog 9 [.string s, .slice A l.length c] H fun v _ => v = .bool true := by
  refine Fn_of_CW Try.func9 rfl Try.ntmps9 Try.results9 rfl fun w hS => ?_
  simp only [reachBytes] at hss
  (refine CW_seq ?_; refine CW_region rfl ?_; refine S_op ?_; refine W_assignBool (by first | rfl | assumption) ?_; refine S_nil ?_; refine CW_seq ?_; refine CW_seq ?_; refine CW_region rfl ?_)
  refine S_op ?_
  refine W_call hS (by rfl) (awake_c H) ?_
  rintro v H1 w1 hG1 rfl
  have hl1 := hl.mono hG1.le
  (refine S_op ?_; refine W_not (by first | rfl | assumption) ?_; refine S_op ?_; refine W_moveBool (by first | rfl | assumption) ?_; refine S_want (by rfl) ?_; refine W_moveSl (by first | rfl | assumption) ?_)
  refine S_want (by rfl) ?_
  refine W_call hG1.sub (by rfl) (few_c H1 A c l hl1 hb hs) ?_
  rintro v H2 w2 hG2 rfl
  have hG02 := hG1.trans hG2
  cases hf : fewB l with
  | false =>
    (refine S_want (by rfl) ?_; refine W_not (by first | rfl | assumption) ?_; refine S_op ?_; refine W_pickF (by first | rfl | assumption) (by first | rfl | assumption) ?_; refine S_nil ?_; refine CW_true (by first | rfl | assumption) ?_; refine CW_seq ?_; refine CW_region rfl ?_)
    refine S_op ?_
    refine W_call hG2.sub (by rfl) (awake_c H2) ?_
    rintro v H3 w3 hG3 rfl
    (refine S_op ?_; refine W_assignBool (by first | rfl | assumption) ?_; refine S_nil ?_; refine CW_ret ?_)
    exact ⟨_, ResW_one (v := .bool _) rfl, H3, hG02.trans hG3, rfl⟩
  | true =>
    have hb2 := fewB_le hf
    have hl2 := hl1.mono hG2.le
    (refine S_want (by rfl) ?_; refine W_not (by first | rfl | assumption) ?_; refine S_op ?_; refine W_pickF (by first | rfl | assumption) (by first | rfl | assumption) ?_; refine S_nil ?_; refine CW_false (by first | rfl | assumption) ?_; refine CW_skip ?_; refine CW_seq ?_; refine CW_region rfl ?_; refine S_op ?_; refine W_moveStr (by first | rfl | assumption) ?_)
    refine S_op ?_
    refine W_call hG2.sub (by rfl) (key_c H2 s) ?_
    rintro v H3 w3 hG3 rfl
    (refine S_op ?_; refine W_moveStr (by first | rfl | assumption) ?_)
    refine S_op ?_
    refine W_call hG3.sub (by rfl) (rKey_c H3 s) ?_
    rintro v H4 w4 hG4 rfl
    (refine S_op ?_; refine W_eqlT (by first | rfl | assumption) (by first | rfl | assumption) (by omega) ?_; refine S_op ?_; refine W_moveBool (by first | rfl | assumption) ?_; refine S_want (by rfl) ?_; refine W_moveStr (by first | rfl | assumption) ?_)
    refine S_want (by rfl) ?_
    refine W_call hG4.sub (by rfl) (value_c H4 s) ?_
    rintro v H5 w5 hG5 rfl
    (refine S_want (by rfl) ?_; refine W_moveStr (by first | rfl | assumption) ?_)
    refine S_want (by rfl) ?_
    refine W_call hG5.sub (by rfl) (rValue_c H5 s) ?_
    rintro v H6 w6 hG6 rfl
    have hG26 := ((hG3.trans hG4).trans hG5).trans hG6
    have hl6 := hl2.mono hG26.le
    (refine S_want (by rfl) ?_; refine W_eqlT (by first | rfl | assumption) (by first | rfl | assumption) (by omega) ?_; refine S_op ?_; refine W_pickT (by first | rfl | assumption) (by first | rfl | assumption) ?_; refine S_op ?_; refine W_moveBool (by first | rfl | assumption) ?_; refine S_want (by rfl) ?_; refine W_moveSl (by first | rfl | assumption) ?_)
    refine S_want (by rfl) ?_
    refine W_call hG6.sub (by rfl) (rise_c H6 A c l hl6 hc (by omega)) ?_
    rintro v H7 w7 hG7 rfl
    have hl7 := hl6.mono hG7.le
    (refine S_want (by rfl) ?_; refine W_moveSl (by first | rfl | assumption) ?_)
    refine S_want (by rfl) ?_
    refine W_call hG7.sub (by rfl) (rRise_c H7 A c l hl7 (by omega)) ?_
    rintro v H8 w8 hG8 rfl
    (refine S_want (by rfl) ?_; refine W_beqlT (by first | rfl | assumption) (by first | rfl | assumption) (by first | rfl | assumption) ?_; refine S_op ?_; refine W_pickT (by first | rfl | assumption) (by first | rfl | assumption) ?_; refine S_op ?_; refine W_assignBool (by first | rfl | assumption) ?_; refine S_nil ?_; refine CW_ret ?_)
    exact ⟨_, ResW_one (v := .bool _) rfl, H8, ((hG02.trans hG26).trans hG7).trans hG8, by simp⟩
end Go.Proofs.Ytaimilhkfmpdoaa
