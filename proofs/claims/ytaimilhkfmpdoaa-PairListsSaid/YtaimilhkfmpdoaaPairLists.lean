/- PairLists: it answers true. Conditions: sizes. -/
import Derived.Test.YtaimilhkfmpdoaaBuilt
namespace Go.Proofs.Ytaimilhkfmpdoaa
open Go.Proofs Go.RowKit
set_option linter.unusedVariables false
attribute [local irreducible] CW SeqW OpW
set_option maxHeartbeats 4000000
theorem pairLists_c (H : HF) (A : Option Addr) (c : Nat) (l : List Ent) (e : Ent) (key : ByteArray) (hl : EntsAt H A l) (hc : l.length ≤ c) (hb : l.length ≤ 100000000000000) (hs : Small l) (he : SmallE e) (hk : key.size ≤ reachBytes) :
    Fn Try.prog 10 [.slice A l.length c, .agg #[.string e.key, .string e.val], .string key] H fun v _ => v = .bool true := by
  refine Fn_of_CW Try.func10 rfl Try.ntmps10 Try.results10 rfl fun w hS => ?_
  obtain ⟨he1, he2⟩ := he
  simp only [reachBytes] at he1 he2 hk
  (refine CW_seq ?_; refine CW_region rfl ?_)
  refine S_op (W_boxAgg hS rfl ?_)
  intro H0 w0 bx hG0 hb0
  (refine S_op ?_; refine W_assignBool (by first | rfl | assumption) ?_; refine S_nil ?_; refine CW_seq ?_; refine CW_seq ?_; refine CW_region rfl ?_)
  refine S_op ?_
  refine W_call hG0.sub (by rfl) (awake_c H0) ?_
  rintro v H1 w1 hG1 rfl
  have hG01 := hG0.trans hG1
  have hl1 := hl.mono hG01.le
  have hb1 := hG1.le _ _ hb0
  (refine S_op ?_; refine W_not (by first | rfl | assumption) ?_; refine S_op ?_; refine W_moveBool (by first | rfl | assumption) ?_; refine S_want (by rfl) ?_; refine W_moveSl (by first | rfl | assumption) ?_)
  refine S_want (by rfl) ?_
  refine W_call hG1.sub (by rfl) (few_c H1 A c l hl1 hb hs) ?_
  rintro v H2 w2 hG2 rfl
  have hG02 := hG01.trans hG2
  have hS2 := hG2.sub
  have hb2 := hG2.le _ _ hb1
  have hl2 := hl1.mono hG2.le
  clear hb0 hb1 hl1 hG01 hG1 hG0
  cases hf : fewB l with
  | false =>
    (refine S_want (by rfl) ?_; refine W_not (by first | rfl | assumption) ?_; refine S_op ?_; refine W_pickF (by first | rfl | assumption) (by first | rfl | assumption) ?_; refine S_op ?_; refine W_moveBool (by first | rfl | assumption) ?_; refine S_pass (by rfl) ?_; refine S_pass (by rfl) ?_; refine S_pass (by rfl) ?_; refine S_pass (by rfl) ?_; refine S_pass (by rfl) ?_; refine S_pass (by rfl) ?_; refine S_pass (by rfl) ?_; refine S_pass (by rfl) ?_; refine S_pass (by rfl) ?_; refine S_pass (by rfl) ?_; refine S_pass (by rfl) ?_; refine S_op ?_; refine W_pickT (by first | rfl | assumption) (by first | rfl | assumption) ?_; refine S_nil ?_; refine CW_true (by first | rfl | assumption) ?_; refine CW_seq ?_; refine CW_region rfl ?_)
    refine S_op ?_
    refine W_call hG2.sub (by rfl) (awake_c H2) ?_
    rintro v H3 w3 hG3 rfl
    (refine S_op ?_; refine W_assignBool (by first | rfl | assumption) ?_; refine S_nil ?_; refine CW_ret ?_)
    exact ⟨_, ResW_one (v := .bool _) rfl, H3, hG02.trans hG3, rfl⟩
  | true =>
    have hlen := fewB_le hf
    by_cases hbig : 2000 < e.key.size + e.val.size + key.size
    · (refine S_want (by rfl) ?_; refine W_not (by first | rfl | assumption) ?_; refine S_op ?_; refine W_pickF (by first | rfl | assumption) (by first | rfl | assumption) ?_; refine S_op ?_; refine W_moveBool (by first | rfl | assumption) ?_; refine S_want (by rfl) ?_; refine W_field (by first | rfl | assumption) ?_; refine S_want (by rfl) ?_; refine W_loadH (by first | rfl | assumption) (by assumption) (by rfl) (by assumption) ?_; refine S_want (by rfl) ?_; refine W_lenS (by first | rfl | assumption) ?_; refine S_want (by rfl) ?_; refine W_field (by first | rfl | assumption) ?_; refine S_want (by rfl) ?_; refine W_loadH (by first | rfl | assumption) (by assumption) (by rfl) (by assumption) ?_; refine S_want (by rfl) ?_; refine W_lenS (by first | rfl | assumption) ?_; refine S_want (by rfl) ?_; refine W_addN (by first | rfl | assumption) (by first | rfl | assumption) (by omega) ?_; refine S_want (by rfl) ?_; refine W_moveStr (by first | rfl | assumption) ?_; refine S_want (by rfl) ?_; refine W_lenS (by first | rfl | assumption) ?_; refine S_want (by rfl) ?_; refine W_addN (by first | rfl | assumption) (by first | rfl | assumption) (by omega) ?_; refine S_want (by rfl) ?_; refine W_gtrT (by first | rfl | assumption) (by first | rfl | assumption) (by omega) ?_; refine S_op ?_; refine W_pickF (by first | rfl | assumption) (by first | rfl | assumption) ?_; refine S_nil ?_; refine CW_true (by first | rfl | assumption) ?_; refine CW_seq ?_; refine CW_region rfl ?_)
      refine S_op ?_
      refine W_call hG2.sub (by rfl) (awake_c H2) ?_
      rintro v H3 w3 hG3 rfl
      (refine S_op ?_; refine W_assignBool (by first | rfl | assumption) ?_; refine S_nil ?_; refine CW_ret ?_)
      exact ⟨_, ResW_one (v := .bool _) rfl, H3, hG02.trans hG3, rfl⟩
    · (refine S_want (by rfl) ?_; refine W_not (by first | rfl | assumption) ?_; refine S_op ?_; refine W_pickF (by first | rfl | assumption) (by first | rfl | assumption) ?_; refine S_op ?_; refine W_moveBool (by first | rfl | assumption) ?_; refine S_want (by rfl) ?_; refine W_field (by first | rfl | assumption) ?_; refine S_want (by rfl) ?_; refine W_loadH (by first | rfl | assumption) (by assumption) (by rfl) (by assumption) ?_; refine S_want (by rfl) ?_; refine W_lenS (by first | rfl | assumption) ?_; refine S_want (by rfl) ?_; refine W_field (by first | rfl | assumption) ?_; refine S_want (by rfl) ?_; refine W_loadH (by first | rfl | assumption) (by assumption) (by rfl) (by assumption) ?_; refine S_want (by rfl) ?_; refine W_lenS (by first | rfl | assumption) ?_; refine S_want (by rfl) ?_; refine W_addN (by first | rfl | assumption) (by first | rfl | assumption) (by omega) ?_; refine S_want (by rfl) ?_; refine W_moveStr (by first | rfl | assumption) ?_; refine S_want (by rfl) ?_; refine W_lenS (by first | rfl | assumption) ?_; refine S_want (by rfl) ?_; refine W_addN (by first | rfl | assumption) (by first | rfl | assumption) (by omega) ?_; refine S_want (by rfl) ?_; refine W_gtrF (by first | rfl | assumption) (by first | rfl | assumption) (by omega) ?_; refine S_op ?_; refine W_pickF (by first | rfl | assumption) (by first | rfl | assumption) ?_; refine S_nil ?_; refine CW_false (by first | rfl | assumption) ?_; refine CW_skip ?_; refine CW_seq ?_; refine CW_region rfl ?_; refine S_op ?_; refine W_moveSl (by first | rfl | assumption) ?_; refine S_op ?_; refine W_moveStr (by first | rfl | assumption) ?_)
      refine S_op ?_
      refine W_call hS2 (by rfl) (find_c H2 A c l key hl2 (by omega)) ?_
      rintro v H3 w3 hG3 rfl
      have hG03 := hG02.trans hG3
      have hS3 := hG3.sub
      have hb3 := hG3.le _ _ hb2
      have hl3 := hl2.mono hG3.le
      clear hb2 hl2 hG02 hG2 hG3 hS2
      (refine S_op ?_; refine W_moveTup (by first | rfl | assumption) ?_; refine S_op ?_; refine W_extract (by first | rfl | assumption) (by rfl) ?_; refine S_op ?_; refine W_extract (by first | rfl | assumption) (by rfl) ?_; refine S_op ?_; refine W_assignInt (by first | rfl | assumption) ?_; refine S_op ?_; refine W_assignBool (by first | rfl | assumption) ?_; refine S_nil ?_; refine CW_seq ?_; refine CW_region rfl ?_; refine S_op ?_; refine W_moveSl (by first | rfl | assumption) ?_; refine S_op ?_; refine W_loadWhole (by first | rfl | assumption) (by assumption) (by rfl) (by assumption) ?_)
      refine S_op ?_
      refine W_call hS3 (by rfl) (with_c H3 A c l e hl3 hc (by omega)) ?_
      rintro v H4 w4 hG4 ⟨A4, c4, rfl, hc4, hm4⟩
      have hG04 := hG03.trans hG4
      have hS4 := hG4.sub
      have hb4 := hG4.le _ _ hb3
      have hl4 := hl3.mono hG4.le
      clear hb3 hl3 hG03 hG4 hS3
      (refine S_op ?_; refine W_assignSl (by first | rfl | assumption) ?_; refine S_nil ?_; refine CW_seq ?_; refine CW_region rfl ?_; refine S_op ?_; refine W_moveSl (by first | rfl | assumption) ?_; refine S_op ?_; refine W_moveStr (by first | rfl | assumption) ?_)
      refine S_op ?_
      refine W_call hS4 (by rfl) (without_c H4 A c l key hl4 hc (by omega)) ?_
      rintro v H5 w5 hG5 ⟨s5, rfl, A5, c5, rfl, hc5, hm5⟩
      have hG05 := hG04.trans hG5
      have hS5 := hG5.sub
      have hb5 := hG5.le _ _ hb4
      have hl5 := hl4.mono hG5.le
      have hm4' := hm4.mono hG5.le
      clear hb4 hl4 hG04 hG5 hS4 hm4
      (refine S_op ?_; refine W_moveTup (by first | rfl | assumption) ?_; refine S_op ?_; refine W_extract (by first | rfl | assumption) (by rfl) ?_; refine S_op ?_; refine W_extract (by first | rfl | assumption) (by rfl) ?_; refine S_op ?_; refine W_assignSl (by first | rfl | assumption) ?_; refine S_op ?_; refine W_assignBool (by first | rfl | assumption) ?_; refine S_nil ?_; refine CW_seq ?_; refine CW_seq ?_; refine CW_region rfl ?_; refine S_op ?_; refine W_moveSl (by first | rfl | assumption) ?_)
      refine S_op ?_
      refine W_call hS5 (by rfl) (rRise_c H5 A c l hl5 (by omega)) ?_
      rintro v H6 w6 hG6 rfl
      have hG06 := hG05.trans hG6
      have hS6 := hG6.sub
      have hb6 := hG6.le _ _ hb5
      have hl6 := hl5.mono hG6.le
      have hm4 := hm4'.mono hG6.le
      have hm6 := hm5.mono hG6.le
      clear hb5 hl5 hG05 hG6 hS5 hm4' hm5
      cases hr : riseB l with
      | false =>
        (refine S_op ?_; refine W_not (by first | rfl | assumption) ?_; refine S_nil ?_; refine CW_true (by first | rfl | assumption) ?_; refine CW_seq ?_; refine CW_region rfl ?_; refine S_op ?_; refine W_assignBool (by first | rfl | assumption) ?_; refine S_nil ?_; refine CW_ret ?_)
        exact ⟨_, ResW_one (v := .bool _) rfl, H6, hG06, rfl⟩
      | true =>
        (refine S_op ?_; refine W_not (by first | rfl | assumption) ?_; refine S_nil ?_; refine CW_false (by first | rfl | assumption) ?_; refine CW_skip ?_; refine CW_seq ?_; refine CW_region rfl ?_; refine S_op ?_; refine W_moveSl (by first | rfl | assumption) ?_; refine S_op ?_; refine W_moveStr (by first | rfl | assumption) ?_)
        refine S_op ?_
        refine W_call hS6 (by rfl) (rFind_c H6 A c l key hl6 (by omega)) ?_
        rintro v H7 w7 hG7 rfl
        have hG07 := hG06.trans hG7
        have hS7 := hG7.sub
        have hb7 := hG7.le _ _ hb6
        have hl7 := hl6.mono hG7.le
        have hm4' := hm4.mono hG7.le
        have hm7 := hm6.mono hG7.le
        clear hb6 hl6 hG06 hG7 hS6 hm4 hm6
        rw [rFind_eq hr]
        (refine S_op ?_; refine W_moveTup (by first | rfl | assumption) ?_; refine S_op ?_; refine W_extract (by first | rfl | assumption) (by rfl) ?_; refine S_op ?_; refine W_extract (by first | rfl | assumption) (by rfl) ?_; refine S_op ?_; refine W_assignInt (by first | rfl | assumption) ?_; refine S_op ?_; refine W_assignBool (by first | rfl | assumption) ?_; refine S_nil ?_; refine CW_seq ?_; refine CW_region rfl ?_; refine S_op ?_; refine W_moveSl (by first | rfl | assumption) ?_; refine S_op ?_; refine W_moveStr (by first | rfl | assumption) ?_)
        refine S_op ?_
        refine W_call hS7 (by rfl) (rWithout_c H7 A c l key hl7 (by omega)) ?_
        rintro v H8 w8 hG8 ⟨s8, rfl, A8, c8, rfl, hc8, hn8⟩
        have hG08 := hG07.trans hG8
        have hS8 := hG8.sub
        have hb8 := hG8.le _ _ hb7
        have hl8 := hl7.mono hG8.le
        have hm8 := hm7.mono hG8.le
        have hm48 := hm4'.mono hG8.le
        clear hb7 hl7 hG07 hG8 hS7 hm4' hm7
        rw [rWithout_eq hr] at hn8 ⊢
        have hsome : decide ((withoutL l key).length < l.length) = findIs l key := by
          rw [withoutL_length hr]
          cases hfi : findIs l key with
          | false => simp
          | true => have := findIs_lt hfi; simp; omega
        rw [hsome]
        (refine S_op ?_; refine W_moveTup (by first | rfl | assumption) ?_; refine S_op ?_; refine W_extract (by first | rfl | assumption) (by rfl) ?_; refine S_op ?_; refine W_extract (by first | rfl | assumption) (by rfl) ?_; refine S_op ?_; refine W_assignSl (by first | rfl | assumption) ?_; refine S_op ?_; refine W_assignBool (by first | rfl | assumption) ?_; refine S_nil ?_; refine CW_seq ?_; refine CW_region rfl ?_; refine S_op ?_; refine W_moveInt (by first | rfl | assumption) ?_; refine S_op ?_; refine W_moveInt (by first | rfl | assumption) ?_; refine S_op ?_; refine W_eqlT (by first | rfl | assumption) (by first | rfl | assumption) (by omega) ?_; refine S_op ?_; refine W_moveBool (by first | rfl | assumption) ?_; refine S_want (by rfl) ?_; refine W_moveBool (by first | rfl | assumption) ?_; refine S_want (by rfl) ?_; refine W_moveBool (by first | rfl | assumption) ?_; refine S_want (by rfl) ?_; refine W_beqlT (by first | rfl | assumption) (by first | rfl | assumption) (by first | rfl | assumption) ?_; refine S_op ?_; refine W_pickT (by first | rfl | assumption) (by first | rfl | assumption) ?_; refine S_op ?_; refine W_moveBool (by first | rfl | assumption) ?_; refine S_want (by rfl) ?_; refine W_moveSl (by first | rfl | assumption) ?_; refine S_want (by rfl) ?_; refine W_moveSl (by first | rfl | assumption) ?_; refine S_want (by rfl) ?_; refine W_loadWhole (by first | rfl | assumption) (by assumption) (by rfl) (by assumption) ?_)
        refine S_want (by rfl) ?_
        refine W_call (vs := [.slice A l.length c, .agg #[.string e.key, .string e.val]]) hS8 (by rfl) (rWith_c H8 A c l e hl8 (by omega)) ?_
        rintro v H9 w9 hG9 ⟨A9, c9, rfl, hc9, hn9⟩
        have hG09 := hG08.trans hG9
        have hS9 := hG9.sub
        have hm9 := hm8.mono hG9.le
        have hm49 := hm48.mono hG9.le
        have hn89 := hn8.mono hG9.le
        clear hb8 hl8 hG08 hG9 hS8 hm8 hm48 hn8
        rw [rWith_eq hr] at hn9 ⊢
        skip
        refine S_want (by rfl) ?_
        refine W_call hS9 (by rfl) (same_c H9 _ _ _ _ _ _ hm49 hn9 (by have := withL_length_le l e; omega)) ?_
        rintro v H10 w10 hG10 rfl
        have hm10 := hm9.mono hG10.le
        have hn10 := hn89.mono hG10.le
        rw [decide_eq_true rfl]
        (refine S_op ?_; refine W_pickT (by first | rfl | assumption) (by first | rfl | assumption) ?_; refine S_op ?_; refine W_moveBool (by first | rfl | assumption) ?_; refine S_want (by rfl) ?_; refine W_moveSl (by first | rfl | assumption) ?_; refine S_want (by rfl) ?_; refine W_moveSl (by first | rfl | assumption) ?_)
        refine S_want (by rfl) ?_
        refine W_call hG10.sub (by rfl) (same_c H10 _ _ _ _ _ _ hm10 hn10 (by have := withoutL_length_le l key; omega)) ?_
        rintro v H11 w11 hG11 rfl
        rw [decide_eq_true rfl]
        (refine S_op ?_; refine W_pickT (by first | rfl | assumption) (by first | rfl | assumption) ?_; refine S_op ?_; refine W_moveBool (by first | rfl | assumption) ?_; refine S_want (by rfl) ?_; refine W_moveBool (by first | rfl | assumption) ?_; refine S_want (by rfl) ?_; refine W_moveBool (by first | rfl | assumption) ?_; refine S_want (by rfl) ?_; refine W_beqlT (by first | rfl | assumption) (by first | rfl | assumption) (by first | rfl | assumption) ?_; refine S_op ?_; refine W_pickT (by first | rfl | assumption) (by first | rfl | assumption) ?_; refine S_op ?_; refine W_assignBool (by first | rfl | assumption) ?_; refine S_nil ?_; refine CW_ret ?_)
        exact ⟨_, ResW_one (v := .bool _) rfl, H11, (hG09.trans hG10).trans hG11, rfl⟩
end Go.Proofs.Ytaimilhkfmpdoaa
