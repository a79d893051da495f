/- DiffTells: it answers true. Conditions: sizes. -/
import Derived.Test.YtnjeoobcejlojaaDiff6
namespace Go.Proofs.Ytnjeoobcejlojaa
open Go.Proofs Go.RowKit
set_option linter.unusedVariables false
attribute [local irreducible] CW CWD SeqW OpW
set_option maxHeartbeats 8000000
theorem diffTells_c (H : HF) (A B : Option Addr) (c d : Nat) (a b : List Op10) (s : Bool) (hl : SlAt H A (ops10 a)) (hm : SlAt H B (ops10 b)) (ba : a.length ≤ 100000000000000) (bb : b.length ≤ 100000000000000) (sa : ∀ o ∈ a, o.Ok) (sb : ∀ o ∈ b, o.Ok) :
    Fn Try.prog 4 [.slice A a.length c, .slice B b.length d, .bool s] H fun v _ => v = .bool true := by
  refine Fn_of_CW Try.func4 rfl Try.ntmps4 Try.results4 rfl fun w hS => ?_; have hG := Grow.refl hS; have hS0 := hS
  (refine CW_seq ?_; refine CW_region rfl ?_; refine S_op ?_; refine W_assignBool (by first | rfl | assumption) ?_; refine S_nil ?_; refine CW_seq ?_; refine CW_seq ?_; refine CW_region rfl ?_)
  (refine S_op ?_; refine W_call hS (by rfl) (awake22_c H) ?_); rintro v H w hG' rfl; replace hG := hG.trans hG'; replace hS := hG'.sub; replace hl := hl.mono hG'.le; replace hm := hm.mono hG'.le; clear hG'
  (refine S_op ?_; refine W_not (by first | rfl | assumption) ?_; refine S_op ?_; refine W_moveBool (by first | rfl | assumption) ?_; refine S_want (by rfl) ?_; refine W_moveSl (by first | rfl | assumption) ?_)
  (refine S_want (by rfl) ?_; refine W_call hS (by rfl) (few22_c H A c a hl ba sa) ?_); rintro v H w hG' rfl; replace hG := hG.trans hG'; replace hS := hG'.sub; replace hl := hl.mono hG'.le; replace hm := hm.mono hG'.le; clear hG'
  cases hfa : few22B a with
  | false =>
    skip
    (refine S_want (by rfl) ?_; refine W_not (by first | rfl | assumption) ?_; refine S_op ?_; refine W_pickF (by first | rfl | assumption) (by first | rfl | assumption) ?_; refine S_op ?_; refine W_moveBool (by first | rfl | assumption) ?_; refine S_pass (by rfl) ?_; refine S_pass (by rfl) ?_; refine S_pass (by rfl) ?_; refine S_op ?_; refine W_pickT (by first | rfl | assumption) (by first | rfl | assumption) ?_; refine S_nil ?_; refine CW_true (by first | rfl | assumption) ?_; refine CW_seq ?_; refine CW_region rfl ?_)
    (refine S_op ?_; refine W_call hS (by rfl) (awake22_c H) ?_); rintro v H w hG' rfl; replace hG := hG.trans hG'; replace hS := hG'.sub; clear hG'
    (refine S_op ?_; refine W_assignBool (by first | rfl | assumption) ?_; refine S_nil ?_; refine CW_ret ?_)
    exact ⟨_, ResW_one (v := .bool _) rfl, H, hG, rfl⟩
  | true =>
    have la := few22B_le hfa
    (refine S_want (by rfl) ?_; refine W_not (by first | rfl | assumption) ?_; refine S_op ?_; refine W_pickF (by first | rfl | assumption) (by first | rfl | assumption) ?_; refine S_op ?_; refine W_moveBool (by first | rfl | assumption) ?_; refine S_want (by rfl) ?_; refine W_moveSl (by first | rfl | assumption) ?_)
    (refine S_want (by rfl) ?_; refine W_call hS (by rfl) (few22_c H B d b hm bb sb) ?_); rintro v H w hG' rfl; replace hG := hG.trans hG'; replace hS := hG'.sub; replace hl := hl.mono hG'.le; replace hm := hm.mono hG'.le; clear hG'
    cases hfb : few22B b with
    | false =>
      skip
      (refine S_want (by rfl) ?_; refine W_not (by first | rfl | assumption) ?_; refine S_op ?_; refine W_pickF (by first | rfl | assumption) (by first | rfl | assumption) ?_; refine S_nil ?_; refine CW_true (by first | rfl | assumption) ?_; refine CW_seq ?_; refine CW_region rfl ?_)
      (refine S_op ?_; refine W_call hS (by rfl) (awake22_c H) ?_); rintro v H w hG' rfl; replace hG := hG.trans hG'; replace hS := hG'.sub; clear hG'
      (refine S_op ?_; refine W_assignBool (by first | rfl | assumption) ?_; refine S_nil ?_; refine CW_ret ?_)
      exact ⟨_, ResW_one (v := .bool _) rfl, H, hG, rfl⟩
    | true =>
      have lb := few22B_le hfb
      (refine S_want (by rfl) ?_; refine W_not (by first | rfl | assumption) ?_; refine S_op ?_; refine W_pickF (by first | rfl | assumption) (by first | rfl | assumption) ?_; refine S_nil ?_; refine CW_false (by first | rfl | assumption) ?_; refine CW_skip ?_; refine CW_seq ?_; refine CW_region rfl ?_; refine S_op ?_; refine W_moveSl (by first | rfl | assumption) ?_)
      (refine S_op ?_; refine W_call hS (by rfl) (built22_c H none A c a hl (by omega) TreeAt.nil (by simp [Tr.items])) ?_); rintro v H w hG' ⟨x, rfl, hx, _, hxl⟩; replace hG := hG.trans hG'; replace hS := hG'.sub; replace hl := hl.mono hG'.le; replace hm := hm.mono hG'.le; clear hG'
      have zx : (Tr.items none).length = 0 := rfl
      (refine S_op ?_; refine W_assignPtr (by first | rfl | assumption) ?_; refine S_nil ?_; refine CW_seq ?_; refine CW_region rfl ?_; refine S_op ?_; refine W_movePtr (by first | rfl | assumption) ?_; refine S_op ?_; refine W_moveSl (by first | rfl | assumption) ?_)
      (refine S_op ?_; refine W_call hS (by rfl) (built22_c H x B d b hm (by omega) hx (by omega)) ?_); rintro v H w hG' ⟨y, rfl, hy, _, hyl⟩; replace hG := hG.trans hG'; replace hS := hG'.sub; replace hx := hx.mono hG'.le; replace hm := hm.mono hG'.le; clear hG'
      cases s with
      | false =>
        skip
        have bo := ofM_len x.items y.items
        (refine S_op ?_; refine W_assignPtr (by first | rfl | assumption) ?_; refine S_nil ?_; refine CW_seq ?_; refine CW_seq ?_; refine CW_region rfl ?_; refine S_op ?_; refine W_moveBool (by first | rfl | assumption) ?_; refine S_nil ?_; refine CW_false (by first | rfl | assumption) ?_; refine CW_skip ?_; refine CW_seq ?_; refine CW_region rfl ?_; refine S_op ?_; refine W_movePtr (by first | rfl | assumption) ?_; refine S_op ?_; refine W_movePtr (by first | rfl | assumption) ?_)
        (refine S_op ?_; refine W_call hS (by rfl) (of_c hx hy (by omega) (by omega)) ?_); rintro v H w hG' hn; replace hG := hG.trans hG'; replace hS := hG'.sub; replace hx := hx.mono hG'.le; replace hy := hy.mono hG'.le; clear hG'
        obtain ⟨A3, c3, rfl, hc3, hl3⟩ := hn.chgs
        clear hn
        skip
        (refine S_op ?_; refine W_call hS (by rfl) (list22_c H A3 c3 (ofM x.items y.items) hl3 (by omega)) ?_); rintro v H w hG' hn; replace hG := hG.trans hG'; replace hS := hG'.sub; replace hx := hx.mono hG'.le; replace hy := hy.mono hG'.le; clear hG'
        obtain ⟨A4, c4, rfl, hc4, hl4⟩ := hn.chgs
        clear hn
        (refine S_op ?_; refine W_movePtr (by first | rfl | assumption) ?_)
        (refine S_op ?_; refine W_call hS (by rfl) (items_t hx.at_ (by omega)) ?_); rintro v H w hG' ⟨A5, c5, rfl, hc5, hl5⟩; replace hG := hG.trans hG'; replace hS := hG'.sub; replace hx := hx.mono hG'.le; replace hy := hy.mono hG'.le; replace hl4 := hl4.mono hG'.le; clear hG'
        (refine S_op ?_; refine W_movePtr (by first | rfl | assumption) ?_)
        (refine S_op ?_; refine W_call hS (by rfl) (items_t hy.at_ (by omega)) ?_); rintro v H w hG' ⟨A6, c6, rfl, hc6, hl6⟩; replace hG := hG.trans hG'; replace hS := hG'.sub; replace hx := hx.mono hG'.le; replace hy := hy.mono hG'.le; replace hl4 := hl4.mono hG'.le; replace hl5 := hl5.mono hG'.le; clear hG'
        skip
        (refine S_op ?_; refine W_call hS (by rfl) (rOf_c H A5 A6 c5 c6 x.items y.items hl5 hl6 hx.rise hy.rise hc6 (by omega) (by omega)) ?_); rintro v H w hG' hn; replace hG := hG.trans hG'; replace hS := hG'.sub; replace hx := hx.mono hG'.le; replace hy := hy.mono hG'.le; replace hl4 := hl4.mono hG'.le; clear hG'
        rw [refL_eq hx.rise hy.rise] at hn
        obtain ⟨A7, c7, rfl, hc7, hl7⟩ := hn.chgs
        clear hn
        skip
        (refine S_op ?_; refine W_call hS (by rfl) (same22_c H A4 A7 c4 c7 (ofM x.items y.items) (ofM x.items y.items) hl4 hl7 (by omega)) ?_); rintro v H w hG' rfl; replace hG := hG.trans hG'; replace hS := hG'.sub; clear hG'
        (refine S_op ?_; refine W_assignBool (by first | rfl | assumption) ?_; refine S_nil ?_; refine CW_ret ?_)
        exact ⟨_, ResW_one (v := .bool _) rfl, H, hG, by simp⟩
      | true =>
        (refine S_op ?_; refine W_assignPtr (by first | rfl | assumption) ?_; refine S_nil ?_; refine CW_seq ?_; refine CW_seq ?_; refine CW_region rfl ?_; refine S_op ?_; refine W_moveBool (by first | rfl | assumption) ?_; refine S_nil ?_; refine CW_true (by first | rfl | assumption) ?_; refine CW_region rfl ?_; refine S_op ?_; refine W_moveSl (by first | rfl | assumption) ?_)
        (refine S_op ?_; refine W_call hS (by rfl) (built22_c H none B d b hm (by omega) TreeAt.nil (by simp [Tr.items])) ?_); rintro v H w hG' ⟨y, rfl, hy, _, hyl⟩; replace hG := hG.trans hG'; replace hS := hG'.sub; replace hx := hx.mono hG'.le; clear hG'
        have zy : (Tr.items none).length = 0 := rfl
        have bo := ofM_len x.items y.items
        (refine S_op ?_; refine W_assignPtr (by first | rfl | assumption) ?_; refine S_nil ?_; refine CW_seq ?_; refine CW_region rfl ?_; refine S_op ?_; refine W_movePtr (by first | rfl | assumption) ?_; refine S_op ?_; refine W_movePtr (by first | rfl | assumption) ?_)
        (refine S_op ?_; refine W_call hS (by rfl) (of_c hx hy (by omega) (by omega)) ?_); rintro v H w hG' hn; replace hG := hG.trans hG'; replace hS := hG'.sub; replace hx := hx.mono hG'.le; replace hy := hy.mono hG'.le; clear hG'
        obtain ⟨A3, c3, rfl, hc3, hl3⟩ := hn.chgs
        clear hn
        skip
        (refine S_op ?_; refine W_call hS (by rfl) (list22_c H A3 c3 (ofM x.items y.items) hl3 (by omega)) ?_); rintro v H w hG' hn; replace hG := hG.trans hG'; replace hS := hG'.sub; replace hx := hx.mono hG'.le; replace hy := hy.mono hG'.le; clear hG'
        obtain ⟨A4, c4, rfl, hc4, hl4⟩ := hn.chgs
        clear hn
        (refine S_op ?_; refine W_movePtr (by first | rfl | assumption) ?_)
        (refine S_op ?_; refine W_call hS (by rfl) (items_t hx.at_ (by omega)) ?_); rintro v H w hG' ⟨A5, c5, rfl, hc5, hl5⟩; replace hG := hG.trans hG'; replace hS := hG'.sub; replace hx := hx.mono hG'.le; replace hy := hy.mono hG'.le; replace hl4 := hl4.mono hG'.le; clear hG'
        (refine S_op ?_; refine W_movePtr (by first | rfl | assumption) ?_)
        (refine S_op ?_; refine W_call hS (by rfl) (items_t hy.at_ (by omega)) ?_); rintro v H w hG' ⟨A6, c6, rfl, hc6, hl6⟩; replace hG := hG.trans hG'; replace hS := hG'.sub; replace hx := hx.mono hG'.le; replace hy := hy.mono hG'.le; replace hl4 := hl4.mono hG'.le; replace hl5 := hl5.mono hG'.le; clear hG'
        skip
        (refine S_op ?_; refine W_call hS (by rfl) (rOf_c H A5 A6 c5 c6 x.items y.items hl5 hl6 hx.rise hy.rise hc6 (by omega) (by omega)) ?_); rintro v H w hG' hn; replace hG := hG.trans hG'; replace hS := hG'.sub; replace hx := hx.mono hG'.le; replace hy := hy.mono hG'.le; replace hl4 := hl4.mono hG'.le; clear hG'
        rw [refL_eq hx.rise hy.rise] at hn
        obtain ⟨A7, c7, rfl, hc7, hl7⟩ := hn.chgs
        clear hn
        skip
        (refine S_op ?_; refine W_call hS (by rfl) (same22_c H A4 A7 c4 c7 (ofM x.items y.items) (ofM x.items y.items) hl4 hl7 (by omega)) ?_); rintro v H w hG' rfl; replace hG := hG.trans hG'; replace hS := hG'.sub; clear hG'
        (refine S_op ?_; refine W_assignBool (by first | rfl | assumption) ?_; refine S_nil ?_; refine CW_ret ?_)
        exact ⟨_, ResW_one (v := .bool _) rfl, H, hG, by simp⟩
end Go.Proofs.Ytnjeoobcejlojaa
