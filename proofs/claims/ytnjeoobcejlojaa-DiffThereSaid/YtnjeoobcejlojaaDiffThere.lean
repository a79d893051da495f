/- DiffThere: it answers true. Conditions: sizes. -/
import Derived.Test.YtnjeoobcejlojaaDiff6
namespace Go.Proofs.Ytnjeoobcejlojaa
open Go.Proofs Go.RowKit
set_option linter.unusedVariables false
attribute [local irreducible] CW CWD SeqW OpW
set_option maxHeartbeats 8000000
theorem diffThere_c (H : HF) (A B : Option Addr) (c d : Nat) (a b : List Op10) (hl : SlAt H A (ops10 a)) (hm : SlAt H B (ops10 b)) (ba : a.length ≤ 100000000000000) (bb : b.length ≤ 100000000000000) (sa : ∀ o ∈ a, o.Ok) (sb : ∀ o ∈ b, o.Ok) :
    Fn Try.prog 7 [.slice A a.length c, .slice B b.length d] H fun v _ => v = .bool true := by
  refine Fn_of_CW Try.func7 rfl Try.ntmps7 Try.results7 rfl fun w hS => ?_; have hG := Grow.refl hS; have hS0 := hS
  (refine CW_seq ?_; refine CW_region rfl ?_; refine S_op ?_; refine W_assignBool (by first | rfl | assumption) ?_; refine S_nil ?_; refine CW_seq ?_; refine CW_seq ?_; refine CW_region rfl ?_)
  (refine S_op ?_; refine W_call hS (by rfl) (awake22_c H) ?_); rintro v H w hG' rfl; replace hG := hG.trans hG'; replace hS := hG'.sub; replace hl := hl.mono hG'.le; replace hm := hm.mono hG'.le; clear hG'
  (refine S_op ?_; refine W_not (by first | rfl | assumption) ?_; refine S_op ?_; refine W_moveBool (by first | rfl | assumption) ?_; refine S_want (by rfl) ?_; refine W_moveSl (by first | rfl | assumption) ?_)
  (refine S_want (by rfl) ?_; refine W_call hS (by rfl) (few22_c H A c a hl ba sa) ?_); rintro v H w hG' rfl; replace hG := hG.trans hG'; replace hS := hG'.sub; replace hl := hl.mono hG'.le; replace hm := hm.mono hG'.le; clear hG'
  cases hfa : few22B a with
  | false =>
    skip
    (refine S_want (by rfl) ?_; refine W_not (by first | rfl | assumption) ?_; refine S_op ?_; refine W_pickF (by first | rfl | assumption) (by first | rfl | assumption) ?_; refine S_op ?_; refine W_moveBool (by first | rfl | assumption) ?_; refine S_pass (by rfl) ?_; refine S_pass (by rfl) ?_; refine S_pass (by rfl) ?_; refine S_op ?_; refine W_pickT (by first | rfl | assumption) (by first | rfl | assumption) ?_; refine S_nil ?_; refine CW_true (by first | rfl | assumption) ?_; refine CW_seq ?_; refine CW_region rfl ?_)
    (refine S_op ?_; refine W_call hS (by rfl) (awake22_c H) ?_); rintro v H w hG' rfl; replace hG := hG.trans hG'; replace hS := hG'.sub; clear hG'
    (refine S_op ?_; refine W_assignBool (by first | rfl | assumption) ?_; refine S_nil ?_; refine CW_ret ?_)
    exact ⟨_, ResW_one (v := .bool _) rfl, H, hG, rfl⟩
  | true =>
    have la := few22B_le hfa
    (refine S_want (by rfl) ?_; refine W_not (by first | rfl | assumption) ?_; refine S_op ?_; refine W_pickF (by first | rfl | assumption) (by first | rfl | assumption) ?_; refine S_op ?_; refine W_moveBool (by first | rfl | assumption) ?_; refine S_want (by rfl) ?_; refine W_moveSl (by first | rfl | assumption) ?_)
    (refine S_want (by rfl) ?_; refine W_call hS (by rfl) (few22_c H B d b hm bb sb) ?_); rintro v H w hG' rfl; replace hG := hG.trans hG'; replace hS := hG'.sub; replace hl := hl.mono hG'.le; replace hm := hm.mono hG'.le; clear hG'
    cases hfb : few22B b with
    | false =>
      skip
      (refine S_want (by rfl) ?_; refine W_not (by first | rfl | assumption) ?_; refine S_op ?_; refine W_pickF (by first | rfl | assumption) (by first | rfl | assumption) ?_; refine S_nil ?_; refine CW_true (by first | rfl | assumption) ?_; refine CW_seq ?_; refine CW_region rfl ?_)
      (refine S_op ?_; refine W_call hS (by rfl) (awake22_c H) ?_); rintro v H w hG' rfl; replace hG := hG.trans hG'; replace hS := hG'.sub; clear hG'
      (refine S_op ?_; refine W_assignBool (by first | rfl | assumption) ?_; refine S_nil ?_; refine CW_ret ?_)
      exact ⟨_, ResW_one (v := .bool _) rfl, H, hG, rfl⟩
    | true =>
      have lb := few22B_le hfb
      (refine S_want (by rfl) ?_; refine W_not (by first | rfl | assumption) ?_; refine S_op ?_; refine W_pickF (by first | rfl | assumption) (by first | rfl | assumption) ?_; refine S_nil ?_; refine CW_false (by first | rfl | assumption) ?_; refine CW_skip ?_; refine CW_seq ?_; refine CW_region rfl ?_; refine S_op ?_; refine W_moveSl (by first | rfl | assumption) ?_)
      (refine S_op ?_; refine W_call hS (by rfl) (built22_c H none A c a hl (by omega) TreeAt.nil (by simp [Tr.items])) ?_); rintro v H w hG' ⟨x, rfl, hx, _, hxl⟩; replace hG := hG.trans hG'; replace hS := hG'.sub; replace hm := hm.mono hG'.le; clear hG'
      have zx : (Tr.items none).length = 0 := rfl
      (refine S_op ?_; refine W_moveSl (by first | rfl | assumption) ?_)
      (refine S_op ?_; refine W_call hS (by rfl) (built22_c H none B d b hm (by omega) TreeAt.nil (by simp [Tr.items])) ?_); rintro v H w hG' ⟨y, rfl, hy, _, hyl⟩; replace hG := hG.trans hG'; replace hS := hG'.sub; replace hx := hx.mono hG'.le; clear hG'
      have zy : (Tr.items none).length = 0 := rfl
      have bo := ofM_len x.items y.items
      have bo2 := ofM_len y.items x.items
      obtain ⟨f1, e1⟩ := done_of hx.rise hy.rise hy.at_.ok.2
      obtain ⟨f2, e2⟩ := done_of hy.rise hx.rise hx.at_.ok.2
      have eb := ofM_back hx.rise hy.rise
      (refine S_op ?_; refine W_assignPtr (by first | rfl | assumption) ?_; refine S_op ?_; refine W_assignPtr (by first | rfl | assumption) ?_; refine S_nil ?_; refine CW_seq ?_; refine CW_region rfl ?_; refine S_op ?_; refine W_movePtr (by first | rfl | assumption) ?_; refine S_op ?_; refine W_movePtr (by first | rfl | assumption) ?_)
      (refine S_op ?_; refine W_call hS (by rfl) (of_c hx hy (by omega) (by omega)) ?_); rintro v H w hG' hn; replace hG := hG.trans hG'; replace hS := hG'.sub; replace hx := hx.mono hG'.le; replace hy := hy.mono hG'.le; clear hG'
      obtain ⟨A7, c7, rfl, hc7, hl7⟩ := hn.chgs
      clear hn
      (refine S_op ?_; refine W_assignSl (by first | rfl | assumption) ?_; refine S_nil ?_; refine CW_seq ?_; refine CW_region rfl ?_; refine S_op ?_; refine W_movePtr (by first | rfl | assumption) ?_; refine S_op ?_; refine W_moveSl (by first | rfl | assumption) ?_)
      (refine S_op ?_; refine W_call hS (by rfl) (apply_c H x A7 c7 (ofM x.items y.items) hx hl7 f1 (by omega) (by omega)) ?_); rintro v H w hG' ⟨th, rfl, hth, hit, htl⟩; replace hG := hG.trans hG'; replace hS := hG'.sub; replace hx := hx.mono hG'.le; replace hy := hy.mono hG'.le; replace hl7 := hl7.mono hG'.le; clear hG'
      rw [e1] at hit
      (refine S_op ?_; refine W_moveTup (by first | rfl | assumption) ?_; refine S_op ?_; refine W_extract (by first | rfl | assumption) (by rfl) ?_; refine S_op ?_; refine W_extract (by first | rfl | assumption) (by rfl) ?_; refine S_op ?_; refine W_assignPtr (by first | rfl | assumption) ?_; refine S_op ?_; refine W_assignInt (by first | rfl | assumption) ?_; refine S_nil ?_; refine CW_seq ?_; refine CW_region rfl ?_; refine S_op ?_; refine W_movePtr (by first | rfl | assumption) ?_; refine S_op ?_; refine W_moveSl (by first | rfl | assumption) ?_)
      (refine S_op ?_; refine W_call hS (by rfl) (back22_c H A7 c7 (ofM x.items y.items) hl7 (by omega)) ?_); rintro v H w hG' hn; replace hG := hG.trans hG'; replace hS := hG'.sub; replace hx := hx.mono hG'.le; replace hy := hy.mono hG'.le; replace hl7 := hl7.mono hG'.le; replace hth := hth.mono hG'.le; clear hG'
      rw [eb] at hn
      obtain ⟨A8, c8, rfl, hc8, hl8⟩ := hn.chgs
      clear hn
      skip
      (refine S_op ?_; refine W_call hS (by rfl) (apply_c H y A8 c8 (ofM y.items x.items) hy hl8 f2 (by omega) (by omega)) ?_); rintro v H w hG' ⟨bk, rfl, hbk, hib, hbl⟩; replace hG := hG.trans hG'; replace hS := hG'.sub; replace hx := hx.mono hG'.le; replace hy := hy.mono hG'.le; replace hl7 := hl7.mono hG'.le; replace hth := hth.mono hG'.le; clear hG'
      rw [e2] at hib
      (refine S_op ?_; refine W_moveTup (by first | rfl | assumption) ?_; refine S_op ?_; refine W_extract (by first | rfl | assumption) (by rfl) ?_; refine S_op ?_; refine W_extract (by first | rfl | assumption) (by rfl) ?_; refine S_op ?_; refine W_assignPtr (by first | rfl | assumption) ?_; refine S_op ?_; refine W_assignInt (by first | rfl | assumption) ?_; refine S_nil ?_; refine CW_seq ?_; refine CW_region rfl ?_; refine S_op ?_; refine W_moveInt (by first | rfl | assumption) ?_; refine S_op ?_; refine W_eqlT (by first | rfl | assumption) (by first | rfl | assumption) (by first | omega | rfl) ?_; refine S_op ?_; refine W_moveBool (by first | rfl | assumption) ?_; refine S_want (by rfl) ?_; refine W_moveInt (by first | rfl | assumption) ?_; refine S_want (by rfl) ?_; refine W_eqlT (by first | rfl | assumption) (by first | rfl | assumption) (by first | omega | rfl) ?_; refine S_op ?_; refine W_pickT (by first | rfl | assumption) (by first | rfl | assumption) ?_; refine S_op ?_; refine W_moveBool (by first | rfl | assumption) ?_; refine S_want (by rfl) ?_; refine W_movePtr (by first | rfl | assumption) ?_)
      (refine S_want (by rfl) ?_; refine W_call hS (by rfl) (items_t hth.at_ (by omega)) ?_); rintro v H w hG' ⟨A1, c1, rfl, _, hl1⟩; replace hG := hG.trans hG'; replace hS := hG'.sub; replace hx := hx.mono hG'.le; replace hy := hy.mono hG'.le; replace hl7 := hl7.mono hG'.le; replace hbk := hbk.mono hG'.le; clear hG'
      (refine S_want (by rfl) ?_; refine W_movePtr (by first | rfl | assumption) ?_)
      (refine S_want (by rfl) ?_; refine W_call hS (by rfl) (items_t hy.at_ (by omega)) ?_); rintro v H w hG' ⟨A2, c2, rfl, _, hl2⟩; replace hG := hG.trans hG'; replace hS := hG'.sub; replace hx := hx.mono hG'.le; replace hy := hy.mono hG'.le; replace hl7 := hl7.mono hG'.le; replace hbk := hbk.mono hG'.le; replace hl1 := hl1.mono hG'.le; clear hG'
      skip
      (refine S_want (by rfl) ?_; refine W_call hS (by rfl) (same_c H A1 A2 c1 c2 th.items y.items hl1 hl2 (by omega)) ?_); rintro v H w hG' rfl; replace hG := hG.trans hG'; replace hS := hG'.sub; replace hx := hx.mono hG'.le; replace hy := hy.mono hG'.le; replace hl7 := hl7.mono hG'.le; replace hbk := hbk.mono hG'.le; clear hG'
      rw [decide_eq_true hit]
      (refine S_op ?_; refine W_pickT (by first | rfl | assumption) (by first | rfl | assumption) ?_; refine S_op ?_; refine W_moveBool (by first | rfl | assumption) ?_; refine S_want (by rfl) ?_; refine W_movePtr (by first | rfl | assumption) ?_)
      (refine S_want (by rfl) ?_; refine W_call hS (by rfl) (items_t hbk.at_ (by omega)) ?_); rintro v H w hG' ⟨A3, c3, rfl, _, hl3⟩; replace hG := hG.trans hG'; replace hS := hG'.sub; replace hx := hx.mono hG'.le; replace hy := hy.mono hG'.le; replace hl7 := hl7.mono hG'.le; clear hG'
      (refine S_want (by rfl) ?_; refine W_movePtr (by first | rfl | assumption) ?_)
      (refine S_want (by rfl) ?_; refine W_call hS (by rfl) (items_t hx.at_ (by omega)) ?_); rintro v H w hG' ⟨A4, c4, rfl, _, hl4⟩; replace hG := hG.trans hG'; replace hS := hG'.sub; replace hx := hx.mono hG'.le; replace hy := hy.mono hG'.le; replace hl7 := hl7.mono hG'.le; replace hl3 := hl3.mono hG'.le; clear hG'
      skip
      (refine S_want (by rfl) ?_; refine W_call hS (by rfl) (same_c H A3 A4 c3 c4 bk.items x.items hl3 hl4 (by omega)) ?_); rintro v H w hG' rfl; replace hG := hG.trans hG'; replace hS := hG'.sub; replace hx := hx.mono hG'.le; replace hy := hy.mono hG'.le; replace hl7 := hl7.mono hG'.le; clear hG'
      rw [decide_eq_true hib]
      (refine S_op ?_; refine W_pickT (by first | rfl | assumption) (by first | rfl | assumption) ?_; refine S_op ?_; refine W_moveBool (by first | rfl | assumption) ?_; refine S_want (by rfl) ?_; refine W_movePtr (by first | rfl | assumption) ?_; refine S_want (by rfl) ?_; refine W_movePtr (by first | rfl | assumption) ?_)
      (refine S_want (by rfl) ?_; refine W_call hS (by rfl) (of_c hy hx (by omega) (by omega)) ?_); rintro v H w hG' hn; replace hG := hG.trans hG'; replace hS := hG'.sub; replace hl7 := hl7.mono hG'.le; clear hG'
      obtain ⟨A9, c9, rfl, _, hl9⟩ := hn.chgs
      clear hn
      skip
      (refine S_want (by rfl) ?_; refine W_call hS (by rfl) (list22_c H A9 c9 (ofM y.items x.items) hl9 (by omega)) ?_); rintro v H w hG' hn; replace hG := hG.trans hG'; replace hS := hG'.sub; replace hl7 := hl7.mono hG'.le; clear hG'
      obtain ⟨Aa, ca, rfl, _, hla⟩ := hn.chgs
      clear hn
      (refine S_want (by rfl) ?_; refine W_moveSl (by first | rfl | assumption) ?_)
      (refine S_want (by rfl) ?_; refine W_call hS (by rfl) (back22_c H A7 c7 (ofM x.items y.items) hl7 (by omega)) ?_); rintro v H w hG' hn; replace hG := hG.trans hG'; replace hS := hG'.sub; replace hla := hla.mono hG'.le; clear hG'
      rw [eb] at hn
      obtain ⟨Ab, cb, rfl, _, hlb⟩ := hn.chgs
      clear hn
      skip
      (refine S_want (by rfl) ?_; refine W_call hS (by rfl) (list22_c H Ab cb (ofM y.items x.items) hlb (by omega)) ?_); rintro v H w hG' hn; replace hG := hG.trans hG'; replace hS := hG'.sub; replace hla := hla.mono hG'.le; clear hG'
      obtain ⟨Ac, cc, rfl, _, hlc⟩ := hn.chgs
      clear hn
      skip
      (refine S_want (by rfl) ?_; refine W_call hS (by rfl) (same22_c H Aa Ac ca cc (ofM y.items x.items) (ofM y.items x.items) hla hlc (by omega)) ?_); rintro v H w hG' rfl; replace hG := hG.trans hG'; replace hS := hG'.sub; clear hG'
      (refine S_op ?_; refine W_pickT (by first | rfl | assumption) (by first | rfl | assumption) ?_; refine S_op ?_; refine W_assignBool (by first | rfl | assumption) ?_; refine S_nil ?_; refine CW_ret ?_)
      exact ⟨_, ResW_one (v := .bool _) rfl, H, hG, by simp⟩
end Go.Proofs.Ytnjeoobcejlojaa
