/- TreePlays, TreeCommutes: they answer true. Conditions: sizes. -/
import Derived.Test.YtlkbdgfipdeloaaLaw10b
namespace Go.Proofs.Ytlkbdgfipdeloaa
open Go.Proofs Go.RowKit
set_option linter.unusedVariables false
attribute [local irreducible] CW SeqW OpW
set_option maxHeartbeats 4000000
theorem look_own {l : List Ent} (hr : riseB l = true) {i : Nat} (h : i < l.length) : lookV l (ent l i).key = (ent l i).val ∧ lookB l (ent l i).key = true := by
  obtain ⟨h1, h2⟩ := find_own hr h
  obtain ⟨h3, h4⟩ := lookV_yes h2
  exact ⟨by rw [h3, h1], h4⟩
theorem treePlays_c (H : HF) (A : Option Addr) (c : Nat) (l : List Op10) (key : ByteArray) (hl : SlAt H A (ops10 l)) (hb : l.length ≤ 100000000000000) (hs : ∀ o ∈ l, o.Ok) (hkk : key.size ≤ 1000000000000000) :
    Fn Try.prog 7 [.slice A l.length c, .string key] H fun v _ => v = .bool true := by
  refine Fn_of_CW Try.func7 rfl Try.ntmps7 Try.results7 rfl fun w hS => ?_; have hG := Grow.refl hS; have hS0 := hS
  (refine CW_seq ?_; refine CW_region rfl ?_; refine S_op ?_; refine W_assignBool (by first | rfl | assumption) ?_; refine S_nil ?_; refine CW_seq ?_; refine CW_seq ?_; refine CW_region rfl ?_)
  (refine S_op ?_; refine W_call hS (by rfl) (awake10_c H) ?_); rintro v H w hG' rfl; replace hG := hG.trans hG'; replace hS := hG'.sub; replace hl := hl.mono hG'.le; clear hG'
  (refine S_op ?_; refine W_not (by first | rfl | assumption) ?_; refine S_op ?_; refine W_moveBool (by first | rfl | assumption) ?_; refine S_want (by rfl) ?_; refine W_moveSl (by first | rfl | assumption) ?_)
  (refine S_want (by rfl) ?_; refine W_call hS (by rfl) (few10_c H A c l hl hb hs) ?_); rintro v H w hG' rfl; replace hG := hG.trans hG'; replace hS := hG'.sub; replace hl := hl.mono hG'.le; clear hG'
  cases hf : few10B l with
  | false =>
    (refine S_want (by rfl) ?_; refine W_not (by first | rfl | assumption) ?_; refine S_op ?_; refine W_pickF (by first | rfl | assumption) (by first | rfl | assumption) ?_; refine S_op ?_; refine W_moveBool (by first | rfl | assumption) ?_; refine S_pass (by rfl) ?_; refine S_pass (by rfl) ?_; refine S_pass (by rfl) ?_; refine S_op ?_; refine W_pickT (by first | rfl | assumption) (by first | rfl | assumption) ?_; refine S_nil ?_; refine CW_true (by first | rfl | assumption) ?_; refine CW_seq ?_; refine CW_region rfl ?_)
    (refine S_op ?_; refine W_call hS (by rfl) (awake10_c H) ?_); rintro v H w hG' rfl; replace hG := hG.trans hG'; replace hS := hG'.sub; clear hG'
    (refine S_op ?_; refine W_assignBool (by first | rfl | assumption) ?_; refine S_nil ?_; refine CW_ret ?_)
    exact ⟨_, ResW_one (v := .bool _) rfl, H, hG, rfl⟩
  | true =>
    have hlen := few10B_le hf
    by_cases hk2 : 2000 < key.size
    · (refine S_want (by rfl) ?_; refine W_not (by first | rfl | assumption) ?_; refine S_op ?_; refine W_pickF (by first | rfl | assumption) (by first | rfl | assumption) ?_; refine S_op ?_; refine W_moveBool (by first | rfl | assumption) ?_; refine S_want (by rfl) ?_; refine W_moveStr (by first | rfl | assumption) ?_; refine S_want (by rfl) ?_; refine W_lenS (by first | rfl | assumption) ?_; refine S_want (by rfl) ?_; refine W_gtrT (by first | rfl | assumption) (by first | rfl | assumption) (by first | omega | rfl) ?_; refine S_op ?_; refine W_pickF (by first | rfl | assumption) (by first | rfl | assumption) ?_; refine S_nil ?_; refine CW_true (by first | rfl | assumption) ?_; refine CW_seq ?_; refine CW_region rfl ?_)
      (refine S_op ?_; refine W_call hS (by rfl) (awake10_c H) ?_); rintro v H w hG' rfl; replace hG := hG.trans hG'; replace hS := hG'.sub; clear hG'
      (refine S_op ?_; refine W_assignBool (by first | rfl | assumption) ?_; refine S_nil ?_; refine CW_ret ?_)
      exact ⟨_, ResW_one (v := .bool _) rfl, H, hG, rfl⟩
    · (refine S_want (by rfl) ?_; refine W_not (by first | rfl | assumption) ?_; refine S_op ?_; refine W_pickF (by first | rfl | assumption) (by first | rfl | assumption) ?_; refine S_op ?_; refine W_moveBool (by first | rfl | assumption) ?_; refine S_want (by rfl) ?_; refine W_moveStr (by first | rfl | assumption) ?_; refine S_want (by rfl) ?_; refine W_lenS (by first | rfl | assumption) ?_; refine S_want (by rfl) ?_; refine W_gtrF (by first | rfl | assumption) (by first | rfl | assumption) (by first | omega | rfl) ?_; refine S_op ?_; refine W_pickF (by first | rfl | assumption) (by first | rfl | assumption) ?_; refine S_nil ?_; refine CW_false (by first | rfl | assumption) ?_; refine CW_skip ?_; refine CW_seq ?_; refine CW_region rfl ?_; refine S_op ?_; refine W_assignPtr (by first | rfl | assumption) ?_; refine S_nil ?_; refine CW_seq ?_; refine CW_region rfl ?_; refine S_op ?_; refine W_assignSl (by first | rfl | assumption) ?_; refine S_nil ?_; refine CW_seq ?_; refine CW_region rfl ?_; refine S_op ?_; refine W_assignBool (by first | rfl | assumption) ?_; refine S_nil ?_; refine CW_seq ?_; refine CW_seq ?_; refine CW_region rfl ?_; refine S_op ?_; refine W_moveSl (by first | rfl | assumption) ?_; refine S_op ?_; refine W_len (by first | rfl | assumption) ?_; refine S_op ?_; refine W_moveInt (by first | rfl | assumption) ?_; refine S_nil ?_; refine CW_block ?_)
      refine CW_loopM [4, 5, 6, 7, 8, 31, 32, 33, 34, 35, 36, 37, 38, 39, 40, 41, 42, 43, 44, 45, 46, 47, 48, 49, 50, 51, 52, 53, 54, 55, 56, 57, 58, 59]
        (fun m u w2 => ∃ (i : Nat) (t : Tr) (A2 : Option Addr) (c2 : Nat) (H2 : HF), u 31 = .int .i64 (i : Int) ∧ u 5 = t.val ∧ u 6 = .slice A2 t.items.length c2 ∧ Grow H w H2 w2 ∧ TreeAt H2 t ∧ EntsAt H2 A2 t.items ∧ t.items.length ≤ c2 ∧ i ≤ l.length ∧ l.length - i ≤ m ∧ t.items.length ≤ i)
        (m := l.length) ⟨0, none, none, 0, H, rfl, rfl, rfl, Grow.refl hS, TreeAt.nil, .inl rfl, Nat.le_refl _, by omega, by omega, by simp [Tr.items]⟩ ?_
      rintro m u w2 ⟨i, t, A2, c2, H2, h31, h5, h6, hG2, ht, hl2, hc2, hi, hm, htl⟩
      replace hl := hl.mono hG2.le
      replace hG := hG.trans hG2
      have hS := hG2.sub
      by_cases hlt : i < l.length
      · obtain ⟨b, off, hA, hrow⟩ := ops10_some hl hlt
        have hsl := stepL_len t.items (nth l i)
        (refine CW_seq ?_; refine CW_region rfl ?_; refine S_op ?_; refine W_lssT (by first | rfl | assumption) (by first | rfl | assumption) (by first | omega | rfl) ?_; refine S_nil ?_; refine CW_seq ?_; refine CW_true (by first | rfl | assumption) ?_; refine CW_skip ?_; refine CW_seq ?_; refine CW_block ?_; refine CW_seq ?_; refine CW_region rfl ?_; refine S_op ?_; refine W_moveInt (by first | rfl | assumption) ?_; refine S_op ?_; refine W_assignInt (by first | rfl | assumption) ?_; refine S_nil ?_; refine CW_seq ?_; refine CW_region rfl ?_; refine S_op ?_; refine W_movePtr (by first | rfl | assumption) ?_; refine S_op ?_; refine W_moveSl (by first | rfl | assumption) ?_; refine S_op ?_; refine W_moveSl (by first | rfl | assumption) ?_; refine S_op ?_; refine W_moveInt (by first | rfl | assumption) ?_; refine S_op ?_; refine W_index (by first | rfl | assumption) (by first | rfl | assumption) (by first | assumption | omega | decide) (by first | rfl | assumption) ?_; refine S_op ?_; refine W_loadOd (by first | rfl | assumption) (by assumption) (by first | assumption | omega) (by assumption) ?_)
        refine S_op ?_
        refine W_call hS (by rfl) (does_c H2 t A2 c2 (nth l i) ht hl2 hc2 (by omega)) ?_
        rintro v H3 w3 hG3 ⟨t', A3, c3, rfl, ht', hit, hc3, hl3⟩
        have hlt' : t'.items.length ≤ t.items.length + 1 := by rw [hit]; exact hsl
        replace hS := hG3.sub
        replace hG2 := hG2.trans hG3
        replace hG := hG.trans hG3
        (refine S_op ?_; refine W_moveTup (by first | rfl | assumption) ?_; refine S_op ?_; refine W_extract (by first | rfl | assumption) (by rfl) ?_; refine S_op ?_; refine W_extract (by first | rfl | assumption) (by rfl) ?_; refine S_op ?_; refine W_extract (by first | rfl | assumption) (by rfl) ?_; refine S_op ?_; refine W_assignPtr (by first | rfl | assumption) ?_; refine S_op ?_; refine W_assignSl (by first | rfl | assumption) ?_; refine S_op ?_; refine W_assignBool (by first | rfl | assumption) ?_; refine S_nil ?_; refine CW_seq ?_; refine CW_region rfl ?_; refine S_op ?_; refine W_moveBool (by first | rfl | assumption) ?_; refine S_op ?_; refine W_not (by first | rfl | assumption) ?_; refine S_op ?_; refine W_moveBool (by first | rfl | assumption) ?_; refine S_want (by rfl) ?_; refine W_movePtr (by first | rfl | assumption) ?_)
        refine S_want (by rfl) ?_
        refine W_call hS (by rfl) (right_t ht'.at_) ?_
        rintro v H4 w4 hG4 rfl
        replace hS := hG4.sub
        replace hG2 := hG2.trans hG4
        replace hG := hG.trans hG4
        replace ht' := ht'.mono hG4.le
        replace hl3 := hl3.mono hG4.le
        rw [ht'.full]
        (refine S_want (by rfl) ?_; refine W_not (by first | rfl | assumption) ?_; refine S_op ?_; refine W_pickF (by first | rfl | assumption) (by first | rfl | assumption) ?_; refine S_op ?_; refine W_moveBool (by first | rfl | assumption) ?_; refine S_want (by rfl) ?_; refine W_movePtr (by first | rfl | assumption) ?_)
        refine S_want (by rfl) ?_
        refine W_call hS (by rfl) (items_t ht'.at_ (by omega)) ?_
        rintro v H5 w5 hG5 hv
        replace hS := hG5.sub
        replace hG2 := hG2.trans hG5
        replace hG := hG.trans hG5
        replace ht' := ht'.mono hG5.le
        replace hl3 := hl3.mono hG5.le
        obtain ⟨A5, c5, rfl, hc5, hl5⟩ := hv
        (refine S_want (by rfl) ?_; refine W_moveSl (by first | rfl | assumption) ?_)
        refine S_want (by rfl) ?_
        refine W_call hS (by rfl) (same_c H5 A5 A3 c5 c3 t'.items t'.items hl5 hl3 (by omega)) ?_
        rintro v H6 w6 hG6 rfl
        replace hG2 := hG2.trans hG6
        replace ht' := ht'.mono hG6.le
        replace hl3 := hl3.mono hG6.le
        rw [decide_eq_true rfl]
        (refine S_want (by rfl) ?_; refine W_not (by first | rfl | assumption) ?_; refine S_op ?_; refine W_pickF (by first | rfl | assumption) (by first | rfl | assumption) ?_; refine S_nil ?_; refine CW_false (by first | rfl | assumption) ?_; refine CW_skip ?_; refine CW_region rfl ?_; refine S_op ?_; refine W_add1 (by first | rfl | assumption) (by omega) ?_; refine S_op ?_; refine W_moveInt (by first | rfl | assumption) ?_; refine S_nil ?_)
        exact ⟨(by repeat (first | exact AgreeOff.over | refine AgreeOff.upd rfl ?_ | refine AgreeOff.over2 rfl ?_)), m - 1, by omega, i + 1, t', A3, c3, H6, rfl, rfl, rfl, hG2, ht', hl3, hc3, by omega, by omega, by omega⟩
      · have hG0 := hG
        have hrt := ht.rise
        (refine CW_seq ?_; refine CW_region rfl ?_; refine S_op ?_; refine W_lssF (by first | rfl | assumption) (by first | rfl | assumption) (by first | omega | rfl) ?_; refine S_nil ?_; refine CW_seq ?_; refine CW_false (by first | rfl | assumption) ?_; refine CW_exit ?_; refine CW_seq ?_; refine CW_seq ?_; refine CW_region rfl ?_; refine S_op ?_; refine W_moveSl (by first | rfl | assumption) ?_; refine S_op ?_; refine W_len (by first | rfl | assumption) ?_; refine S_op ?_; refine W_moveInt (by first | rfl | assumption) ?_; refine S_nil ?_; refine CW_block ?_)
        refine CW_loopM [4, 9, 10, 11, 62, 63, 64, 65, 66, 67, 68, 69, 70, 71, 72, 73, 74, 75, 76, 77, 78, 79, 80, 81, 82, 83, 84, 85, 86]
          (fun m u w3 => ∃ (i : Nat) (H3 : HF), u 62 = .int .i64 (i : Int) ∧ Grow H2 w2 H3 w3 ∧ i ≤ t.items.length ∧ t.items.length - i ≤ m)
          (m := t.items.length) ⟨0, H2, rfl, Grow.refl hS, by omega, by omega⟩ ?_
        rintro m3 u3 w3 ⟨j, H3, h62, hG3, hj, hm3⟩
        replace hG := hG0.trans hG3
        replace ht := ht.mono hG3.le
        replace hl2 := hl2.mono hG3.le
        replace hS := hG3.sub
        by_cases hjt : j < t.items.length
        · obtain ⟨b, off, hA, hrow⟩ := hl2.some hjt
          obtain ⟨q1, q2⟩ := look_own hrt hjt
          (refine CW_seq ?_; refine CW_region rfl ?_; refine S_op ?_; refine W_lssT (by first | rfl | assumption) (by first | rfl | assumption) (by first | omega | rfl) ?_; refine S_nil ?_; refine CW_seq ?_; refine CW_true (by first | rfl | assumption) ?_; refine CW_skip ?_; refine CW_seq ?_; refine CW_block ?_; refine CW_seq ?_; refine CW_region rfl ?_; refine S_op ?_; refine W_moveInt (by first | rfl | assumption) ?_; refine S_op ?_; refine W_assignInt (by first | rfl | assumption) ?_; refine S_nil ?_; refine CW_seq ?_; refine CW_region rfl ?_; refine S_op ?_; refine W_movePtr (by first | rfl | assumption) ?_; refine S_op ?_; refine W_moveSl (by first | rfl | assumption) ?_; refine S_op ?_; refine W_moveInt (by first | rfl | assumption) ?_; refine S_op ?_; refine W_index (by first | rfl | assumption) (by first | rfl | assumption) (by first | assumption | omega | decide) (by first | rfl | assumption) ?_; refine S_op ?_; refine W_field (by first | rfl | assumption) ?_; refine S_op ?_; refine W_loadKey (by first | rfl | assumption) (by assumption) (by first | assumption | omega) (by assumption) ?_)
          refine S_op ?_
          refine W_call hS (by rfl) (tGet_c (ent t.items j).key ht (by omega)) ?_
          rintro v H4 w4 hG4 rfl
          replace hG3 := hG3.trans hG4
          replace hS := hG4.sub
          replace hrow := hrow.mono hG4.le
          rw [q1, q2]
          (refine S_op ?_; refine W_moveTup (by first | rfl | assumption) ?_; refine S_op ?_; refine W_extract (by first | rfl | assumption) (by rfl) ?_; refine S_op ?_; refine W_extract (by first | rfl | assumption) (by rfl) ?_; refine S_op ?_; refine W_assignStr (by first | rfl | assumption) ?_; refine S_op ?_; refine W_assignBool (by first | rfl | assumption) ?_; refine S_nil ?_; refine CW_seq ?_; refine CW_region rfl ?_; refine S_op ?_; refine W_moveStr (by first | rfl | assumption) ?_; refine S_op ?_; refine W_moveSl (by first | rfl | assumption) ?_; refine S_op ?_; refine W_moveInt (by first | rfl | assumption) ?_; refine S_op ?_; refine W_index (by first | rfl | assumption) (by first | rfl | assumption) (by first | assumption | omega | decide) (by first | rfl | assumption) ?_; refine S_op ?_; refine W_field (by first | rfl | assumption) ?_; refine S_op ?_; refine W_loadVal (by first | rfl | assumption) (by assumption) (by first | assumption | omega) (by assumption) ?_; refine S_op ?_; refine W_sneqF (by first | rfl | assumption) (by first | rfl | assumption) (by first | assumption | rfl) ?_; refine S_op ?_; refine W_moveBool (by first | rfl | assumption) ?_; refine S_want (by rfl) ?_; refine W_moveBool (by first | rfl | assumption) ?_; refine S_want (by rfl) ?_; refine W_not (by first | rfl | assumption) ?_; refine S_op ?_; refine W_pickF (by first | rfl | assumption) (by first | rfl | assumption) ?_; refine S_nil ?_; refine CW_false (by first | rfl | assumption) ?_; refine CW_skip ?_; refine CW_region rfl ?_; refine S_op ?_; refine W_add1 (by first | rfl | assumption) (by omega) ?_; refine S_op ?_; refine W_moveInt (by first | rfl | assumption) ?_; refine S_nil ?_)
          exact ⟨(by repeat (first | exact AgreeOff.over | refine AgreeOff.upd rfl ?_ | refine AgreeOff.over2 rfl ?_)), m3 - 1, by omega, j + 1, H4, rfl, hG3, by omega, by omega⟩
        · (refine CW_seq ?_; refine CW_region rfl ?_; refine S_op ?_; refine W_lssF (by first | rfl | assumption) (by first | rfl | assumption) (by first | omega | rfl) ?_; refine S_nil ?_; refine CW_seq ?_; refine CW_false (by first | rfl | assumption) ?_; refine CW_exit ?_; refine CW_seq ?_; refine CW_region rfl ?_; refine S_op ?_; refine W_movePtr (by first | rfl | assumption) ?_; refine S_op ?_; refine W_moveStr (by first | rfl | assumption) ?_)
          (refine S_op ?_; refine W_call hS (by rfl) (tGet_c key ht (by omega)) ?_); rintro v H w hG' rfl; replace hG := hG.trans hG'; replace hS := hG'.sub; replace hl2 := hl2.mono hG'.le; clear hG'
          (refine S_op ?_; refine W_moveTup (by first | rfl | assumption) ?_; refine S_op ?_; refine W_extract (by first | rfl | assumption) (by rfl) ?_; refine S_op ?_; refine W_extract (by first | rfl | assumption) (by rfl) ?_; refine S_op ?_; refine W_assignStr (by first | rfl | assumption) ?_; refine S_op ?_; refine W_assignBool (by first | rfl | assumption) ?_; refine S_nil ?_; refine CW_seq ?_; refine CW_region rfl ?_; refine S_op ?_; refine W_moveSl (by first | rfl | assumption) ?_; refine S_op ?_; refine W_moveStr (by first | rfl | assumption) ?_)
          (refine S_op ?_; refine W_call hS (by rfl) (rGet_c H A2 c2 t.items key hl2 hrt (by omega)) ?_); rintro v H w hG' rfl; replace hG := hG.trans hG'; replace hS := hG'.sub; clear hG'
          cases hlb : lookB t.items key with
          | false =>
            (refine S_op ?_; refine W_moveTup (by first | rfl | assumption) ?_; refine S_op ?_; refine W_extract (by first | rfl | assumption) (by rfl) ?_; refine S_op ?_; refine W_extract (by first | rfl | assumption) (by rfl) ?_; refine S_op ?_; refine W_assignStr (by first | rfl | assumption) ?_; refine S_op ?_; refine W_assignBool (by first | rfl | assumption) ?_; refine S_nil ?_; refine CW_seq ?_; refine CW_region rfl ?_; refine S_op ?_; refine W_moveStr (by first | rfl | assumption) ?_; refine S_op ?_; refine W_moveStr (by first | rfl | assumption) ?_; refine S_op ?_; refine W_seqlT (by first | rfl | assumption) (by first | rfl | assumption) (by first | assumption | rfl) ?_; refine S_op ?_; refine W_moveBool (by first | rfl | assumption) ?_; refine S_want (by rfl) ?_; refine W_moveBool (by first | rfl | assumption) ?_; refine S_want (by rfl) ?_; refine W_moveBool (by first | rfl | assumption) ?_; refine S_want (by rfl) ?_; refine W_beqlT (by first | rfl | assumption) (by first | rfl | assumption) (by first | rfl | assumption) ?_; refine S_op ?_; refine W_pickT (by first | rfl | assumption) (by first | rfl | assumption) ?_; refine S_op ?_; refine W_assignBool (by first | rfl | assumption) ?_; refine S_nil ?_; refine CW_ret ?_)
            exact ⟨_, ResW_one (v := .bool _) rfl, H, hG, rfl⟩
          | true =>
            (refine S_op ?_; refine W_moveTup (by first | rfl | assumption) ?_; refine S_op ?_; refine W_extract (by first | rfl | assumption) (by rfl) ?_; refine S_op ?_; refine W_extract (by first | rfl | assumption) (by rfl) ?_; refine S_op ?_; refine W_assignStr (by first | rfl | assumption) ?_; refine S_op ?_; refine W_assignBool (by first | rfl | assumption) ?_; refine S_nil ?_; refine CW_seq ?_; refine CW_region rfl ?_; refine S_op ?_; refine W_moveStr (by first | rfl | assumption) ?_; refine S_op ?_; refine W_moveStr (by first | rfl | assumption) ?_; refine S_op ?_; refine W_seqlT (by first | rfl | assumption) (by first | rfl | assumption) (by first | assumption | rfl) ?_; refine S_op ?_; refine W_moveBool (by first | rfl | assumption) ?_; refine S_want (by rfl) ?_; refine W_moveBool (by first | rfl | assumption) ?_; refine S_want (by rfl) ?_; refine W_moveBool (by first | rfl | assumption) ?_; refine S_want (by rfl) ?_; refine W_beqlT (by first | rfl | assumption) (by first | rfl | assumption) (by first | rfl | assumption) ?_; refine S_op ?_; refine W_pickT (by first | rfl | assumption) (by first | rfl | assumption) ?_; refine S_op ?_; refine W_assignBool (by first | rfl | assumption) ?_; refine S_nil ?_; refine CW_ret ?_)
            exact ⟨_, ResW_one (v := .bool _) rfl, H, hG, rfl⟩
/-! ### TreeCommutes -/
theorem look_stepL {l : List Ent} (hr : riseB l = true) (o : Op10) (k : ByteArray) : look (stepL l o) k = if o.e.key = k then (if o.del then none else if entOk o.e then some o.e else look l k) else look l k := by
  unfold stepL putL
  by_cases hd : o.del
  · simp only [hd, if_true]
    exact look_withoutL hr _ _
  · simp only [hd]
    by_cases he : entOk o.e = true
    · simp only [he, if_true]
      exact look_withL hr _ _
    · simp only [he]
      by_cases hk : o.e.key = k <;> simp [hk]
theorem stepL_comm {l : List Ent} (hr : riseB l = true) {a b : Op10} (hne : a.e.key ≠ b.e.key) : stepL (stepL l a) b = stepL (stepL l b) a := by
  refine look_ext (rise_stepL _ (rise_stepL _ hr)) (rise_stepL _ (rise_stepL _ hr)) fun k => ?_
  rw [look_stepL (rise_stepL _ hr), look_stepL (rise_stepL _ hr), look_stepL hr, look_stepL hr]
  by_cases h1 : a.e.key = k <;> by_cases h2 : b.e.key = k
  · exact absurd (h1.trans h2.symm) hne
  all_goals simp [h1, h2]
theorem ops10_two (a b : Op10) : ops10 [a, b] = [.bool a.del, .string a.e.key, .string a.e.val, .bool b.del, .string b.e.key, .string b.e.val] := rfl
end Go.Proofs.Ytlkbdgfipdeloaa
