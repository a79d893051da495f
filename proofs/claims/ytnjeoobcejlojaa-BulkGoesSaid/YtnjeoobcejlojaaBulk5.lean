/- bulk.Build, walked. Conditions: sizes. -/
import Derived.Test.YtnjeoobcejlojaaBulk4
namespace Go.Proofs.Ytnjeoobcejlojaa
open Go.Proofs Go.RowKit
set_option linter.unusedVariables false
attribute [local irreducible] CW CWD SeqW OpW
set_option maxHeartbeats 4000000
theorem build_c (H0 : HF) (A : Option Addr) (c : Nat) (l : List Ent) (hl : EntsAt H0 A l) (hc : l.length ≤ c) (hb : l.length ≤ 100000) :
    Fn Try.prog 32 [.slice A l.length c] H0 fun v H' => ∃ t, v = .tuple #[Tr.val t, .int .i64 (checkL l : Nat)] ∧ (checkL l ≠ 0 → t = none) ∧ (checkL l = 0 → TreeAt H' t ∧ t.items = l) := by
  refine Fn_of_CW Try.func32 rfl Try.ntmps32 Try.results32 rfl fun w0 hS => ?_; have hG := Grow.refl hS
  (refine CW_seq ?_; refine CW_region rfl ?_; refine S_op ?_; refine W_assignPtr (by first | rfl | assumption) ?_; refine S_op ?_; refine W_assignInt (by first | rfl | assumption) ?_; refine S_nil ?_; refine CW_seq ?_; refine CW_seq ?_; refine CW_region rfl ?_; refine S_op ?_; refine W_moveSl (by first | rfl | assumption) ?_; refine S_op ?_; refine W_len (by first | rfl | assumption) ?_; refine S_op ?_; refine W_moveInt (by first | rfl | assumption) ?_; refine S_nil ?_; refine CW_block ?_)
  refine CW_loopM [2, 3, 5, 6, 7, 10, 11, 12, 13, 14, 15, 16, 17, 18, 19, 20, 21, 22, 23, 24, 25, 26]
    (fun m u w2 => ∃ (i : Nat) (H2 : HF), u 10 = .int .i64 (i : Int) ∧ Grow H0 w0 H2 w2 ∧ i ≤ l.length ∧ l.length - i ≤ m ∧ chkL (l.drop i) = chkL l)
    (m := l.length) ⟨0, H0, rfl, hG, by omega, by omega, rfl⟩ ?_
  rintro m u w ⟨i, H, h10, hG, hi, hm, hf⟩
  have hS := hG.sub
  replace hl := hl.mono hG.le
  by_cases hlt : i < l.length
  · obtain ⟨b, off, hA, hrow⟩ := hl.some hlt
    rw [ent_drop hlt] at hf
    rw [chk_cons] at hf
    (refine CW_seq ?_; refine CW_region rfl ?_; refine S_op ?_; refine W_lssT (by first | rfl | assumption) (by first | rfl | assumption) (by first | omega | rfl) ?_; refine S_nil ?_; refine CW_seq ?_; refine CW_true (by first | rfl | assumption) ?_; refine CW_skip ?_; refine CW_seq ?_; refine CW_block ?_; refine CW_seq ?_; refine CW_region rfl ?_; refine S_op ?_; refine W_index (by first | rfl | assumption) (by first | rfl | assumption) (by first | assumption | omega | decide) (by first | rfl | assumption) ?_; refine S_op ?_; refine W_loadEnt (by first | rfl | assumption) (by assumption) (by first | assumption | omega) (by assumption) ?_)
    (refine S_op (W_alloc hS ?_)); intro w c5b hG' c5h c5; replace c5h := Nat.le_trans hG.below.size (Nat.le_of_eq c5h); replace hG := hG.trans hG'; replace hS := hG'.sub; clear hG'
    skip
    (refine S_op0 (W_storeM (o := 0) (vs := [.string (ent l i).key, .string (ent l i).val]) (by rfl) (by rfl) c5 (by rfl) (OneCells.of_all (by rfl)) (by rfl) (Nat.le_of_ble_eq_true (by rfl)) ?_)); intro w hgb' hm'; replace hG := hG.grownBy hgb' (fun g h => by cases h; exact ⟨c5.out, c5h⟩); replace hS := hG.sub; replace c5 : Mut _ w c5b ([.string (ent l i).key, .string (ent l i).val]) := hm'; clear hm'; clear hgb'
    (obtain ⟨H, _, hle', hG, hm', hoth'⟩ := c5.freeze hG c5h); replace hS := hG.sub; clear c5; have c5 := hm'; clear hm'; replace hl := hl.mono hle'; clear hle' hoth'
    (refine S_nil ?_; refine CW_seq ?_; refine CW_seq ?_; refine CW_region rfl ?_; refine S_op ?_; refine W_field (by first | rfl | assumption) ?_; refine S_op ?_; refine W_loadHL (by first | rfl | assumption) (by assumption) (by rfl) (by assumption) ?_)
    (refine S_op ?_; refine W_call hS (by rfl) (key_c H (ent l i).key) ?_); rintro v H w hG' rfl; replace hG := hG.trans hG'; replace hS := hG'.sub; replace hl := hl.mono hG'.le; replace c5 := hG'.le _ _ c5; clear hG'
    by_cases h1 : rKey (ent l i).key = 0
    · (refine S_op ?_; refine W_assignInt (by first | rfl | assumption) ?_; refine S_nil ?_; refine CW_seq ?_; refine CW_region rfl ?_; refine S_op ?_; refine W_moveInt (by first | rfl | assumption) ?_; refine S_op ?_; refine W_neqF (by first | rfl | assumption) (by first | rfl | assumption) (by first | omega | rfl) ?_; refine S_nil ?_; refine CW_false (by first | rfl | assumption) ?_; refine CW_skip ?_; refine CW_seq ?_; refine CW_region rfl ?_; refine S_op ?_; refine W_field (by first | rfl | assumption) ?_; refine S_op ?_; refine W_loadHL (by first | rfl | assumption) (by assumption) (by rfl) (by assumption) ?_)
      (refine S_op ?_; refine W_call hS (by rfl) (value_c H (ent l i).val) ?_); rintro v H w hG' rfl; replace hG := hG.trans hG'; replace hS := hG'.sub; replace hl := hl.mono hG'.le; clear hG'
      by_cases h2 : rValue (ent l i).val = 0
      · have e0 : putE (ent l i) = 0 := by simp [putE, h1, h2]
        rw [if_neg (by simp [e0])] at hf
        (refine S_op ?_; refine W_assignInt (by first | rfl | assumption) ?_; refine S_nil ?_; refine CW_seq ?_; refine CW_region rfl ?_; refine S_op ?_; refine W_moveInt (by first | rfl | assumption) ?_; refine S_op ?_; refine W_neqF (by first | rfl | assumption) (by first | rfl | assumption) (by first | omega | rfl) ?_; refine S_nil ?_; refine CW_false (by first | rfl | assumption) ?_; refine CW_skip ?_; refine CW_region rfl ?_; refine S_op ?_; refine W_add1 (by first | rfl | assumption) (by omega) ?_; refine S_op ?_; refine W_moveInt (by first | rfl | assumption) ?_; refine S_nil ?_)
        exact ⟨(by repeat (first | exact AgreeOff.over | refine AgreeOff.upd rfl ?_ | refine AgreeOff.over2 rfl ?_)), m - 1, by omega, i + 1, H, rfl, hG, by omega, by omega, hf⟩
      · have e1 : putE (ent l i) = rValue (ent l i).val := by simp [putE, h1]
        rw [e1, if_pos h2] at hf
        have hc : checkL l = rValue (ent l i).val := by unfold checkL; rw [← hf, if_pos h2]
        (refine S_op ?_; refine W_assignInt (by first | rfl | assumption) ?_; refine S_nil ?_; refine CW_seq ?_; refine CW_region rfl ?_; refine S_op ?_; refine W_moveInt (by first | rfl | assumption) ?_; refine S_op ?_; refine W_neqT (by first | rfl | assumption) (by first | rfl | assumption) (by first | omega | rfl) ?_; refine S_nil ?_; refine CW_true (by first | rfl | assumption) ?_; refine CW_seq ?_; refine CW_region rfl ?_; refine S_op ?_; refine W_moveInt (by first | rfl | assumption) ?_; refine S_op ?_; refine W_assignPtr (by first | rfl | assumption) ?_; refine S_op ?_; refine W_assignInt (by first | rfl | assumption) ?_; refine S_nil ?_; refine CW_ret ?_)
        exact ⟨_, ResW_two (v1 := .pointer _) (v2 := .int _ _) rfl rfl, H, hG, none, by rw [hc]; rfl, fun _ => rfl, fun h => absurd h (by rw [hc]; exact h2)⟩
    · have e1 : putE (ent l i) = rKey (ent l i).key := by simp [putE, h1]
      rw [e1, if_pos h1] at hf
      have hc : checkL l = rKey (ent l i).key := by unfold checkL; rw [← hf, if_pos h1]
      (refine S_op ?_; refine W_assignInt (by first | rfl | assumption) ?_; refine S_nil ?_; refine CW_seq ?_; refine CW_region rfl ?_; refine S_op ?_; refine W_moveInt (by first | rfl | assumption) ?_; refine S_op ?_; refine W_neqT (by first | rfl | assumption) (by first | rfl | assumption) (by first | omega | rfl) ?_; refine S_nil ?_; refine CW_true (by first | rfl | assumption) ?_; refine CW_seq ?_; refine CW_region rfl ?_; refine S_op ?_; refine W_moveInt (by first | rfl | assumption) ?_; refine S_op ?_; refine W_assignPtr (by first | rfl | assumption) ?_; refine S_op ?_; refine W_assignInt (by first | rfl | assumption) ?_; refine S_nil ?_; refine CW_ret ?_)
      exact ⟨_, ResW_two (v1 := .pointer _) (v2 := .int _ _) rfl rfl, H, hG, none, by rw [hc]; rfl, fun _ => rfl, fun h => absurd h (by rw [hc]; exact h1)⟩
  · rw [List.drop_eq_nil_of_le (by omega)] at hf
    have hf : 0 = chkL l := hf
    have hok : ∀ e ∈ l, entOk e = true := fun e he => putE_ok.1 (chkL_zero.1 hf.symm e he)
    (refine CW_seq ?_; refine CW_region rfl ?_; refine S_op ?_; refine W_lssF (by first | rfl | assumption) (by first | rfl | assumption) (by first | omega | rfl) ?_; refine S_nil ?_; refine CW_seq ?_; refine CW_false (by first | rfl | assumption) ?_; refine CW_exit ?_; refine CW_seq ?_; refine CW_seq ?_; refine CW_region rfl ?_; refine S_op ?_; refine W_moveSl (by first | rfl | assumption) ?_)
    (refine S_op ?_; refine W_call hS (by rfl) (rise_c H A c l hl hc (by omega)) ?_); rintro v H w hG' rfl; replace hG := hG.trans hG'; replace hS := hG'.sub; replace hl := hl.mono hG'.le; clear hG'
    cases hr : riseB l with
    | true =>
      have hc0 : checkL l = 0 := by simp [checkL, ← hf, hr]
      (refine S_op ?_; refine W_not (by first | rfl | assumption) ?_; refine S_nil ?_; refine CW_false (by first | rfl | assumption) ?_; refine CW_skip ?_; refine CW_seq ?_; refine CW_region rfl ?_; refine S_op ?_; refine W_moveSl (by first | rfl | assumption) ?_)
      (refine S_op ?_; refine W_call hS (by rfl) (built_c H A c l hl hc hr hok hb) ?_); rintro v H w hG' ⟨t, rfl, ht, hit⟩; replace hG := hG.trans hG'; replace hS := hG'.sub; clear hG'
      (refine S_op ?_; refine W_assignPtr (by first | rfl | assumption) ?_; refine S_op ?_; refine W_assignInt (by first | rfl | assumption) ?_; refine S_nil ?_; refine CW_ret ?_)
      exact ⟨_, ResW_two (v1 := t.val) (v2 := .int _ _) rfl rfl, H, hG, t, by rw [hc0]; rfl, fun h => absurd hc0 h, fun _ => ⟨ht, hit⟩⟩
    | false =>
      have hc0 : checkL l = 3 := by simp [checkL, ← hf, hr]
      (refine S_op ?_; refine W_not (by first | rfl | assumption) ?_; refine S_nil ?_; refine CW_true (by first | rfl | assumption) ?_; refine CW_seq ?_; refine CW_region rfl ?_; refine S_op ?_; refine W_assignPtr (by first | rfl | assumption) ?_; refine S_op ?_; refine W_assignInt (by first | rfl | assumption) ?_; refine S_nil ?_; refine CW_ret ?_)
      exact ⟨_, ResW_two (v1 := .pointer _) (v2 := .int _ _) rfl rfl, H, hG, none, by rw [hc0]; rfl, fun _ => rfl, fun h => absurd h (by rw [hc0]; decide)⟩
end Go.Proofs.Ytnjeoobcejlojaa
