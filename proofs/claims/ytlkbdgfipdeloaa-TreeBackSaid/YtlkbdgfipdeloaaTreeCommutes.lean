/- TreeCommutes, TreeBack: they answer true. Conditions: sizes. -/
import Derived.Test.YtlkbdgfipdeloaaTreePlays
namespace Go.Proofs.Ytlkbdgfipdeloaa
open Go.Proofs Go.RowKit
set_option linter.unusedVariables false
attribute [local irreducible] CW SeqW OpW
set_option maxHeartbeats 4000000
theorem treeCommutes_c (H : HF) (A : Option Addr) (c : Nat) (l : List Op10) (a b : Op10) (hl : SlAt H A (ops10 l)) (hb : l.length ≤ 100000000000000) (hs : ∀ o ∈ l, o.Ok) (ha : a.Ok) (hbo : b.Ok) :
    Fn Try.prog 12 [.slice A l.length c, .agg (op10Cell a).toArray, .agg (op10Cell b).toArray] H fun v _ => v = .bool true := by
  refine Fn_of_CW Try.func12 rfl Try.ntmps12 Try.results12 rfl fun w hS => ?_; have hG := Grow.refl hS; have hS0 := hS
  (refine CW_seq ?_; refine CW_region rfl ?_)
  (refine S_op (W_boxAgg hS (by rfl) ?_)); intro H w _ hG' hba; replace hG := hG.trans hG'; replace hS := hG'.sub; replace hl := hl.mono hG'.le; clear hG'
  (refine S_op (W_boxAgg hS (by rfl) ?_)); intro H w _ hG' hbb; replace hG := hG.trans hG'; replace hS := hG'.sub; replace hl := hl.mono hG'.le; replace hba := hG'.le _ _ hba; clear hG'
  (refine S_op ?_; refine W_assignBool (by first | rfl | assumption) ?_; refine S_nil ?_; refine CW_seq ?_; refine CW_seq ?_; refine CW_region rfl ?_)
  (refine S_op ?_; refine W_call hS (by rfl) (awake10_c H) ?_); rintro v H w hG' rfl; replace hG := hG.trans hG'; replace hS := hG'.sub; replace hl := hl.mono hG'.le; replace hba := hG'.le _ _ hba; replace hbb := hG'.le _ _ hbb; clear hG'
  (refine S_op ?_; refine W_not (by first | rfl | assumption) ?_; refine S_op ?_; refine W_moveBool (by first | rfl | assumption) ?_; refine S_want (by rfl) ?_; refine W_moveSl (by first | rfl | assumption) ?_)
  (refine S_want (by rfl) ?_; refine W_call hS (by rfl) (few10_c H A c l hl hb hs) ?_); rintro v H w hG' rfl; replace hG := hG.trans hG'; replace hS := hG'.sub; replace hl := hl.mono hG'.le; replace hba := hG'.le _ _ hba; replace hbb := hG'.le _ _ hbb; clear hG'
  cases hf : few10B l with
  | false =>
    (refine S_want (by rfl) ?_; refine W_not (by first | rfl | assumption) ?_; refine S_op ?_; refine W_pickF (by first | rfl | assumption) (by first | rfl | assumption) ?_; refine S_op ?_; refine W_moveBool (by first | rfl | assumption) ?_; refine S_pass (by rfl) ?_; refine S_pass (by rfl) ?_; refine S_pass (by rfl) ?_; refine S_pass (by rfl) ?_; refine S_pass (by rfl) ?_; refine S_op ?_; refine W_pickT (by first | rfl | assumption) (by first | rfl | assumption) ?_; refine S_op ?_; refine W_moveBool (by first | rfl | assumption) ?_; refine S_pass (by rfl) ?_; refine S_pass (by rfl) ?_; refine S_pass (by rfl) ?_; refine S_pass (by rfl) ?_; refine S_pass (by rfl) ?_; refine S_pass (by rfl) ?_; refine S_pass (by rfl) ?_; refine S_op ?_; refine W_pickT (by first | rfl | assumption) (by first | rfl | assumption) ?_; refine S_nil ?_; refine CW_true (by first | rfl | assumption) ?_; refine CW_seq ?_; refine CW_region rfl ?_)
    (refine S_op ?_; refine W_call hS (by rfl) (awake10_c H) ?_); rintro v H w hG' rfl; replace hG := hG.trans hG'; replace hS := hG'.sub; clear hG'
    (refine S_op ?_; refine W_assignBool (by first | rfl | assumption) ?_; refine S_nil ?_; refine CW_ret ?_)
    exact ⟨_, ResW_one (v := .bool _) rfl, H, hG, rfl⟩
  | true =>
    have hlen := few10B_le hf
    (refine S_want (by rfl) ?_; refine W_not (by first | rfl | assumption) ?_; refine S_op ?_; refine W_pickF (by first | rfl | assumption) (by first | rfl | assumption) ?_; refine S_op ?_; refine W_moveBool (by first | rfl | assumption) ?_; refine S_want (by rfl) ?_; refine W_loadWhole (by first | rfl | assumption) (by assumption) (by rfl) (by assumption) ?_; refine S_want (by rfl) ?_; refine W_loadWhole (by first | rfl | assumption) (by assumption) (by rfl) (by assumption) ?_)
    refine S_want (by rfl) ?_
    refine W_buildParts (cs := ops10 [a, b]) hS (by omega) (by rfl) (by rfl) ?_
    intro H w g hG' hg _
    replace hG := hG.trans hG'
    replace hS := hG'.sub
    replace hl := hl.mono hG'.le
    replace hba := hG'.le _ _ hba
    replace hbb := hG'.le _ _ hbb
    skip
    (refine S_want (by rfl) ?_; refine W_call hS (by rfl) (few10_c H (some ⟨g, 0, none⟩) 2 [a, b] (SlAt.of_row hg) (by simp) (by intro o ho; simp at ho; rcases ho with rfl | rfl <;> assumption)) ?_); rintro v H w hG' rfl; replace hG := hG.trans hG'; replace hS := hG'.sub; replace hl := hl.mono hG'.le; replace hba := hG'.le _ _ hba; replace hbb := hG'.le _ _ hbb; clear hG'
    cases hf2 : few10B [a, b] with
    | false =>
      (refine S_want (by rfl) ?_; refine W_not (by first | rfl | assumption) ?_; refine S_op ?_; refine W_pickF (by first | rfl | assumption) (by first | rfl | assumption) ?_; refine S_op ?_; refine W_moveBool (by first | rfl | assumption) ?_; refine S_pass (by rfl) ?_; refine S_pass (by rfl) ?_; refine S_pass (by rfl) ?_; refine S_pass (by rfl) ?_; refine S_pass (by rfl) ?_; refine S_pass (by rfl) ?_; refine S_pass (by rfl) ?_; refine S_op ?_; refine W_pickT (by first | rfl | assumption) (by first | rfl | assumption) ?_; refine S_nil ?_; refine CW_true (by first | rfl | assumption) ?_; refine CW_seq ?_; refine CW_region rfl ?_)
      (refine S_op ?_; refine W_call hS (by rfl) (awake10_c H) ?_); rintro v H w hG' rfl; replace hG := hG.trans hG'; replace hS := hG'.sub; clear hG'
      (refine S_op ?_; refine W_assignBool (by first | rfl | assumption) ?_; refine S_nil ?_; refine CW_ret ?_)
      exact ⟨_, ResW_one (v := .bool _) rfl, H, hG, rfl⟩
    | true =>
      by_cases hkk : a.e.key = b.e.key
      · (refine S_want (by rfl) ?_; refine W_not (by first | rfl | assumption) ?_; refine S_op ?_; refine W_pickF (by first | rfl | assumption) (by first | rfl | assumption) ?_; refine S_op ?_; refine W_moveBool (by first | rfl | assumption) ?_; refine S_want (by rfl) ?_; refine W_field (by first | rfl | assumption) ?_; refine S_want (by rfl) ?_; refine W_field (by first | rfl | assumption) ?_; refine S_want (by rfl) ?_; refine W_loadH (by first | rfl | assumption) (by assumption) (by rfl) (by assumption) ?_; refine S_want (by rfl) ?_; refine W_field (by first | rfl | assumption) ?_; refine S_want (by rfl) ?_; refine W_field (by first | rfl | assumption) ?_; refine S_want (by rfl) ?_; refine W_loadH (by first | rfl | assumption) (by assumption) (by rfl) (by assumption) ?_; refine S_want (by rfl) ?_; refine W_seqlT (by first | rfl | assumption) (by first | rfl | assumption) (by first | assumption | rfl) ?_; refine S_op ?_; refine W_pickF (by first | rfl | assumption) (by first | rfl | assumption) ?_; refine S_nil ?_; refine CW_true (by first | rfl | assumption) ?_; refine CW_seq ?_; refine CW_region rfl ?_)
        (refine S_op ?_; refine W_call hS (by rfl) (awake10_c H) ?_); rintro v H w hG' rfl; replace hG := hG.trans hG'; replace hS := hG'.sub; clear hG'
        (refine S_op ?_; refine W_assignBool (by first | rfl | assumption) ?_; refine S_nil ?_; refine CW_ret ?_)
        exact ⟨_, ResW_one (v := .bool _) rfl, H, hG, rfl⟩
      · (refine S_want (by rfl) ?_; refine W_not (by first | rfl | assumption) ?_; refine S_op ?_; refine W_pickF (by first | rfl | assumption) (by first | rfl | assumption) ?_; refine S_op ?_; refine W_moveBool (by first | rfl | assumption) ?_; refine S_want (by rfl) ?_; refine W_field (by first | rfl | assumption) ?_; refine S_want (by rfl) ?_; refine W_field (by first | rfl | assumption) ?_; refine S_want (by rfl) ?_; refine W_loadH (by first | rfl | assumption) (by assumption) (by rfl) (by assumption) ?_; refine S_want (by rfl) ?_; refine W_field (by first | rfl | assumption) ?_; refine S_want (by rfl) ?_; refine W_field (by first | rfl | assumption) ?_; refine S_want (by rfl) ?_; refine W_loadH (by first | rfl | assumption) (by assumption) (by rfl) (by assumption) ?_; refine S_want (by rfl) ?_; refine W_seqlF (by first | rfl | assumption) (by first | rfl | assumption) (by assumption) ?_; refine S_op ?_; refine W_pickF (by first | rfl | assumption) (by first | rfl | assumption) ?_; refine S_nil ?_; refine CW_false (by first | rfl | assumption) ?_; refine CW_skip ?_; refine CW_seq ?_; refine CW_region rfl ?_; refine S_op ?_; refine W_moveSl (by first | rfl | assumption) ?_)
        (refine S_op ?_; refine W_call hS (by rfl) (built10_c H A c l hl (by omega)) ?_); rintro v H w hG' ⟨t, rfl, ht, _, htl⟩; replace hG := hG.trans hG'; replace hS := hG'.sub; replace hba := hG'.le _ _ hba; replace hbb := hG'.le _ _ hbb; clear hG'
        have hcomm := stepL_comm ht.rise hkk
        (refine S_op ?_; refine W_assignPtr (by first | rfl | assumption) ?_; refine S_nil ?_; refine CW_seq ?_; refine CW_region rfl ?_; refine S_op ?_; refine W_movePtr (by first | rfl | assumption) ?_; refine S_op ?_; refine W_movePtr (by first | rfl | assumption) ?_; refine S_op ?_; refine W_assignPtr (by first | rfl | assumption) ?_; refine S_op ?_; refine W_assignPtr (by first | rfl | assumption) ?_; refine S_nil ?_; refine CW_seq ?_; refine CW_seq ?_; refine CW_region rfl ?_; refine S_op ?_; refine W_loadWhole (by first | rfl | assumption) (by assumption) (by rfl) (by assumption) ?_; refine S_op ?_; refine W_loadWhole (by first | rfl | assumption) (by assumption) (by rfl) (by assumption) ?_)
        refine S_op ?_
        refine W_buildParts (cs := ops10 [a, b]) hS (by omega) (by rfl) (by rfl) ?_
        intro H w g hG' hg _
        replace hG := hG.trans hG'
        replace hS := hG'.sub
        replace ht := ht.mono hG'.le
        replace hba := hG'.le _ _ hba
        replace hbb := hG'.le _ _ hbb
        clear hG'
        (refine S_op ?_; refine W_len (by first | rfl | assumption) ?_; refine S_op ?_; refine W_moveInt (by first | rfl | assumption) ?_; refine S_nil ?_; refine CW_block ?_)
        have hG0 := hG
        have hl2 : SlAt H (some ⟨g, 0, none⟩) (ops10 [a, b]) := SlAt.of_row hg
        refine CW_loopM [8, 11, 46, 47, 48, 49, 50, 51, 52, 53]
          (fun m u w2 => ∃ (i : Nat) (t' : Tr) (H2 : HF), u 46 = .int .i64 (i : Int) ∧ u 8 = t'.val ∧ Grow H w H2 w2 ∧ TreeAt H2 t' ∧ i ≤ 2 ∧ 2 - i ≤ m ∧ t'.items = runL t.items ([a, b].take i))
          (m := 2) ⟨0, t, H, rfl, rfl, Grow.refl hS, ht, by omega, by omega, rfl⟩ ?_
        rintro m u w2 ⟨i, t', H2, hi1, hi2, hG2, ht', hi, hm, hit⟩
        replace hG := hG0.trans hG2
        replace hS := hG2.sub
        replace hl2 := hl2.mono hG2.le
        have hlt' : t'.items.length ≤ t.items.length + 2 := by
          rw [hit]
          match i, hi with
          | 0, _ => show t.items.length ≤ _; omega
          | 1, _ => have := stepL_len t.items a; show (stepL t.items a).length ≤ _; omega
          | 2, _ => have := stepL_len t.items a; have := stepL_len (stepL t.items a) b; show (stepL (stepL t.items a) b).length ≤ _; omega
        by_cases hlt : i < [a, b].length
        · obtain ⟨bb, off, hA, hrow⟩ := ops10_some hl2 hlt
          cases hA
          have hlt2 : i < 2 := hlt
          (refine CW_seq ?_; refine CW_region rfl ?_; refine S_op ?_; refine W_lssT (by first | rfl | assumption) (by first | rfl | assumption) (by first | omega | rfl) ?_; refine S_nil ?_; refine CW_seq ?_; refine CW_true (by first | rfl | assumption) ?_; refine CW_skip ?_; refine CW_seq ?_; refine CW_block ?_; refine CW_seq ?_; refine CW_region rfl ?_; refine S_op ?_; refine W_index (by first | rfl | assumption) (by first | rfl | assumption) (by first | assumption | omega | decide) (by first | rfl | assumption) ?_; refine S_op ?_; refine W_loadOd (by first | rfl | assumption) (by assumption) (by first | assumption | omega) (by assumption) ?_)
          refine S_op ?_
          refine W_alloc hS ?_
          intro w3 b3 hG3 hb3 hm3
          replace hb3 := hG2.base hb3
          replace hG2 := hG2.trans hG3
          replace hS := hG3.sub
          replace hm3 : Mut H2 w3 b3 [.bool false, .string ⟨#[]⟩, .string ⟨#[]⟩] := hm3
          skip
          refine S_op0 ?_
          refine W_storeM (b := b3) (o := 0) (vs := op10Cell (nth [a, b] i)) (by rfl) (by rfl) hm3 (by rfl) (by intro u hu; simp [op10Cell] at hu; rcases hu with rfl | rfl | rfl <;> rfl) (by rfl) (Nat.le_refl 3) ?_
          intro w4 hg4 hm4
          replace hG2 := grown_own hG2 hg4 hm3 hb3
          replace hS := hG2.sub
          replace hm4 : Mut H2 w4 b3 (op10Cell (nth [a, b] i)) := hm4
          clear hm3 hg4 hG3
          (refine S_nil ?_; refine CW_region rfl ?_; refine S_op ?_; refine W_movePtr (by first | rfl | assumption) ?_)
          refine S_op ?_
          refine W_loadMAgg (s := 3) (vs := op10Cell (nth [a, b] i)) (by rfl) hm4 (by rfl) (by rfl) ?_
          skip
          refine S_op ?_
          refine W_call hS (by rfl) (after10_c H2 t' (nth [a, b] i) ht' (by omega)) ?_
          rintro v H5 w5 hG5 ⟨t5, rfl, ht5, hit5⟩
          replace hG2 := hG2.trans hG5
          (refine S_op ?_; refine W_assignPtr (by first | rfl | assumption) ?_; refine S_nil ?_; refine CW_region rfl ?_; refine S_op ?_; refine W_add1 (by first | rfl | assumption) (by omega) ?_; refine S_op ?_; refine W_moveInt (by first | rfl | assumption) ?_; refine S_nil ?_)
          exact ⟨(by repeat (first | exact AgreeOff.over | refine AgreeOff.upd rfl ?_ | refine AgreeOff.over2 rfl ?_)), m - 1, by omega, i + 1, t5, H5, rfl, rfl, hG2, ht5, by omega, by omega, by
            rw [hit5, hit, runL, runL]
            match i, hlt2 with
            | 0, _ => rfl
            | 1, _ => rfl⟩
        · have hi2 : i = 2 := by have : ¬ i < 2 := hlt; omega
          subst hi2
          have hit : t'.items = stepL (stepL t.items a) b := hit
          skip
          obtain ⟨tx, htx⟩ : ∃ x, x = t' := ⟨_, rfl⟩
          rw [← htx] at hi2 ht' hit hlt'
          replace ht := ht.mono hG2.le
          replace hba := hG2.le _ _ hba
          replace hbb := hG2.le _ _ hbb
          clear hlt hl2 hG2 hm hi
          (refine CW_seq ?_; refine CW_region rfl ?_; refine S_op ?_; refine W_lssF (by first | rfl | assumption) (by first | rfl | assumption) (by first | omega | rfl) ?_; refine S_nil ?_; refine CW_seq ?_; refine CW_false (by first | rfl | assumption) ?_; refine CW_exit ?_; refine CW_seq ?_; refine CW_seq ?_; refine CW_region rfl ?_; refine S_op ?_; refine W_loadWhole (by first | rfl | assumption) (by assumption) (by rfl) (by assumption) ?_; refine S_op ?_; refine W_loadWhole (by first | rfl | assumption) (by assumption) (by rfl) (by assumption) ?_)
          refine S_op ?_
          refine W_buildParts (cs := ops10 [b, a]) hS (by omega) (by rfl) (by rfl) ?_
          intro H w g hG' hg _
          replace hG := hG.trans hG'
          replace hS := hG'.sub
          replace ht := ht.mono hG'.le
          have htX := ht'.mono hG'.le
          have hitX := hit
          have hltX := hlt'
          clear hG' ht' hit htx hlt'
          (refine S_op ?_; refine W_len (by first | rfl | assumption) ?_; refine S_op ?_; refine W_moveInt (by first | rfl | assumption) ?_; refine S_nil ?_; refine CW_block ?_)
          have hG0 := hG
          have hl2 : SlAt H (some ⟨g, 0, none⟩) (ops10 [b, a]) := SlAt.of_row hg
          refine CW_loopM [9, 13, 58, 59, 60, 61, 62, 63, 64, 65]
            (fun m u w2 => ∃ (i : Nat) (t' : Tr) (H2 : HF), u 58 = .int .i64 (i : Int) ∧ u 9 = t'.val ∧ Grow H w H2 w2 ∧ TreeAt H2 t' ∧ i ≤ 2 ∧ 2 - i ≤ m ∧ t'.items = runL t.items ([b, a].take i))
            (m := 2) ⟨0, t, H, rfl, rfl, Grow.refl hS, ht, by omega, by omega, rfl⟩ ?_
          rintro m u w2 ⟨i, t', H2, hi1, hi2, hG2, ht', hi, hm, hit⟩
          replace hG := hG0.trans hG2
          replace hS := hG2.sub
          replace hl2 := hl2.mono hG2.le
          have hlt' : t'.items.length ≤ t.items.length + 2 := by
            rw [hit]
            match i, hi with
            | 0, _ => show t.items.length ≤ _; omega
            | 1, _ => have := stepL_len t.items b; show (stepL t.items b).length ≤ _; omega
            | 2, _ => have := stepL_len t.items b; have := stepL_len (stepL t.items b) a; show (stepL (stepL t.items b) a).length ≤ _; omega
          by_cases hlt : i < [b, a].length
          · obtain ⟨bb, off, hA, hrow⟩ := ops10_some hl2 hlt
            cases hA
            have hlt2 : i < 2 := hlt
            (refine CW_seq ?_; refine CW_region rfl ?_; refine S_op ?_; refine W_lssT (by first | rfl | assumption) (by first | rfl | assumption) (by first | omega | rfl) ?_; refine S_nil ?_; refine CW_seq ?_; refine CW_true (by first | rfl | assumption) ?_; refine CW_skip ?_; refine CW_seq ?_; refine CW_block ?_; refine CW_seq ?_; refine CW_region rfl ?_; refine S_op ?_; refine W_index (by first | rfl | assumption) (by first | rfl | assumption) (by first | assumption | omega | decide) (by first | rfl | assumption) ?_; refine S_op ?_; refine W_loadOd (by first | rfl | assumption) (by assumption) (by first | assumption | omega) (by assumption) ?_)
            refine S_op ?_
            refine W_alloc hS ?_
            intro w3 b3 hG3 hb3 hm3
            replace hb3 := hG2.base hb3
            replace hG2 := hG2.trans hG3
            replace hS := hG3.sub
            replace hm3 : Mut H2 w3 b3 [.bool false, .string ⟨#[]⟩, .string ⟨#[]⟩] := hm3
            skip
            refine S_op0 ?_
            refine W_storeM (b := b3) (o := 0) (vs := op10Cell (nth [b, a] i)) (by rfl) (by rfl) hm3 (by rfl) (by intro u hu; simp [op10Cell] at hu; rcases hu with rfl | rfl | rfl <;> rfl) (by rfl) (Nat.le_refl 3) ?_
            intro w4 hg4 hm4
            replace hG2 := grown_own hG2 hg4 hm3 hb3
            replace hS := hG2.sub
            replace hm4 : Mut H2 w4 b3 (op10Cell (nth [b, a] i)) := hm4
            clear hm3 hg4 hG3
            (refine S_nil ?_; refine CW_region rfl ?_; refine S_op ?_; refine W_movePtr (by first | rfl | assumption) ?_)
            refine S_op ?_
            refine W_loadMAgg (s := 3) (vs := op10Cell (nth [b, a] i)) (by rfl) hm4 (by rfl) (by rfl) ?_
            skip
            refine S_op ?_
            refine W_call hS (by rfl) (after10_c H2 t' (nth [b, a] i) ht' (by omega)) ?_
            rintro v H5 w5 hG5 ⟨t5, rfl, ht5, hit5⟩
            replace hG2 := hG2.trans hG5
            (refine S_op ?_; refine W_assignPtr (by first | rfl | assumption) ?_; refine S_nil ?_; refine CW_region rfl ?_; refine S_op ?_; refine W_add1 (by first | rfl | assumption) (by omega) ?_; refine S_op ?_; refine W_moveInt (by first | rfl | assumption) ?_; refine S_nil ?_)
            exact ⟨(by repeat (first | exact AgreeOff.over | refine AgreeOff.upd rfl ?_ | refine AgreeOff.over2 rfl ?_)), m - 1, by omega, i + 1, t5, H5, rfl, rfl, hG2, ht5, by omega, by omega, by
              rw [hit5, hit, runL, runL]
              match i, hlt2 with
              | 0, _ => rfl
              | 1, _ => rfl⟩
          · have hi2 : i = 2 := by have : ¬ i < 2 := hlt; omega
            subst hi2
            have hit : t'.items = stepL (stepL t.items b) a := hit
            skip
            replace htX := htX.mono hG2.le
            clear hlt hl2 hG2 hm hi
            (refine CW_seq ?_; refine CW_region rfl ?_; refine S_op ?_; refine W_lssF (by first | rfl | assumption) (by first | rfl | assumption) (by first | omega | rfl) ?_; refine S_nil ?_; refine CW_seq ?_; refine CW_false (by first | rfl | assumption) ?_; refine CW_exit ?_; refine CW_seq ?_; refine CW_region rfl ?_; refine S_op ?_; refine W_movePtr (by first | rfl | assumption) ?_)
            (refine S_op ?_; refine W_call hS (by rfl) (items_t htX.at_ (by omega)) ?_); rintro v H w hG' ⟨A5, c5, rfl, hc5, hl5⟩; replace hG := hG.trans hG'; replace hS := hG'.sub; replace ht' := ht'.mono hG'.le; clear hG'
            (refine S_op ?_; refine W_movePtr (by first | rfl | assumption) ?_)
            (refine S_op ?_; refine W_call hS (by rfl) (items_t ht'.at_ (by omega)) ?_); rintro v H w hG' ⟨A6, c6, rfl, hc6, hl6⟩; replace hG := hG.trans hG'; replace hS := hG'.sub; replace hl5 := hl5.mono hG'.le; clear hG'
            skip
            (refine S_op ?_; refine W_call hS (by rfl) (same_c H A5 A6 c5 c6 tx.items t'.items hl5 hl6 (by omega)) ?_); rintro v H w hG' rfl; replace hG := hG.trans hG'; replace hS := hG'.sub; clear hG'
            rw [hitX, hit, hcomm, decide_eq_true rfl]
            (refine S_op ?_; refine W_assignBool (by first | rfl | assumption) ?_; refine S_nil ?_; refine CW_ret ?_)
            exact ⟨_, ResW_one (v := .bool _) rfl, H, hG, rfl⟩
/-! ### TreeBack -/
theorem back_items {l : List Ent} (hr : riseB l = true) (e : Ent) : withoutL (withL l e) e.key = withoutL l e.key := by
  refine look_ext (rise_withoutL _ (rise_withL _ hr)) (rise_withoutL _ hr) fun k => ?_
  rw [look_withoutL (rise_withL _ hr), look_withoutL hr, look_withL hr]
  by_cases h : e.key = k <;> simp [h]
theorem look_val {l : List Ent} {key : ByteArray} (h : lookB l key = true) : look l key = some ⟨key, lookV l key⟩ := by
  unfold lookB at h
  cases hl : look l key with
  | none => rw [hl] at h; cases h
  | some x =>
    have hk := (look_at hl).2.2.2
    simp only [lookV, hl, Option.map_some, Option.getD_some]
    cases x
    simp only at hk
    rw [hk]
theorem look_mem {l : List Ent} {key : ByteArray} {e : Ent} (h : look l key = some e) : e ∈ l := by
  obtain ⟨_, h1, h2, _⟩ := look_at h
  rw [← h2]; exact ent_mem' h1
theorem back_yes {l : List Ent} (hr : riseB l = true) {key : ByteArray} (h : lookB l key = true) : withL (withoutL l key) ⟨key, lookV l key⟩ = l := by
  refine look_ext (rise_withL _ (rise_withoutL _ hr)) hr fun k => ?_
  rw [look_withL (rise_withoutL _ hr), look_withoutL hr]
  by_cases hk : key = k
  · subst hk; simp [look_val h]
  · simp [hk]
theorem treeBack_c (H : HF) (A : Option Addr) (c : Nat) (l : List Op10) (e : Ent) (hl : SlAt H A (ops10 l)) (hb : l.length ≤ 100000000000000) (hs : ∀ o ∈ l, o.Ok) (hse : SmallE e) :
    Fn Try.prog 11 [.slice A l.length c, .agg #[.string e.key, .string e.val]] H fun v _ => v = .bool true := by
  obtain ⟨hs1, hs2⟩ := hse
  simp only [reachBytes] at hs1 hs2
  refine Fn_of_CW Try.func11 rfl Try.ntmps11 Try.results11 rfl fun w hS => ?_; have hG := Grow.refl hS; have hS0 := hS
  (refine CW_seq ?_; refine CW_region rfl ?_)
  (refine S_op (W_boxAgg hS (by rfl) ?_)); intro H w _ hG' hb1; replace hG := hG.trans hG'; replace hS := hG'.sub; replace hl := hl.mono hG'.le; clear hG'
  (refine S_op ?_; refine W_assignBool (by first | rfl | assumption) ?_; refine S_nil ?_; refine CW_seq ?_; refine CW_seq ?_; refine CW_region rfl ?_)
  (refine S_op ?_; refine W_call hS (by rfl) (awake10_c H) ?_); rintro v H w hG' rfl; replace hG := hG.trans hG'; replace hS := hG'.sub; replace hl := hl.mono hG'.le; replace hb1 := hG'.le _ _ hb1; clear hG'
  (refine S_op ?_; refine W_not (by first | rfl | assumption) ?_; refine S_op ?_; refine W_moveBool (by first | rfl | assumption) ?_; refine S_want (by rfl) ?_; refine W_moveSl (by first | rfl | assumption) ?_)
  (refine S_want (by rfl) ?_; refine W_call hS (by rfl) (few10_c H A c l hl hb hs) ?_); rintro v H w hG' rfl; replace hG := hG.trans hG'; replace hS := hG'.sub; replace hl := hl.mono hG'.le; replace hb1 := hG'.le _ _ hb1; clear hG'
  cases hf : few10B l with
  | false =>
    (refine S_want (by rfl) ?_; refine W_not (by first | rfl | assumption) ?_; refine S_op ?_; refine W_pickF (by first | rfl | assumption) (by first | rfl | assumption) ?_; refine S_op ?_; refine W_moveBool (by first | rfl | assumption) ?_; refine S_pass (by rfl) ?_; refine S_pass (by rfl) ?_; refine S_pass (by rfl) ?_; refine S_pass (by rfl) ?_; refine S_pass (by rfl) ?_; refine S_pass (by rfl) ?_; refine S_pass (by rfl) ?_; refine S_pass (by rfl) ?_; refine S_op ?_; refine W_pickT (by first | rfl | assumption) (by first | rfl | assumption) ?_; refine S_nil ?_; refine CW_true (by first | rfl | assumption) ?_; refine CW_seq ?_; refine CW_region rfl ?_)
    (refine S_op ?_; refine W_call hS (by rfl) (awake10_c H) ?_); rintro v H w hG' rfl; replace hG := hG.trans hG'; replace hS := hG'.sub; clear hG'
    (refine S_op ?_; refine W_assignBool (by first | rfl | assumption) ?_; refine S_nil ?_; refine CW_ret ?_)
    exact ⟨_, ResW_one (v := .bool _) rfl, H, hG, rfl⟩
  | true =>
    have hlen := few10B_le hf
    by_cases hk2 : 2000 < e.key.size + e.val.size
    · (refine S_want (by rfl) ?_; refine W_not (by first | rfl | assumption) ?_; refine S_op ?_; refine W_pickF (by first | rfl | assumption) (by first | rfl | assumption) ?_; refine S_op ?_; refine W_moveBool (by first | rfl | assumption) ?_; refine S_want (by rfl) ?_; refine W_field (by first | rfl | assumption) ?_; refine S_want (by rfl) ?_; refine W_loadH (by first | rfl | assumption) (by assumption) (by rfl) (by assumption) ?_; refine S_want (by rfl) ?_; refine W_lenS (by first | rfl | assumption) ?_; refine S_want (by rfl) ?_; refine W_field (by first | rfl | assumption) ?_; refine S_want (by rfl) ?_; refine W_loadH (by first | rfl | assumption) (by assumption) (by rfl) (by assumption) ?_; refine S_want (by rfl) ?_; refine W_lenS (by first | rfl | assumption) ?_; refine S_want (by rfl) ?_; refine W_addN (by first | rfl | assumption) (by first | rfl | assumption) (by omega) ?_; refine S_want (by rfl) ?_; refine W_gtrT (by first | rfl | assumption) (by first | rfl | assumption) (by first | omega | rfl) ?_; refine S_op ?_; refine W_pickF (by first | rfl | assumption) (by first | rfl | assumption) ?_; refine S_nil ?_; refine CW_true (by first | rfl | assumption) ?_; refine CW_seq ?_; refine CW_region rfl ?_)
      (refine S_op ?_; refine W_call hS (by rfl) (awake10_c H) ?_); rintro v H w hG' rfl; replace hG := hG.trans hG'; replace hS := hG'.sub; clear hG'
      (refine S_op ?_; refine W_assignBool (by first | rfl | assumption) ?_; refine S_nil ?_; refine CW_ret ?_)
      exact ⟨_, ResW_one (v := .bool _) rfl, H, hG, rfl⟩
    · (refine S_want (by rfl) ?_; refine W_not (by first | rfl | assumption) ?_; refine S_op ?_; refine W_pickF (by first | rfl | assumption) (by first | rfl | assumption) ?_; refine S_op ?_; refine W_moveBool (by first | rfl | assumption) ?_; refine S_want (by rfl) ?_; refine W_field (by first | rfl | assumption) ?_; refine S_want (by rfl) ?_; refine W_loadH (by first | rfl | assumption) (by assumption) (by rfl) (by assumption) ?_; refine S_want (by rfl) ?_; refine W_lenS (by first | rfl | assumption) ?_; refine S_want (by rfl) ?_; refine W_field (by first | rfl | assumption) ?_; refine S_want (by rfl) ?_; refine W_loadH (by first | rfl | assumption) (by assumption) (by rfl) (by assumption) ?_; refine S_want (by rfl) ?_; refine W_lenS (by first | rfl | assumption) ?_; refine S_want (by rfl) ?_; refine W_addN (by first | rfl | assumption) (by first | rfl | assumption) (by omega) ?_; refine S_want (by rfl) ?_; refine W_gtrF (by first | rfl | assumption) (by first | rfl | assumption) (by first | omega | rfl) ?_; refine S_op ?_; refine W_pickF (by first | rfl | assumption) (by first | rfl | assumption) ?_; refine S_nil ?_; refine CW_false (by first | rfl | assumption) ?_; refine CW_skip ?_; refine CW_seq ?_; refine CW_region rfl ?_; refine S_op ?_; refine W_moveSl (by first | rfl | assumption) ?_)
      (refine S_op ?_; refine W_call hS (by rfl) (built10_c H A c l hl (by omega)) ?_); rintro v H w hG' ⟨n, rfl, htn, _, htl⟩; replace hG := hG.trans hG'; replace hS := hG'.sub; replace hb1 := hG'.le _ _ hb1; clear hG'
      (refine S_op ?_; refine W_assignPtr (by first | rfl | assumption) ?_; refine S_nil ?_; refine CW_seq ?_; refine CW_region rfl ?_; refine S_op ?_; refine W_movePtr (by first | rfl | assumption) ?_; refine S_op ?_; refine W_field (by first | rfl | assumption) ?_; refine S_op ?_; refine W_loadH (by first | rfl | assumption) (by assumption) (by rfl) (by assumption) ?_)
      (refine S_op ?_; refine W_call hS (by rfl) (tGet_c e.key htn (by omega)) ?_); rintro v H w hG' rfl; replace hG := hG.trans hG'; replace hS := hG'.sub; replace htn := htn.mono hG'.le; replace hb1 := hG'.le _ _ hb1; clear hG'
      have hn0 := htn.at_
      (refine S_op ?_; refine W_moveTup (by first | rfl | assumption) ?_; refine S_op ?_; refine W_extract (by first | rfl | assumption) (by rfl) ?_; refine S_op ?_; refine W_extract (by first | rfl | assumption) (by rfl) ?_; refine S_op ?_; refine W_assignStr (by first | rfl | assumption) ?_; refine S_op ?_; refine W_assignBool (by first | rfl | assumption) ?_; refine S_nil ?_; refine CW_seq ?_; refine CW_region rfl ?_; refine S_op ?_; refine W_movePtr (by first | rfl | assumption) ?_; refine S_op ?_; refine W_loadWhole (by first | rfl | assumption) (by assumption) (by rfl) (by assumption) ?_)
      (refine S_op ?_; refine W_call hS (by rfl) (tPut_c e htn (by omega)) ?_); rintro v H w hG' ⟨m, rfl, hpn, hpm⟩; replace hG := hG.trans hG'; replace hS := hG'.sub; replace htn := htn.mono hG'.le; replace hb1 := hG'.le _ _ hb1; clear hG'
      by_cases he : putE e = 0
      · obtain ⟨htm, hpm⟩ := hpm he
        have hrn := htn.rise
        have hml := withL_length_le n.items e
        have hmi := hpm.items
        have hml2 : m.items.length ≤ n.items.length + 1 := by rw [hmi]; exact hml
        have hlm : look m.items e.key = some e := by rw [hmi, look_withL hrn]; simp
        have hlmB : lookB m.items e.key = true := by simp [lookB, hlm]
        (refine S_op ?_; refine W_moveTup (by first | rfl | assumption) ?_; refine S_op ?_; refine W_extract (by first | rfl | assumption) (by rfl) ?_; refine S_op ?_; refine W_extract (by first | rfl | assumption) (by rfl) ?_; refine S_op ?_; refine W_assignPtr (by first | rfl | assumption) ?_; refine S_op ?_; refine W_assignInt (by first | rfl | assumption) ?_; refine S_nil ?_; refine CW_seq ?_; refine CW_seq ?_; refine CW_region rfl ?_; refine S_op ?_; refine W_moveInt (by first | rfl | assumption) ?_; refine S_op ?_; refine W_neqF (by first | rfl | assumption) (by first | rfl | assumption) (by first | omega | rfl) ?_; refine S_nil ?_; refine CW_false (by first | rfl | assumption) ?_; refine CW_skip ?_; refine CW_seq ?_; refine CW_region rfl ?_; refine S_op ?_; refine W_movePtr (by first | rfl | assumption) ?_; refine S_op ?_; refine W_field (by first | rfl | assumption) ?_; refine S_op ?_; refine W_loadH (by first | rfl | assumption) (by assumption) (by rfl) (by assumption) ?_)
        (refine S_op ?_; refine W_call hS (by rfl) (tDel_c e.key htm (by omega)) ?_); rintro v H w hG' ⟨back, rfl, htb, hdb, _⟩; replace hG := hG.trans hG'; replace hS := hG'.sub; replace htn := htn.mono hG'.le; replace htm := htm.mono hG'.le; replace hb1 := hG'.le _ _ hb1; clear hG'
        have hbi := hdb.items
        rw [hmi, back_items hrn] at hbi
        have hbl : back.items.length ≤ n.items.length := by rw [hbi]; exact withoutL_length_le _ _
        rw [hlmB]
        cases hlb : lookB n.items e.key with
        | false =>
          rw [withoutL_same hlb] at hbi
          have hsame : ¬ look n.items e.key = some e := fun h => by rw [(look_iff.1 h).1] at hlb; cases hlb
          (refine S_op ?_; refine W_moveTup (by first | rfl | assumption) ?_; refine S_op ?_; refine W_extract (by first | rfl | assumption) (by rfl) ?_; refine S_op ?_; refine W_extract (by first | rfl | assumption) (by rfl) ?_; refine S_op ?_; refine W_assignPtr (by first | rfl | assumption) ?_; refine S_op ?_; refine W_assignBool (by first | rfl | assumption) ?_; refine S_nil ?_; refine CW_seq ?_; refine CW_seq ?_; refine CW_region rfl ?_; refine S_op ?_; refine W_moveBool (by first | rfl | assumption) ?_; refine S_op ?_; refine W_not (by first | rfl | assumption) ?_; refine S_nil ?_; refine CW_false (by first | rfl | assumption) ?_; refine CW_skip ?_; refine CW_seq ?_; refine CW_seq ?_; refine CW_region rfl ?_; refine S_op ?_; refine W_moveBool (by first | rfl | assumption) ?_; refine S_nil ?_; refine CW_false (by first | rfl | assumption) ?_; refine CW_skip ?_; refine CW_seq ?_; refine CW_region rfl ?_; refine S_op ?_; refine W_movePtr (by first | rfl | assumption) ?_; refine S_op ?_; refine W_loadWhole (by first | rfl | assumption) (by assumption) (by rfl) (by assumption) ?_)
          (refine S_op ?_; refine W_call hS (by rfl) (tPut_c e htm (by omega)) ?_); rintro v H w hG' ⟨ts, rfl, _, hps⟩; replace hG := hG.trans hG'; replace hS := hG'.sub; replace htn := htn.mono hG'.le; replace htm := htm.mono hG'.le; replace htb := htb.mono hG'.le; replace hb1 := hG'.le _ _ hb1; clear hG'
          obtain ⟨hts, hps⟩ := hps he
          obtain rfl := hps.same hlm
          (refine S_op ?_; refine W_moveTup (by first | rfl | assumption) ?_; refine S_op ?_; refine W_extract (by first | rfl | assumption) (by rfl) ?_; refine S_op ?_; refine W_extract (by first | rfl | assumption) (by rfl) ?_; refine S_op ?_; refine W_assignPtr (by first | rfl | assumption) ?_; refine S_op ?_; refine W_assignInt (by first | rfl | assumption) ?_; refine S_nil ?_; refine CW_seq ?_; refine CW_region rfl ?_; refine S_op ?_; refine W_movePtr (by first | rfl | assumption) ?_)
          (refine S_op ?_; refine W_call hS (by rfl) (items_t htb.at_ (by omega)) ?_); rintro v H w hG' ⟨A5, c5, rfl, hc5, hl5⟩; replace hG := hG.trans hG'; replace hS := hG'.sub; replace htn := htn.mono hG'.le; replace htm := htm.mono hG'.le; replace hb1 := hG'.le _ _ hb1; clear hG'
          (refine S_op ?_; refine W_movePtr (by first | rfl | assumption) ?_)
          (refine S_op ?_; refine W_call hS (by rfl) (items_t htn.at_ (by omega)) ?_); rintro v H w hG' ⟨A6, c6, rfl, hc6, hl6⟩; replace hG := hG.trans hG'; replace hS := hG'.sub; replace hl5 := hl5.mono hG'.le; replace htn := htn.mono hG'.le; replace htm := htm.mono hG'.le; replace hb1 := hG'.le _ _ hb1; clear hG'
          skip
          (refine S_op ?_; refine W_call hS (by rfl) (same_c H A5 A6 c5 c6 _ _ hl5 hl6 (by omega)) ?_); rintro v H w hG' rfl; replace hG := hG.trans hG'; replace hS := hG'.sub; replace htn := htn.mono hG'.le; replace htm := htm.mono hG'.le; replace hb1 := hG'.le _ _ hb1; clear hG'
          rw [hbi, decide_eq_true rfl, he]
          have hatm := htm.at_
          have hatn := htn.at_
          skip
          have hsT : sameT ts n = false := by
            obtain ⟨hh, x, rfl, hfr⟩ := hpm.fresh hsame
            exact sameT_fresh hn0 hfr
          (refine S_op ?_; refine W_moveBool (by first | rfl | assumption) ?_; refine S_want (by rfl) ?_; refine W_movePtr (by first | rfl | assumption) ?_; refine S_want (by rfl) ?_; refine W_movePtr (by first | rfl | assumption) ?_; refine S_want (by rfl) ?_; refine W_peqT (by first | rfl | assumption) (by first | rfl | assumption) (by first | rfl | assumption) ?_; refine S_op ?_; refine W_pickT (by first | rfl | assumption) (by first | rfl | assumption) ?_; refine S_op ?_; refine W_moveBool (by first | rfl | assumption) ?_; refine S_want (by rfl) ?_; refine W_moveInt (by first | rfl | assumption) ?_; refine S_want (by rfl) ?_; refine W_eqlT (by first | rfl | assumption) (by first | rfl | assumption) (by first | omega | rfl) ?_; refine S_op ?_; refine W_pickT (by first | rfl | assumption) (by first | rfl | assumption) ?_; refine S_op ?_; refine W_moveBool (by first | rfl | assumption) ?_; refine S_want (by rfl) ?_; refine W_movePtr (by first | rfl | assumption) ?_; refine S_want (by rfl) ?_; refine W_movePtr (by first | rfl | assumption) ?_; refine S_want (by rfl) ?_; refine W_trEqlB (by first | rfl | assumption) (by first | rfl | assumption) (by assumption) (by assumption) (by assumption) (by assumption) ?_; refine S_want (by rfl) ?_; refine W_moveBool (by first | rfl | assumption) ?_; refine S_want (by rfl) ?_; refine W_moveBool (by first | rfl | assumption) ?_; refine S_pass (by rfl) ?_; refine S_pass (by rfl) ?_; refine S_pass (by rfl) ?_; refine S_pass (by rfl) ?_; refine S_want (by rfl) ?_; refine W_pickF (by first | rfl | assumption) (by first | rfl | assumption) ?_; refine S_want (by rfl) ?_; refine W_beqlT (by first | rfl | assumption) (by first | rfl | assumption) (by first | rfl | assumption) ?_; refine S_op ?_; refine W_pickT (by first | rfl | assumption) (by first | rfl | assumption) ?_; refine S_op ?_; refine W_assignBool (by first | rfl | assumption) ?_; refine S_nil ?_; refine CW_ret ?_)
          exact ⟨_, ResW_one (v := .bool _) rfl, H, hG, rfl⟩
        | true =>
          have hev := look_val hlb
          have hev2 := htn.at_.ok.2 _ (look_mem hev)
          have hev3 : putE ⟨e.key, lookV n.items e.key⟩ = 0 := putE_ok.2 hev2
          (refine S_op ?_; refine W_moveTup (by first | rfl | assumption) ?_; refine S_op ?_; refine W_extract (by first | rfl | assumption) (by rfl) ?_; refine S_op ?_; refine W_extract (by first | rfl | assumption) (by rfl) ?_; refine S_op ?_; refine W_assignPtr (by first | rfl | assumption) ?_; refine S_op ?_; refine W_assignBool (by first | rfl | assumption) ?_; refine S_nil ?_; refine CW_seq ?_; refine CW_seq ?_; refine CW_region rfl ?_; refine S_op ?_; refine W_moveBool (by first | rfl | assumption) ?_; refine S_op ?_; refine W_not (by first | rfl | assumption) ?_; refine S_nil ?_; refine CW_false (by first | rfl | assumption) ?_; refine CW_skip ?_; refine CW_seq ?_; refine CW_seq ?_; refine CW_region rfl ?_; refine S_op ?_; refine W_moveBool (by first | rfl | assumption) ?_; refine S_nil ?_; refine CW_true (by first | rfl | assumption) ?_; refine CW_seq ?_; refine CW_region rfl ?_; refine S_op ?_; refine W_movePtr (by first | rfl | assumption) ?_; refine S_op ?_; refine W_field (by first | rfl | assumption) ?_; refine S_op ?_; refine W_loadH (by first | rfl | assumption) (by assumption) (by rfl) (by assumption) ?_; refine S_op ?_; refine W_moveStr (by first | rfl | assumption) ?_; refine S_op ?_; refine W_build (by rfl) ?_)
          (refine S_op ?_; refine W_call hS (by rfl) (tPut_c ⟨e.key, lookV n.items e.key⟩ htb (by omega)) ?_); rintro v H w hG' ⟨bk2, rfl, _, hpb⟩; replace hG := hG.trans hG'; replace hS := hG'.sub; replace htn := htn.mono hG'.le; replace htm := htm.mono hG'.le; replace hb1 := hG'.le _ _ hb1; clear hG'
          obtain ⟨htb2, hpb⟩ := hpb hev3
          rw [hev3]
          have hbi2 := hpb.items
          rw [hbi, back_yes hrn hlb] at hbi2
          clear hbi hbl htb hdb hpb
          have htb := htb2
          have hbi := hbi2
          have hbl : bk2.items.length ≤ n.items.length := by rw [hbi]; omega
          (refine S_op ?_; refine W_moveTup (by first | rfl | assumption) ?_; refine S_op ?_; refine W_extract (by first | rfl | assumption) (by rfl) ?_; refine S_op ?_; refine W_extract (by first | rfl | assumption) (by rfl) ?_; refine S_op ?_; refine W_assignPtr (by first | rfl | assumption) ?_; refine S_op ?_; refine W_assignInt (by first | rfl | assumption) ?_; refine S_nil ?_; refine CW_seq ?_; refine CW_region rfl ?_; refine S_op ?_; refine W_moveInt (by first | rfl | assumption) ?_; refine S_op ?_; refine W_neqF (by first | rfl | assumption) (by first | rfl | assumption) (by first | omega | rfl) ?_; refine S_nil ?_; refine CW_false (by first | rfl | assumption) ?_; refine CW_skip ?_; refine CW_seq ?_; refine CW_region rfl ?_; refine S_op ?_; refine W_movePtr (by first | rfl | assumption) ?_; refine S_op ?_; refine W_loadWhole (by first | rfl | assumption) (by assumption) (by rfl) (by assumption) ?_)
          (refine S_op ?_; refine W_call hS (by rfl) (tPut_c e htm (by omega)) ?_); rintro v H w hG' ⟨ts, rfl, _, hps⟩; replace hG := hG.trans hG'; replace hS := hG'.sub; replace htn := htn.mono hG'.le; replace htm := htm.mono hG'.le; replace htb := htb.mono hG'.le; replace hb1 := hG'.le _ _ hb1; clear hG'
          obtain ⟨hts, hps⟩ := hps he
          obtain rfl := hps.same hlm
          (refine S_op ?_; refine W_moveTup (by first | rfl | assumption) ?_; refine S_op ?_; refine W_extract (by first | rfl | assumption) (by rfl) ?_; refine S_op ?_; refine W_extract (by first | rfl | assumption) (by rfl) ?_; refine S_op ?_; refine W_assignPtr (by first | rfl | assumption) ?_; refine S_op ?_; refine W_assignInt (by first | rfl | assumption) ?_; refine S_nil ?_; refine CW_seq ?_; refine CW_region rfl ?_; refine S_op ?_; refine W_movePtr (by first | rfl | assumption) ?_)
          (refine S_op ?_; refine W_call hS (by rfl) (items_t htb.at_ (by omega)) ?_); rintro v H w hG' ⟨A5, c5, rfl, hc5, hl5⟩; replace hG := hG.trans hG'; replace hS := hG'.sub; replace htn := htn.mono hG'.le; replace htm := htm.mono hG'.le; replace hb1 := hG'.le _ _ hb1; clear hG'
          (refine S_op ?_; refine W_movePtr (by first | rfl | assumption) ?_)
          (refine S_op ?_; refine W_call hS (by rfl) (items_t htn.at_ (by omega)) ?_); rintro v H w hG' ⟨A6, c6, rfl, hc6, hl6⟩; replace hG := hG.trans hG'; replace hS := hG'.sub; replace hl5 := hl5.mono hG'.le; replace htn := htn.mono hG'.le; replace htm := htm.mono hG'.le; replace hb1 := hG'.le _ _ hb1; clear hG'
          skip
          (refine S_op ?_; refine W_call hS (by rfl) (same_c H A5 A6 c5 c6 _ _ hl5 hl6 (by omega)) ?_); rintro v H w hG' rfl; replace hG := hG.trans hG'; replace hS := hG'.sub; replace htn := htn.mono hG'.le; replace htm := htm.mono hG'.le; replace hb1 := hG'.le _ _ hb1; clear hG'
          rw [hbi, decide_eq_true rfl, he]
          have hatm := htm.at_
          have hatn := htn.at_
          skip
          by_cases hsame : look n.items e.key = some e
          · obtain ⟨q1, q2⟩ := look_iff.1 hsame
            obtain rfl := hpm.same hsame
            (refine S_op ?_; refine W_moveBool (by first | rfl | assumption) ?_; refine S_want (by rfl) ?_; refine W_movePtr (by first | rfl | assumption) ?_; refine S_want (by rfl) ?_; refine W_movePtr (by first | rfl | assumption) ?_; refine S_want (by rfl) ?_; refine W_peqT (by first | rfl | assumption) (by first | rfl | assumption) (by first | rfl | assumption) ?_; refine S_op ?_; refine W_pickT (by first | rfl | assumption) (by first | rfl | assumption) ?_; refine S_op ?_; refine W_moveBool (by first | rfl | assumption) ?_; refine S_want (by rfl) ?_; refine W_moveInt (by first | rfl | assumption) ?_; refine S_want (by rfl) ?_; refine W_eqlT (by first | rfl | assumption) (by first | rfl | assumption) (by first | omega | rfl) ?_; refine S_op ?_; refine W_pickT (by first | rfl | assumption) (by first | rfl | assumption) ?_; refine S_op ?_; refine W_moveBool (by first | rfl | assumption) ?_; refine S_want (by rfl) ?_; refine W_movePtr (by first | rfl | assumption) ?_; refine S_want (by rfl) ?_; refine W_movePtr (by first | rfl | assumption) ?_; refine S_want (by rfl) ?_; refine W_peqT (by first | rfl | assumption) (by first | rfl | assumption) (by first | rfl | assumption) ?_; refine S_want (by rfl) ?_; refine W_moveBool (by first | rfl | assumption) ?_; refine S_want (by rfl) ?_; refine W_moveBool (by first | rfl | assumption) ?_; refine S_want (by rfl) ?_; refine W_moveStr (by first | rfl | assumption) ?_; refine S_want (by rfl) ?_; refine W_field (by first | rfl | assumption) ?_; refine S_want (by rfl) ?_; refine W_loadH (by first | rfl | assumption) (by assumption) (by rfl) (by assumption) ?_; refine S_want (by rfl) ?_; refine W_seqlT (by first | rfl | assumption) (by first | rfl | assumption) (by first | assumption | rfl) ?_; refine S_want (by rfl) ?_; refine W_pickT (by first | rfl | assumption) (by first | rfl | assumption) ?_; refine S_want (by rfl) ?_; refine W_beqlT (by first | rfl | assumption) (by first | rfl | assumption) (by first | rfl | assumption) ?_; refine S_op ?_; refine W_pickT (by first | rfl | assumption) (by first | rfl | assumption) ?_; refine S_op ?_; refine W_assignBool (by first | rfl | assumption) ?_; refine S_nil ?_; refine CW_ret ?_)
            exact ⟨_, ResW_one (v := .bool _) rfl, H, hG, rfl⟩
          · have hne : ¬ lookV n.items e.key = e.val := fun h => hsame (look_iff.2 ⟨hlb, h⟩)
            have hsT : sameT ts n = false := by
              obtain ⟨hh, x, rfl, hfr⟩ := hpm.fresh hsame
              exact sameT_fresh hn0 hfr
            (refine S_op ?_; refine W_moveBool (by first | rfl | assumption) ?_; refine S_want (by rfl) ?_; refine W_movePtr (by first | rfl | assumption) ?_; refine S_want (by rfl) ?_; refine W_movePtr (by first | rfl | assumption) ?_; refine S_want (by rfl) ?_; refine W_peqT (by first | rfl | assumption) (by first | rfl | assumption) (by first | rfl | assumption) ?_; refine S_op ?_; refine W_pickT (by first | rfl | assumption) (by first | rfl | assumption) ?_; refine S_op ?_; refine W_moveBool (by first | rfl | assumption) ?_; refine S_want (by rfl) ?_; refine W_moveInt (by first | rfl | assumption) ?_; refine S_want (by rfl) ?_; refine W_eqlT (by first | rfl | assumption) (by first | rfl | assumption) (by first | omega | rfl) ?_; refine S_op ?_; refine W_pickT (by first | rfl | assumption) (by first | rfl | assumption) ?_; refine S_op ?_; refine W_moveBool (by first | rfl | assumption) ?_; refine S_want (by rfl) ?_; refine W_movePtr (by first | rfl | assumption) ?_; refine S_want (by rfl) ?_; refine W_movePtr (by first | rfl | assumption) ?_; refine S_want (by rfl) ?_; refine W_trEqlB (by first | rfl | assumption) (by first | rfl | assumption) (by assumption) (by assumption) (by assumption) (by assumption) ?_; refine S_want (by rfl) ?_; refine W_moveBool (by first | rfl | assumption) ?_; refine S_want (by rfl) ?_; refine W_moveBool (by first | rfl | assumption) ?_; refine S_want (by rfl) ?_; refine W_moveStr (by first | rfl | assumption) ?_; refine S_want (by rfl) ?_; refine W_field (by first | rfl | assumption) ?_; refine S_want (by rfl) ?_; refine W_loadH (by first | rfl | assumption) (by assumption) (by rfl) (by assumption) ?_; refine S_want (by rfl) ?_; refine W_seqlF (by first | rfl | assumption) (by first | rfl | assumption) (by assumption) ?_; refine S_want (by rfl) ?_; refine W_pickT (by first | rfl | assumption) (by first | rfl | assumption) ?_; refine S_want (by rfl) ?_; refine W_beqlT (by first | rfl | assumption) (by first | rfl | assumption) (by first | rfl | assumption) ?_; refine S_op ?_; refine W_pickT (by first | rfl | assumption) (by first | rfl | assumption) ?_; refine S_op ?_; refine W_assignBool (by first | rfl | assumption) ?_; refine S_nil ?_; refine CW_ret ?_)
            exact ⟨_, ResW_one (v := .bool _) rfl, H, hG, rfl⟩
      · obtain rfl := hpn he
        (refine S_op ?_; refine W_moveTup (by first | rfl | assumption) ?_; refine S_op ?_; refine W_extract (by first | rfl | assumption) (by rfl) ?_; refine S_op ?_; refine W_extract (by first | rfl | assumption) (by rfl) ?_; refine S_op ?_; refine W_assignPtr (by first | rfl | assumption) ?_; refine S_op ?_; refine W_assignInt (by first | rfl | assumption) ?_; refine S_nil ?_; refine CW_seq ?_; refine CW_seq ?_; refine CW_region rfl ?_; refine S_op ?_; refine W_moveInt (by first | rfl | assumption) ?_; refine S_op ?_; refine W_neqT (by first | rfl | assumption) (by first | rfl | assumption) (by first | omega | rfl) ?_; refine S_nil ?_; refine CW_true (by first | rfl | assumption) ?_; refine CW_seq ?_; refine CW_region rfl ?_; refine S_op ?_; refine W_movePtr (by first | rfl | assumption) ?_; refine S_op ?_; refine W_peqT (by first | rfl | assumption) (by first | rfl | assumption) (by first | rfl | assumption) ?_; refine S_op ?_; refine W_assignBool (by first | rfl | assumption) ?_; refine S_nil ?_; refine CW_ret ?_)
        exact ⟨_, ResW_one (v := .bool _) rfl, H, hG, rfl⟩
end Go.Proofs.Ytlkbdgfipdeloaa
