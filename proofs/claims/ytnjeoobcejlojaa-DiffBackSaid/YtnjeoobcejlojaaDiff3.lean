/- sapwoodref22.Of: the document's changes. Conditions: keys rise; sizes. -/
import Derived.Test.YtnjeoobcejlojaaDiff1
namespace Go.Proofs.Ytnjeoobcejlojaa
open Go.Proofs Go.RowKit
set_option linter.unusedVariables false
attribute [local irreducible] CW CWD SeqW OpW
set_option maxHeartbeats 8000000
def refP (a b all : List Ent) (i : Nat) : List Chg := (((all.take i).map Ent.key).filter (differs a b)).map (chgOf a b)
theorem refP_succ {a b all : List Ent} {i : Nat} (h : i < all.length) : refP a b all (i + 1) = refP a b all i ++ (if differs a b (ent all i).key = true then [chgOf a b (ent all i).key] else []) := by
  have e : all[i] = ent all i := by simp [ent, h]
  unfold refP
  rw [take_succ' h, e, List.map_append, List.filter_append, List.map_append]
  congr 1
  by_cases hd : differs a b (ent all i).key = true <;> simp [hd]
theorem refP_yes {a b all : List Ent} {i : Nat} (h : i < all.length) (hd : differs a b (ent all i).key = true) : chgs (refP a b all (i + 1)) = chgs (refP a b all i) ++ chgC (chgOf a b (ent all i).key) ∧ (refP a b all (i + 1)).length = (refP a b all i).length + 1 := by
  rw [refP_succ h, if_pos hd, chgs_append]; simp [chgs]
theorem refP_no {a b all : List Ent} {i : Nat} (h : i < all.length) (hd : differs a b (ent all i).key = false) : refP a b all (i + 1) = refP a b all i := by
  rw [refP_succ h, if_neg (by simp [hd]), List.append_nil]
theorem refP_le (a b all : List Ent) (i : Nat) : (refP a b all i).length ≤ i := by
  unfold refP
  rw [List.length_map]
  refine Nat.le_trans (List.length_filter_le _ _) ?_
  simp; omega
theorem allL_succ {a b : List Ent} {i : Nat} (h : i < a.length) : allL (a.take (i + 1)) b = allStep (allL (a.take i) b) (ent a i) := by
  have e : a[i] = ent a i := by simp [ent, h]
  unfold allL
  rw [take_succ' h, e, List.foldl_append]; rfl
theorem rOf_c (H0 : HF) (A B : Option Addr) (c d : Nat) (a b : List Ent) (hla : EntsAt H0 A a) (hlb : EntsAt H0 B b) (ra : riseB a = true) (rb : riseB b = true) (hd : b.length ≤ d) (ba : a.length ≤ 400000) (bb : b.length ≤ 400000) :
    Fn Try.prog 23 [.slice A a.length c, .slice B b.length d] H0 fun v H' => IsNew H0 28 5 v (refL a b (allL a b)).length (chgs (refL a b (allL a b))) H' := by
  refine Fn_of_CW Try.func23 rfl Try.ntmps23 Try.results23 rfl fun w0 hS => ?_; have hG := Grow.refl hS
  (refine CW_seq ?_; refine CW_region rfl ?_; refine S_op ?_; refine W_assignSl (by first | rfl | assumption) ?_; refine S_nil ?_; refine CW_seq ?_; refine CW_region rfl ?_; refine S_op ?_; refine W_moveSl (by first | rfl | assumption) ?_; refine S_op ?_; refine W_assignSl (by first | rfl | assumption) ?_; refine S_nil ?_; refine CW_seq ?_; refine CW_seq ?_; refine CW_region rfl ?_; refine S_op ?_; refine W_moveSl (by first | rfl | assumption) ?_; refine S_op ?_; refine W_len (by first | rfl | assumption) ?_; refine S_op ?_; refine W_moveInt (by first | rfl | assumption) ?_; refine S_nil ?_; refine CW_block ?_)
  refine CW_loopM [5, 6, 7, 8, 19, 20, 21, 22, 23, 24, 25, 26, 27, 28, 29, 30, 31, 32, 33, 34, 35, 36, 37, 38, 39, 40]
    (fun m u w2 => ∃ (i : Nat) (all : List Ent) (A5 : Option Addr) (c5 : Nat) (H2 : HF), u 19 = .int .i64 (i : Int) ∧ u 5 = .slice A5 all.length c5 ∧ all.length ≤ c5 ∧ Grow H0 w0 H2 w2 ∧ EntsAt H2 A5 all ∧ all = allL (a.take i) b ∧ riseB all = true ∧ all.length ≤ b.length + i ∧ i ≤ a.length ∧ a.length - i ≤ m)
    (m := a.length) ⟨0, b, B, d, H0, rfl, rfl, hd, hG, hlb, by simp [allL], rb, by omega, by omega, by omega⟩ ?_
  rintro m u w ⟨i, all, A5, c5, H, h19, h5, hc5, hG, hall, hae, hra, hal, hi, hm⟩
  have hS := hG.sub
  replace hla := hla.mono hG.le
  replace hlb := hlb.mono hG.le
  by_cases hlt : i < a.length
  · obtain ⟨b1, o1, hA1, hr1⟩ := hla.some hlt
    have hsu := allL_succ (b := b) hlt
    rw [← hae] at hsu
    unfold allStep at hsu
    (refine CW_seq ?_; refine CW_region rfl ?_; refine S_op ?_; refine W_lssT (by first | rfl | assumption) (by first | rfl | assumption) (by first | omega | rfl) ?_; refine S_nil ?_; refine CW_seq ?_; refine CW_true (by first | rfl | assumption) ?_; refine CW_skip ?_; refine CW_seq ?_; refine CW_block ?_; refine CW_seq ?_; refine CW_region rfl ?_; refine S_op ?_; refine W_moveInt (by first | rfl | assumption) ?_; refine S_op ?_; refine W_assignInt (by first | rfl | assumption) ?_; refine S_nil ?_; refine CW_seq ?_; refine CW_region rfl ?_; refine S_op ?_; refine W_moveSl (by first | rfl | assumption) ?_; refine S_op ?_; refine W_moveSl (by first | rfl | assumption) ?_; refine S_op ?_; refine W_moveInt (by first | rfl | assumption) ?_; refine S_op ?_; refine W_index (by first | rfl | assumption) (by first | rfl | assumption) (by first | assumption | omega | decide) (by first | rfl | assumption) ?_; refine S_op ?_; refine W_field (by first | rfl | assumption) ?_; refine S_op ?_; refine W_loadKey (by first | rfl | assumption) (by assumption) (by first | assumption | omega) (by assumption) ?_)
    (refine S_op ?_; refine W_call hS (by rfl) (rGet_c H A5 c5 all (ent a i).key hall hra (by omega)) ?_); rintro v H w hG' rfl; replace hG := hG.trans hG'; replace hS := hG'.sub; replace hla := hla.mono hG'.le; replace hlb := hlb.mono hG'.le; replace hall := hall.mono hG'.le; clear hG'
    cases hb : lookB all (ent a i).key with
    | true =>
      rw [if_pos hb] at hsu
      (refine S_op ?_; refine W_moveTup (by first | rfl | assumption) ?_; refine S_op ?_; refine W_extract (by first | rfl | assumption) (by rfl) ?_; refine S_op ?_; refine W_extract (by first | rfl | assumption) (by rfl) ?_; refine S_op ?_; refine W_assignStr (by first | rfl | assumption) ?_; refine S_op ?_; refine W_assignBool (by first | rfl | assumption) ?_; refine S_nil ?_; refine CW_seq ?_; refine CW_region rfl ?_; refine S_op ?_; refine W_moveBool (by first | rfl | assumption) ?_; refine S_op ?_; refine W_not (by first | rfl | assumption) ?_; refine S_nil ?_; refine CW_false (by first | rfl | assumption) ?_; refine CW_skip ?_; refine CW_region rfl ?_; refine S_op ?_; refine W_add1 (by first | rfl | assumption) (by omega) ?_; refine S_op ?_; refine W_moveInt (by first | rfl | assumption) ?_; refine S_nil ?_)
      exact ⟨(by repeat (first | exact AgreeOff.over | refine AgreeOff.upd rfl ?_ | refine AgreeOff.over2 rfl ?_)), m - 1, by omega, i + 1, all, A5, c5, H, rfl, h5, hc5, hG, hall, hsu.symm, hra, by omega, by omega, by omega⟩
    | false =>
      rw [if_neg (by simp [hb])] at hsu
      obtain ⟨b1, o1, hA1, hr1⟩ := hla.some hlt
      have hwl := withL_length_le all (ent a i)
      (refine S_op ?_; refine W_moveTup (by first | rfl | assumption) ?_; refine S_op ?_; refine W_extract (by first | rfl | assumption) (by rfl) ?_; refine S_op ?_; refine W_extract (by first | rfl | assumption) (by rfl) ?_; refine S_op ?_; refine W_assignStr (by first | rfl | assumption) ?_; refine S_op ?_; refine W_assignBool (by first | rfl | assumption) ?_; refine S_nil ?_; refine CW_seq ?_; refine CW_region rfl ?_; refine S_op ?_; refine W_moveBool (by first | rfl | assumption) ?_; refine S_op ?_; refine W_not (by first | rfl | assumption) ?_; refine S_nil ?_; refine CW_true (by first | rfl | assumption) ?_; refine CW_region rfl ?_; refine S_op ?_; refine W_moveSl (by first | rfl | assumption) ?_; refine S_op ?_; refine W_moveSl (by first | rfl | assumption) ?_; refine S_op ?_; refine W_moveInt (by first | rfl | assumption) ?_; refine S_op ?_; refine W_index (by first | rfl | assumption) (by first | rfl | assumption) (by first | assumption | omega | decide) (by first | rfl | assumption) ?_; refine S_op ?_; refine W_loadEnt (by first | rfl | assumption) (by assumption) (by first | assumption | omega) (by assumption) ?_)
      (refine S_op ?_; refine W_call hS (by rfl) (rWith_c H A5 c5 all (ent a i) hall (by omega)) ?_); rintro v H w hG' hv; replace hG := hG.trans hG'; replace hS := hG'.sub; replace hla := hla.mono hG'.le; replace hlb := hlb.mono hG'.le; clear hG'
      rw [rWith_eq hra] at hv
      obtain ⟨A6, c6, rfl, h6, hall2⟩ := hv
      (refine S_op ?_; refine W_assignSl (by first | rfl | assumption) ?_; refine S_nil ?_; refine CW_region rfl ?_; refine S_op ?_; refine W_add1 (by first | rfl | assumption) (by omega) ?_; refine S_op ?_; refine W_moveInt (by first | rfl | assumption) ?_; refine S_nil ?_)
      exact ⟨(by repeat (first | exact AgreeOff.over | refine AgreeOff.upd rfl ?_ | refine AgreeOff.over2 rfl ?_)), m - 1, by omega, i + 1, withL all (ent a i), A6, c6, H, rfl, rfl, h6, hG, hall2, hsu.symm, rise_withL _ hra, by omega, by omega, by omega⟩
  · have hin : i = a.length := by omega
    subst hin
    rw [List.take_length] at hae
    (refine CW_seq ?_; refine CW_region rfl ?_; refine S_op ?_; refine W_lssF (by first | rfl | assumption) (by first | rfl | assumption) (by first | omega | rfl) ?_; refine S_nil ?_; refine CW_seq ?_; refine CW_false (by first | rfl | assumption) ?_; refine CW_exit ?_; refine CW_seq ?_; refine CW_region rfl ?_; refine S_op ?_; refine W_assignSl (by first | rfl | assumption) ?_; refine S_nil ?_; refine CW_seq ?_; refine CW_seq ?_; refine CW_region rfl ?_; refine S_op ?_; refine W_moveSl (by first | rfl | assumption) ?_; refine S_op ?_; refine W_len (by first | rfl | assumption) ?_; refine S_op ?_; refine W_moveInt (by first | rfl | assumption) ?_; refine S_nil ?_; refine CW_block ?_)
    refine CW_loopM [9, 10, 11, 12, 13, 14, 15, 43, 44, 45, 46, 47, 48, 49, 50, 51, 52, 53, 54, 55, 56, 57, 58, 59, 60, 61, 62, 63, 64, 65, 66, 67, 68, 69, 70, 71, 72, 73, 74, 75, 76, 77, 78, 79, 80]
      (fun m u w2 => ∃ (i k : Nat) (A9 : Option Addr) (c9 : Nat) (H2 : HF), u 43 = .int .i64 (i : Int) ∧ u 9 = .slice A9 k c9 ∧ Grow H0 w0 H2 w2 ∧ Own H2 w2 w0.heap.size 28 5 A9 k c9 (chgs (refP a b all i)) ∧ k = (refP a b all i).length ∧ i ≤ all.length ∧ all.length - i ≤ m ∧ EntsAt H2 A a ∧ EntsAt H2 B b ∧ EntsAt H2 A5 all)
      (m := all.length) ⟨0, 0, none, 0, H, rfl, rfl, hG, Own.nil _ _ _ _ _, by simp [refP], by omega, by omega, hla, hlb, hall⟩ ?_
    clear hla hlb hall
    rintro m u w ⟨i, k, A9, c9, H2, h43, h9, hG, hown, hk, hi, hm, hla, hlb, hall⟩
    have hS := hG.sub
    have hkl := refP_le a b all i
    by_cases hlt : i < all.length
    · obtain ⟨b1, o1, hA1, hr1⟩ := hall.some hlt
      (refine CW_seq ?_; refine CW_region rfl ?_; refine S_op ?_; refine W_lssT (by first | rfl | assumption) (by first | rfl | assumption) (by first | omega | rfl) ?_; refine S_nil ?_; refine CW_seq ?_; refine CW_true (by first | rfl | assumption) ?_; refine CW_skip ?_; refine CW_seq ?_; refine CW_block ?_; refine CW_seq ?_; refine CW_region rfl ?_; refine S_op ?_; refine W_moveInt (by first | rfl | assumption) ?_; refine S_op ?_; refine W_assignInt (by first | rfl | assumption) ?_; refine S_nil ?_; refine CW_seq ?_; refine CW_region rfl ?_; refine S_op ?_; refine W_moveSl (by first | rfl | assumption) ?_; refine S_op ?_; refine W_moveInt (by first | rfl | assumption) ?_; refine S_op ?_; refine W_index (by first | rfl | assumption) (by first | rfl | assumption) (by first | assumption | omega | decide) (by first | rfl | assumption) ?_; refine S_op ?_; refine W_field (by first | rfl | assumption) ?_; refine S_op ?_; refine W_loadKey (by first | rfl | assumption) (by assumption) (by first | assumption | omega) (by assumption) ?_; refine S_op ?_; refine W_assignStr (by first | rfl | assumption) ?_; refine S_nil ?_; refine CW_seq ?_; refine CW_region rfl ?_; refine S_op ?_; refine W_moveSl (by first | rfl | assumption) ?_; refine S_op ?_; refine W_moveStr (by first | rfl | assumption) ?_)
      (refine S_op ?_; refine W_call hS (by rfl) (rGet_c H2 A c a (ent all i).key hla ra (by omega)) ?_); rintro v H w hG' rfl; replace hG := hG.trans hG'; replace hS := hG'.sub; replace hla := hla.mono hG'.le; replace hlb := hlb.mono hG'.le; replace hall := hall.mono hG'.le; replace hown := hown.grow hG'; clear hG'
      (refine S_op ?_; refine W_moveTup (by first | rfl | assumption) ?_; refine S_op ?_; refine W_extract (by first | rfl | assumption) (by rfl) ?_; refine S_op ?_; refine W_extract (by first | rfl | assumption) (by rfl) ?_; refine S_op ?_; refine W_assignStr (by first | rfl | assumption) ?_; refine S_op ?_; refine W_assignBool (by first | rfl | assumption) ?_; refine S_nil ?_; refine CW_seq ?_; refine CW_region rfl ?_; refine S_op ?_; refine W_moveSl (by first | rfl | assumption) ?_; refine S_op ?_; refine W_moveStr (by first | rfl | assumption) ?_)
      (refine S_op ?_; refine W_call hS (by rfl) (rGet_c H B d b (ent all i).key hlb rb (by omega)) ?_); rintro v H w hG' rfl; replace hG := hG.trans hG'; replace hS := hG'.sub; replace hla := hla.mono hG'.le; replace hlb := hlb.mono hG'.le; replace hall := hall.mono hG'.le; replace hown := hown.grow hG'; clear hG'
      cases hwa : lookB a (ent all i).key with
      | false =>
        cases hwb : lookB b (ent all i).key with
        | false =>
          by_cases hv : lookV a (ent all i).key = lookV b (ent all i).key
          · have hd : differs a b (ent all i).key = false := by simp [differs, hwa, hwb, hv]
            (refine S_op ?_; refine W_moveTup (by first | rfl | assumption) ?_; refine S_op ?_; refine W_extract (by first | rfl | assumption) (by rfl) ?_; refine S_op ?_; refine W_extract (by first | rfl | assumption) (by rfl) ?_; refine S_op ?_; refine W_assignStr (by first | rfl | assumption) ?_; refine S_op ?_; refine W_assignBool (by first | rfl | assumption) ?_; refine S_nil ?_; refine CW_seq ?_; refine CW_region rfl ?_; refine S_op ?_; refine W_moveBool (by first | rfl | assumption) ?_; refine S_op ?_; refine W_moveBool (by first | rfl | assumption) ?_; refine S_op ?_; refine W_bneqF (by first | rfl | assumption) (by first | rfl | assumption) (by first | rfl | assumption) ?_; refine S_op ?_; refine W_moveBool (by first | rfl | assumption) ?_; refine S_want (by rfl) ?_; refine W_moveStr (by first | rfl | assumption) ?_; refine S_want (by rfl) ?_; refine W_moveStr (by first | rfl | assumption) ?_; refine S_want (by rfl) ?_; refine W_sneqF (by first | rfl | assumption) (by first | rfl | assumption) (by first | assumption | rfl) ?_; refine S_op ?_; refine W_pickF (by first | rfl | assumption) (by first | rfl | assumption) ?_; refine S_nil ?_; refine CW_false (by first | rfl | assumption) ?_; refine CW_skip ?_; refine CW_region rfl ?_; refine S_op ?_; refine W_add1 (by first | rfl | assumption) (by omega) ?_; refine S_op ?_; refine W_moveInt (by first | rfl | assumption) ?_; refine S_nil ?_)
            exact ⟨(by repeat (first | exact AgreeOff.over | refine AgreeOff.upd rfl ?_ | refine AgreeOff.over2 rfl ?_)), m - 1, by omega, i + 1, k, A9, c9, H, rfl, h9, hG, by rw [refP_no hlt hd]; exact hown, by rw [refP_no hlt hd]; exact hk, by omega, by omega, hla, hlb, hall⟩
          · have hd : differs a b (ent all i).key = true := by simp [differs, hwa, hwb, hv]
            (refine S_op ?_; refine W_moveTup (by first | rfl | assumption) ?_; refine S_op ?_; refine W_extract (by first | rfl | assumption) (by rfl) ?_; refine S_op ?_; refine W_extract (by first | rfl | assumption) (by rfl) ?_; refine S_op ?_; refine W_assignStr (by first | rfl | assumption) ?_; refine S_op ?_; refine W_assignBool (by first | rfl | assumption) ?_; refine S_nil ?_; refine CW_seq ?_; refine CW_region rfl ?_; refine S_op ?_; refine W_moveBool (by first | rfl | assumption) ?_; refine S_op ?_; refine W_moveBool (by first | rfl | assumption) ?_; refine S_op ?_; refine W_bneqF (by first | rfl | assumption) (by first | rfl | assumption) (by first | rfl | assumption) ?_; refine S_op ?_; refine W_moveBool (by first | rfl | assumption) ?_; refine S_want (by rfl) ?_; refine W_moveStr (by first | rfl | assumption) ?_; refine S_want (by rfl) ?_; refine W_moveStr (by first | rfl | assumption) ?_; refine S_want (by rfl) ?_; refine W_sneqT (by first | rfl | assumption) (by first | rfl | assumption) (by assumption) ?_; refine S_op ?_; refine W_pickF (by first | rfl | assumption) (by first | rfl | assumption) ?_; refine S_nil ?_; refine CW_true (by first | rfl | assumption) ?_; refine CW_region rfl ?_; refine S_op ?_; refine W_moveSl (by first | rfl | assumption) ?_; refine S_op ?_; refine W_moveStr (by first | rfl | assumption) ?_; refine S_op ?_; refine W_moveStr (by first | rfl | assumption) ?_; refine S_op ?_; refine W_moveStr (by first | rfl | assumption) ?_; refine S_op ?_; refine W_moveBool (by first | rfl | assumption) ?_; refine S_op ?_; refine W_moveBool (by first | rfl | assumption) ?_; refine S_op ?_; refine W_build (by rfl) ?_)
            refine S_op ?_
            refine W_build1 (sz := 5) (v := .agg (chgC (⟨(ent all i).key, lookV a (ent all i).key, lookV b (ent all i).key, false, false⟩)).toArray) hS (by omega) (by rfl) (by rfl) ?_
            intro H w bb hG' hb' _ _
            replace hG := hG.trans hG'
            replace hS := hG'.sub
            replace hla := hla.mono hG'.le
            replace hlb := hlb.mono hG'.le
            replace hall := hall.mono hG'.le
            replace hown := hown.grow hG'
            clear hG'
            refine S_op ?_
            refine W_append (news := chgC (⟨(ent all i).key, lookV a (ent all i).key, lookV b (ent all i).key, false, false⟩)) (by rfl) (by rfl) hG hown ((SlAt.of_row hb').cells hS) (by rfl) (OneCells.of_all (by rfl)) (by decide) (by omega) (by omega) ?_
            intro A2 c2 w hG hown _ hA3
            clear hA3
            replace hS := hG.sub
            rw [show chgC (⟨(ent all i).key, lookV a (ent all i).key, lookV b (ent all i).key, false, false⟩) = chgC (chgOf a b (ent all i).key) by simp [chgC, chgOf, hwa, hwb]] at hown
            obtain ⟨y1, y2⟩ := refP_yes hlt hd
            rw [← y1] at hown
            (refine S_op ?_; refine W_assignSl (by first | rfl | assumption) ?_; refine S_nil ?_; refine CW_region rfl ?_; refine S_op ?_; refine W_add1 (by first | rfl | assumption) (by omega) ?_; refine S_op ?_; refine W_moveInt (by first | rfl | assumption) ?_; refine S_nil ?_)
            exact ⟨(by repeat (first | exact AgreeOff.over | refine AgreeOff.upd rfl ?_ | refine AgreeOff.over2 rfl ?_)), m - 1, by omega, i + 1, k + 1, A2, c2, H, rfl, rfl, hG, hown, by rw [y2, hk], by omega, by omega, hla, hlb, hall⟩
        | true =>
          have hd : differs a b (ent all i).key = true := by simp [differs, hwa, hwb]
          (refine S_op ?_; refine W_moveTup (by first | rfl | assumption) ?_; refine S_op ?_; refine W_extract (by first | rfl | assumption) (by rfl) ?_; refine S_op ?_; refine W_extract (by first | rfl | assumption) (by rfl) ?_; refine S_op ?_; refine W_assignStr (by first | rfl | assumption) ?_; refine S_op ?_; refine W_assignBool (by first | rfl | assumption) ?_; refine S_nil ?_; refine CW_seq ?_; refine CW_region rfl ?_; refine S_op ?_; refine W_moveBool (by first | rfl | assumption) ?_; refine S_op ?_; refine W_moveBool (by first | rfl | assumption) ?_; refine S_op ?_; refine W_bneqT (by first | rfl | assumption) (by first | rfl | assumption) (by first | decide | assumption) ?_; refine S_op ?_; refine W_moveBool (by first | rfl | assumption) ?_; refine S_pass (by rfl) ?_; refine S_pass (by rfl) ?_; refine S_pass (by rfl) ?_; refine S_op ?_; refine W_pickT (by first | rfl | assumption) (by first | rfl | assumption) ?_; refine S_nil ?_; refine CW_true (by first | rfl | assumption) ?_; refine CW_region rfl ?_; refine S_op ?_; refine W_moveSl (by first | rfl | assumption) ?_; refine S_op ?_; refine W_moveStr (by first | rfl | assumption) ?_; refine S_op ?_; refine W_moveStr (by first | rfl | assumption) ?_; refine S_op ?_; refine W_moveStr (by first | rfl | assumption) ?_; refine S_op ?_; refine W_moveBool (by first | rfl | assumption) ?_; refine S_op ?_; refine W_moveBool (by first | rfl | assumption) ?_; refine S_op ?_; refine W_build (by rfl) ?_)
          refine S_op ?_
          refine W_build1 (sz := 5) (v := .agg (chgC (⟨(ent all i).key, lookV a (ent all i).key, lookV b (ent all i).key, false, true⟩)).toArray) hS (by omega) (by rfl) (by rfl) ?_
          intro H w bb hG' hb' _ _
          replace hG := hG.trans hG'
          replace hS := hG'.sub
          replace hla := hla.mono hG'.le
          replace hlb := hlb.mono hG'.le
          replace hall := hall.mono hG'.le
          replace hown := hown.grow hG'
          clear hG'
          refine S_op ?_
          refine W_append (news := chgC (⟨(ent all i).key, lookV a (ent all i).key, lookV b (ent all i).key, false, true⟩)) (by rfl) (by rfl) hG hown ((SlAt.of_row hb').cells hS) (by rfl) (OneCells.of_all (by rfl)) (by decide) (by omega) (by omega) ?_
          intro A2 c2 w hG hown _ hA3
          clear hA3
          replace hS := hG.sub
          rw [show chgC (⟨(ent all i).key, lookV a (ent all i).key, lookV b (ent all i).key, false, true⟩) = chgC (chgOf a b (ent all i).key) by simp [chgC, chgOf, hwa, hwb]] at hown
          obtain ⟨y1, y2⟩ := refP_yes hlt hd
          rw [← y1] at hown
          (refine S_op ?_; refine W_assignSl (by first | rfl | assumption) ?_; refine S_nil ?_; refine CW_region rfl ?_; refine S_op ?_; refine W_add1 (by first | rfl | assumption) (by omega) ?_; refine S_op ?_; refine W_moveInt (by first | rfl | assumption) ?_; refine S_nil ?_)
          exact ⟨(by repeat (first | exact AgreeOff.over | refine AgreeOff.upd rfl ?_ | refine AgreeOff.over2 rfl ?_)), m - 1, by omega, i + 1, k + 1, A2, c2, H, rfl, rfl, hG, hown, by rw [y2, hk], by omega, by omega, hla, hlb, hall⟩
      | true =>
        cases hwb : lookB b (ent all i).key with
        | true =>
          by_cases hv : lookV a (ent all i).key = lookV b (ent all i).key
          · have hd : differs a b (ent all i).key = false := by simp [differs, hwa, hwb, hv]
            (refine S_op ?_; refine W_moveTup (by first | rfl | assumption) ?_; refine S_op ?_; refine W_extract (by first | rfl | assumption) (by rfl) ?_; refine S_op ?_; refine W_extract (by first | rfl | assumption) (by rfl) ?_; refine S_op ?_; refine W_assignStr (by first | rfl | assumption) ?_; refine S_op ?_; refine W_assignBool (by first | rfl | assumption) ?_; refine S_nil ?_; refine CW_seq ?_; refine CW_region rfl ?_; refine S_op ?_; refine W_moveBool (by first | rfl | assumption) ?_; refine S_op ?_; refine W_moveBool (by first | rfl | assumption) ?_; refine S_op ?_; refine W_bneqF (by first | rfl | assumption) (by first | rfl | assumption) (by first | rfl | assumption) ?_; refine S_op ?_; refine W_moveBool (by first | rfl | assumption) ?_; refine S_want (by rfl) ?_; refine W_moveStr (by first | rfl | assumption) ?_; refine S_want (by rfl) ?_; refine W_moveStr (by first | rfl | assumption) ?_; refine S_want (by rfl) ?_; refine W_sneqF (by first | rfl | assumption) (by first | rfl | assumption) (by first | assumption | rfl) ?_; refine S_op ?_; refine W_pickF (by first | rfl | assumption) (by first | rfl | assumption) ?_; refine S_nil ?_; refine CW_false (by first | rfl | assumption) ?_; refine CW_skip ?_; refine CW_region rfl ?_; refine S_op ?_; refine W_add1 (by first | rfl | assumption) (by omega) ?_; refine S_op ?_; refine W_moveInt (by first | rfl | assumption) ?_; refine S_nil ?_)
            exact ⟨(by repeat (first | exact AgreeOff.over | refine AgreeOff.upd rfl ?_ | refine AgreeOff.over2 rfl ?_)), m - 1, by omega, i + 1, k, A9, c9, H, rfl, h9, hG, by rw [refP_no hlt hd]; exact hown, by rw [refP_no hlt hd]; exact hk, by omega, by omega, hla, hlb, hall⟩
          · have hd : differs a b (ent all i).key = true := by simp [differs, hwa, hwb, hv]
            (refine S_op ?_; refine W_moveTup (by first | rfl | assumption) ?_; refine S_op ?_; refine W_extract (by first | rfl | assumption) (by rfl) ?_; refine S_op ?_; refine W_extract (by first | rfl | assumption) (by rfl) ?_; refine S_op ?_; refine W_assignStr (by first | rfl | assumption) ?_; refine S_op ?_; refine W_assignBool (by first | rfl | assumption) ?_; refine S_nil ?_; refine CW_seq ?_; refine CW_region rfl ?_; refine S_op ?_; refine W_moveBool (by first | rfl | assumption) ?_; refine S_op ?_; refine W_moveBool (by first | rfl | assumption) ?_; refine S_op ?_; refine W_bneqF (by first | rfl | assumption) (by first | rfl | assumption) (by first | rfl | assumption) ?_; refine S_op ?_; refine W_moveBool (by first | rfl | assumption) ?_; refine S_want (by rfl) ?_; refine W_moveStr (by first | rfl | assumption) ?_; refine S_want (by rfl) ?_; refine W_moveStr (by first | rfl | assumption) ?_; refine S_want (by rfl) ?_; refine W_sneqT (by first | rfl | assumption) (by first | rfl | assumption) (by assumption) ?_; refine S_op ?_; refine W_pickF (by first | rfl | assumption) (by first | rfl | assumption) ?_; refine S_nil ?_; refine CW_true (by first | rfl | assumption) ?_; refine CW_region rfl ?_; refine S_op ?_; refine W_moveSl (by first | rfl | assumption) ?_; refine S_op ?_; refine W_moveStr (by first | rfl | assumption) ?_; refine S_op ?_; refine W_moveStr (by first | rfl | assumption) ?_; refine S_op ?_; refine W_moveStr (by first | rfl | assumption) ?_; refine S_op ?_; refine W_moveBool (by first | rfl | assumption) ?_; refine S_op ?_; refine W_moveBool (by first | rfl | assumption) ?_; refine S_op ?_; refine W_build (by rfl) ?_)
            refine S_op ?_
            refine W_build1 (sz := 5) (v := .agg (chgC (⟨(ent all i).key, lookV a (ent all i).key, lookV b (ent all i).key, true, true⟩)).toArray) hS (by omega) (by rfl) (by rfl) ?_
            intro H w bb hG' hb' _ _
            replace hG := hG.trans hG'
            replace hS := hG'.sub
            replace hla := hla.mono hG'.le
            replace hlb := hlb.mono hG'.le
            replace hall := hall.mono hG'.le
            replace hown := hown.grow hG'
            clear hG'
            refine S_op ?_
            refine W_append (news := chgC (⟨(ent all i).key, lookV a (ent all i).key, lookV b (ent all i).key, true, true⟩)) (by rfl) (by rfl) hG hown ((SlAt.of_row hb').cells hS) (by rfl) (OneCells.of_all (by rfl)) (by decide) (by omega) (by omega) ?_
            intro A2 c2 w hG hown _ hA3
            clear hA3
            replace hS := hG.sub
            rw [show chgC (⟨(ent all i).key, lookV a (ent all i).key, lookV b (ent all i).key, true, true⟩) = chgC (chgOf a b (ent all i).key) by simp [chgC, chgOf, hwa, hwb]] at hown
            obtain ⟨y1, y2⟩ := refP_yes hlt hd
            rw [← y1] at hown
            (refine S_op ?_; refine W_assignSl (by first | rfl | assumption) ?_; refine S_nil ?_; refine CW_region rfl ?_; refine S_op ?_; refine W_add1 (by first | rfl | assumption) (by omega) ?_; refine S_op ?_; refine W_moveInt (by first | rfl | assumption) ?_; refine S_nil ?_)
            exact ⟨(by repeat (first | exact AgreeOff.over | refine AgreeOff.upd rfl ?_ | refine AgreeOff.over2 rfl ?_)), m - 1, by omega, i + 1, k + 1, A2, c2, H, rfl, rfl, hG, hown, by rw [y2, hk], by omega, by omega, hla, hlb, hall⟩
        | false =>
          have hd : differs a b (ent all i).key = true := by simp [differs, hwa, hwb]
          (refine S_op ?_; refine W_moveTup (by first | rfl | assumption) ?_; refine S_op ?_; refine W_extract (by first | rfl | assumption) (by rfl) ?_; refine S_op ?_; refine W_extract (by first | rfl | assumption) (by rfl) ?_; refine S_op ?_; refine W_assignStr (by first | rfl | assumption) ?_; refine S_op ?_; refine W_assignBool (by first | rfl | assumption) ?_; refine S_nil ?_; refine CW_seq ?_; refine CW_region rfl ?_; refine S_op ?_; refine W_moveBool (by first | rfl | assumption) ?_; refine S_op ?_; refine W_moveBool (by first | rfl | assumption) ?_; refine S_op ?_; refine W_bneqT (by first | rfl | assumption) (by first | rfl | assumption) (by first | decide | assumption) ?_; refine S_op ?_; refine W_moveBool (by first | rfl | assumption) ?_; refine S_pass (by rfl) ?_; refine S_pass (by rfl) ?_; refine S_pass (by rfl) ?_; refine S_op ?_; refine W_pickT (by first | rfl | assumption) (by first | rfl | assumption) ?_; refine S_nil ?_; refine CW_true (by first | rfl | assumption) ?_; refine CW_region rfl ?_; refine S_op ?_; refine W_moveSl (by first | rfl | assumption) ?_; refine S_op ?_; refine W_moveStr (by first | rfl | assumption) ?_; refine S_op ?_; refine W_moveStr (by first | rfl | assumption) ?_; refine S_op ?_; refine W_moveStr (by first | rfl | assumption) ?_; refine S_op ?_; refine W_moveBool (by first | rfl | assumption) ?_; refine S_op ?_; refine W_moveBool (by first | rfl | assumption) ?_; refine S_op ?_; refine W_build (by rfl) ?_)
          refine S_op ?_
          refine W_build1 (sz := 5) (v := .agg (chgC (⟨(ent all i).key, lookV a (ent all i).key, lookV b (ent all i).key, true, false⟩)).toArray) hS (by omega) (by rfl) (by rfl) ?_
          intro H w bb hG' hb' _ _
          replace hG := hG.trans hG'
          replace hS := hG'.sub
          replace hla := hla.mono hG'.le
          replace hlb := hlb.mono hG'.le
          replace hall := hall.mono hG'.le
          replace hown := hown.grow hG'
          clear hG'
          refine S_op ?_
          refine W_append (news := chgC (⟨(ent all i).key, lookV a (ent all i).key, lookV b (ent all i).key, true, false⟩)) (by rfl) (by rfl) hG hown ((SlAt.of_row hb').cells hS) (by rfl) (OneCells.of_all (by rfl)) (by decide) (by omega) (by omega) ?_
          intro A2 c2 w hG hown _ hA3
          clear hA3
          replace hS := hG.sub
          rw [show chgC (⟨(ent all i).key, lookV a (ent all i).key, lookV b (ent all i).key, true, false⟩) = chgC (chgOf a b (ent all i).key) by simp [chgC, chgOf, hwa, hwb]] at hown
          obtain ⟨y1, y2⟩ := refP_yes hlt hd
          rw [← y1] at hown
          (refine S_op ?_; refine W_assignSl (by first | rfl | assumption) ?_; refine S_nil ?_; refine CW_region rfl ?_; refine S_op ?_; refine W_add1 (by first | rfl | assumption) (by omega) ?_; refine S_op ?_; refine W_moveInt (by first | rfl | assumption) ?_; refine S_nil ?_)
          exact ⟨(by repeat (first | exact AgreeOff.over | refine AgreeOff.upd rfl ?_ | refine AgreeOff.over2 rfl ?_)), m - 1, by omega, i + 1, k + 1, A2, c2, H, rfl, rfl, hG, hown, by rw [y2, hk], by omega, by omega, hla, hlb, hall⟩
    · have hin : i = all.length := by omega
      subst hin
      have e : refP a b all all.length = refL a b (allL a b) := by unfold refP refL; rw [List.take_length, hae]
      rw [e] at hown hk
      (refine CW_seq ?_; refine CW_region rfl ?_; refine S_op ?_; refine W_lssF (by first | rfl | assumption) (by first | rfl | assumption) (by first | omega | rfl) ?_; refine S_nil ?_; refine CW_seq ?_; refine CW_false (by first | rfl | assumption) ?_; refine CW_exit ?_; refine CW_seq ?_; refine CW_region rfl ?_; refine S_op ?_; refine W_moveSl (by first | rfl | assumption) ?_; refine S_op ?_; refine W_assignSl (by first | rfl | assumption) ?_; refine S_nil ?_; refine CW_ret ?_)
      obtain ⟨H3, hle3, hG3, hn⟩ := hown.freezeN hG
      exact ⟨_, ResW_one (v := .slice _ _ _) rfl, H3, hG3, by rw [← hk]; exact hn⟩
end Go.Proofs.Ytnjeoobcejlojaa
