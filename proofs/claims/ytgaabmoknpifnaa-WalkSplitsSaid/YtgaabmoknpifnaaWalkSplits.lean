/- WalkSplits, walked. Conditions: sizes. -/
import Derived.Test.YtgaabmoknpifnaaSplit
import Derived.Test.YtgaabmoknpifnaaGather
import Derived.Test.YtgaabmoknpifnaaWalkCounts
namespace Go.Proofs.Ytgaabmoknpifnaa
open Go.Proofs Go.RowKit
set_option linter.unusedVariables false
attribute [local irreducible] CW CWD SeqW OpW CallV
set_option maxHeartbeats 4000000
theorem maxB_le {a b c : ByteArray} (h : slt c a = false) (k : slt c b = false) : slt c (maxB a b) = false := by
  unfold maxB
  split
  · exact k
  · exact h
theorem sorted3 (x y z : ByteArray) : slt (maxB (minB x y) (minB (maxB x y) z)) (minB (minB x y) z) = false ∧ slt (maxB (maxB x y) z) (maxB (minB x y) (minB (maxB x y) z)) = false := by
  have hm : slt (maxB (maxB x y) z) (maxB x y) = false := maxB_ge_left _ _
  exact ⟨sle_trans (minB_le_left _ _) (maxB_ge_left _ _), maxB_le (sle_trans (minB_le_left _ _) (sle_trans (maxB_ge_left _ _) hm)) (sle_trans (minB_le_left _ _) hm)⟩
theorem walkSplits_c (H : HF) (A : Option Addr) (c : Nat) (l : List Ent) (k k2 k3 : ByteArray) (hl : EntsAt H A l) (hb : l.length ≤ 100000000000000) (hs : ∀ e ∈ l, e.key.size ≤ 150000000000000 ∧ e.val.size ≤ 150000000000000) (hk : k.size ≤ 150000000000000) (hk2 : k2.size ≤ 150000000000000) (hk3 : k3.size ≤ 150000000000000) :
    Fn Try.prog 6 [.slice A l.length c, .string k, .string k2, .string k3] H fun v _ => v = .bool true := by
  obtain ⟨H0, rfl⟩ : ∃ H0, H0 = H := ⟨_, rfl⟩
  refine Fn_of_CWD Try.func6 rfl Try.ntmps6 Try.results6 rfl fun w0 hS => ?_; have hS0 := hS; have hG := Grow.refl hS
  (refine CWD_seq ?_; refine CWD_region rfl ?_; refine S_op ?_; refine W_assignBool (by first | rfl | assumption) ?_; refine S_nil ?_; refine CWD_seq ?_; refine CWD_seq ?_; refine CWD_region rfl ?_)
  (refine S_op ?_; refine W_call hS (by rfl) (awake11_c H0) ?_); rintro v H w hG' rfl; replace hG := hG.trans hG'; replace hS := hG'.sub; replace hl := hl.mono hG'.le; clear hG'
  by_cases hbig : 4000 < k.size + k2.size + k3.size
  · (refine S_op ?_; refine W_not (by first | rfl | assumption) ?_; refine S_op ?_; refine W_moveBool (by first | rfl | assumption) ?_; refine S_want (by rfl) ?_; refine W_moveStr (by first | rfl | assumption) ?_; refine S_want (by rfl) ?_; refine W_lenS (by first | rfl | assumption) ?_; refine S_want (by rfl) ?_; refine W_moveStr (by first | rfl | assumption) ?_; refine S_want (by rfl) ?_; refine W_lenS (by first | rfl | assumption) ?_; refine S_want (by rfl) ?_; refine W_addN (by first | rfl | assumption) (by first | rfl | assumption) (by omega) ?_; refine S_want (by rfl) ?_; refine W_moveStr (by first | rfl | assumption) ?_; refine S_want (by rfl) ?_; refine W_lenS (by first | rfl | assumption) ?_; refine S_want (by rfl) ?_; refine W_addN (by first | rfl | assumption) (by first | rfl | assumption) (by omega) ?_; refine S_want (by rfl) ?_; refine W_gtrT (by first | rfl | assumption) (by first | rfl | assumption) (by first | omega | rfl) ?_; refine S_op ?_; refine W_pickF (by first | rfl | assumption) (by first | rfl | assumption) ?_; refine S_nil ?_; refine CWD_true (by first | rfl | assumption) ?_; refine CWD_seq ?_; refine CWD_region rfl ?_)
    (refine S_op ?_; refine W_call hS (by rfl) (awake11_c H) ?_); rintro v H w hG' rfl; replace hG := hG.trans hG'; replace hS := hG'.sub; clear hG'
    (refine S_op ?_; refine W_assignBool (by first | rfl | assumption) ?_; refine S_nil ?_; refine CWD_ret ?_)
    exact FinD_nil ⟨_, ResW_one (v := .bool _) rfl, H, hG, rfl⟩
  (refine S_op ?_; refine W_not (by first | rfl | assumption) ?_; refine S_op ?_; refine W_moveBool (by first | rfl | assumption) ?_; refine S_want (by rfl) ?_; refine W_moveStr (by first | rfl | assumption) ?_; refine S_want (by rfl) ?_; refine W_lenS (by first | rfl | assumption) ?_; refine S_want (by rfl) ?_; refine W_moveStr (by first | rfl | assumption) ?_; refine S_want (by rfl) ?_; refine W_lenS (by first | rfl | assumption) ?_; refine S_want (by rfl) ?_; refine W_addN (by first | rfl | assumption) (by first | rfl | assumption) (by omega) ?_; refine S_want (by rfl) ?_; refine W_moveStr (by first | rfl | assumption) ?_; refine S_want (by rfl) ?_; refine W_lenS (by first | rfl | assumption) ?_; refine S_want (by rfl) ?_; refine W_addN (by first | rfl | assumption) (by first | rfl | assumption) (by omega) ?_; refine S_want (by rfl) ?_; refine W_gtrF (by first | rfl | assumption) (by first | rfl | assumption) (by first | omega | rfl) ?_; refine S_op ?_; refine W_pickF (by first | rfl | assumption) (by first | rfl | assumption) ?_; refine S_nil ?_; refine CWD_false (by first | rfl | assumption) ?_; refine CWD_skip ?_; refine CWD_seq ?_; refine CWD_region rfl ?_; refine S_op ?_; refine W_moveSl (by first | rfl | assumption) ?_)
  (refine S_op ?_; refine W_call hS (by rfl) (built11_c H A c l hl hb hs) ?_); rintro v H w hG' ⟨t, s, z, rfl, hz, hz0⟩; replace hG := hG.trans hG'; replace hS := hG'.sub; replace hl := hl.mono hG'.le; clear hG'
  cases z with
  | false =>
    obtain ⟨rfl, rfl⟩ := hz0 rfl
    (refine S_op ?_; refine W_moveTup (by first | rfl | assumption) ?_; refine S_op ?_; refine W_extract (by first | rfl | assumption) (by rfl) ?_; refine S_op ?_; refine W_extract (by first | rfl | assumption) (by rfl) ?_; refine S_op ?_; refine W_extract (by first | rfl | assumption) (by rfl) ?_; refine S_op ?_; refine W_assignPtr (by first | rfl | assumption) ?_; refine S_op ?_; refine W_assignSl (by first | rfl | assumption) ?_; refine S_op ?_; refine W_assignBool (by first | rfl | assumption) ?_; refine S_nil ?_; refine CWD_seq ?_; refine CWD_seq ?_; refine CWD_region rfl ?_; refine S_op ?_; refine W_moveBool (by first | rfl | assumption) ?_; refine S_op ?_; refine W_not (by first | rfl | assumption) ?_; refine S_nil ?_; refine CWD_true (by first | rfl | assumption) ?_; refine CWD_seq ?_; refine CWD_region rfl ?_; refine S_op ?_; refine W_assignBool (by first | rfl | assumption) ?_; refine S_nil ?_; refine CWD_ret ?_)
    exact FinD_nil ⟨_, ResW_one (v := .bool _) rfl, H, hG, rfl⟩
  | true =>
    obtain ⟨ht, ⟨A2, c2, rfl, hc2, hl2⟩, h150⟩ := hz rfl
    clear hz hz0 hl
    (refine S_op ?_; refine W_moveTup (by first | rfl | assumption) ?_; refine S_op ?_; refine W_extract (by first | rfl | assumption) (by rfl) ?_; refine S_op ?_; refine W_extract (by first | rfl | assumption) (by rfl) ?_; refine S_op ?_; refine W_extract (by first | rfl | assumption) (by rfl) ?_; refine S_op ?_; refine W_assignPtr (by first | rfl | assumption) ?_; refine S_op ?_; refine W_assignSl (by first | rfl | assumption) ?_; refine S_op ?_; refine W_assignBool (by first | rfl | assumption) ?_; refine S_nil ?_; refine CWD_seq ?_; refine CWD_seq ?_; refine CWD_region rfl ?_; refine S_op ?_; refine W_moveBool (by first | rfl | assumption) ?_; refine S_op ?_; refine W_not (by first | rfl | assumption) ?_; refine S_nil ?_; refine CWD_false (by first | rfl | assumption) ?_; refine CWD_skip ?_; refine CWD_seq ?_; refine CWD_region rfl ?_)
    (refine S_op (W_alloc hS ?_)); intro w c12b hG' c12h c12; replace c12h := Nat.le_trans hG.below.size (Nat.le_of_eq c12h); replace hG := hG.trans hG'; replace hS := hG'.sub; clear hG'
    skip
    (refine S_op0 (W_storeM (o := 0) (vs := [.int .i64 0]) (by rfl) (by rfl) c12 (by rfl) (OneCells.of_all (by rfl)) (by rfl) (Nat.le_of_ble_eq_true (by rfl)) ?_)); intro w hgb' hm'; replace hG := hG.grownBy hgb' (fun g h => by cases h; exact ⟨c12.out, c12h⟩); replace hS := hG.sub; replace c12 : Mut _ w c12b ([.int .i64 0]) := hm'; clear hm'; clear hgb'
    (refine S_nil ?_; refine CWD_seq ?_; refine CWD_seq ?_; refine CWD_region rfl ?_; refine S_op ?_; refine W_movePtr (by first | rfl | assumption) ?_; refine S_op ?_; refine W_moveStr (by first | rfl | assumption) ?_)
    (refine S_op ?_; refine W_call hS (by rfl) (from_c H t k ht.at_) ?_); rintro v H w hG' hv; replace hG := hG.trans hG'; replace hS := hG'.sub; replace ht := ht.mono hG'.le; replace hl2 := hl2.mono hG'.le; replace c12 := c12.grow hG'; clear hG'
    obtain ⟨gf, lb, hfc, rfl, hit⟩ := hv
    have hfl : (fromL k t.items).length ≤ 150 := Nat.le_trans (List.length_filter_le _ _) h150
    have htl : (toL k t.items).length ≤ 150 := by
      simp only [toL, downL, List.length_reverse]
      exact Nat.le_trans (List.length_filter_le _ _) h150
    (refine S_nil ?_; refine CWD_block ?_)
    refine CWD_range (S := fun _ => False) (Hold H0 w0 [c12b] (fun pre H2 w2 => HLe H H2 ∧ Mut H2 w2 c12b [.int .i64 (pre.length : Nat)])) neverI
      (Hold.good ?_) neverI.stable ⟨hG, fun _ h => h.elim, ?_, HLe.refl _, c12⟩ rfl hS (fun _ => rfl) (by decide) (fun w1 _ => hit H w1 (HLe.refl _)) (fun _ h => h.elim) ?_ ?_ ?_ ?_
    · rintro S pre H w H' w' hs hT ⟨h1, h2⟩
      exact ⟨h1.trans hT.le, h2.turn hT (hs _ (by simp))⟩
    · intro b hb
      simp at hb; subst hb
      exact ⟨fun h => h, c12.lt⟩
    · intro l x W
      (refine CW_skip ?_)
      refine ⟨rfl, ?_⟩
      clear c12 hG hS
      intro l X pre rest H W hx hS ⟨hGw, hXs, hbs, hle, c12⟩ _
      have hpl : pre.length < 1000000 := by have := congrArg List.length hx; simp at this; omega
      have hG := hGw
      have hS' := hS
      (refine CW_block ?_; refine CW_region rfl ?_; refine S_op ?_; refine W_loadM (by first | rfl | assumption) (by assumption) (by rfl) ?_; refine S_op ?_; refine W_add1 (by first | rfl | assumption) (by omega) ?_)
      (refine S_op0 (W_storeM (o := 0) (vs := [.int .i64 ((pre.length + 1 : Nat) : Int)]) (by rfl) (by rfl) c12 (by rfl) (OneCells.of_all (by rfl)) (by rfl) (Nat.le_of_ble_eq_true (by rfl)) ?_)); intro w hgb' hm'; replace hG := hG.grownBy hgb' (fun g h => by cases h; exact ⟨c12.out, c12h⟩); replace hS := hG.sub; replace c12 : Mut _ w c12b ([.int .i64 ((pre.length + 1 : Nat) : Int)]) := hm'; clear hm'; skip
      have hT : Turn (notIn X) H W H w := (Turn.refl hS').grownBy hgb' (fun g h => by cases h; exact ⟨c12.out, .inr (hbs c12b (by simp)).1⟩)
      (refine S_nil ?_)
      exact ⟨H, hT, hG, fun j hj => ⟨(hXs j hj).1, Nat.lt_of_lt_of_le (hXs j hj).2 hT.size⟩, fun b hb => ⟨(hbs b hb).1, Nat.lt_of_lt_of_le (hbs b hb).2 hT.size⟩, hle, by rw [List.length_append]; exact c12⟩
    · clear c12 hG hS
      rintro D X H w hD hM hS hle' hXs hXD ⟨hG, hXs2, hbs, hle, c12⟩
      have hDX := hXs2 D hXD
      have h12 := hM.ne c12
      replace ht := ht.mono hle
      replace hl2 := hl2.mono hle
      clear hit hle hle' hbs hXs
      (refine CWD_seq ?_; refine CWD_seq ?_; refine CWD_region rfl ?_; refine S_op ?_; refine W_movePtr (by first | rfl | assumption) ?_; refine S_op ?_; refine W_moveStr (by first | rfl | assumption) ?_)
      (refine S_op ?_; refine W_call hS (by rfl) (backFrom_c H t k ht.at_) ?_); rintro v H w hG' hv; replace hG := hG.trans hG'; replace hS := hG'.sub; replace ht := ht.mono hG'.le; replace hl2 := hl2.mono hG'.le; replace c12 := c12.grow hG'; replace hM := hM.grow hG'; clear hG'
      obtain ⟨gf2, lb2, hfc2, rfl, hit2⟩ := hv
      (refine S_nil ?_; refine CWD_block ?_)
      refine CWD_range (S := fun _ => False) (Hold H0 w0 [c12b, D] (fun pre H2 w2 => HLe H H2 ∧ Mut H2 w2 c12b [.int .i64 (((fromL k t.items).length + pre.length : Nat) : Int)] ∧ MarkAt H2 w2 D)) neverI
        (Hold.good ?_) neverI.stable ⟨hG, fun _ h => h.elim, ?_, HLe.refl _, c12, hM⟩ rfl hS (fun _ => rfl) (by decide) (fun w1 _ => hit2 H w1 (HLe.refl _)) (fun _ h => h.elim) ?_ ?_ ?_ ?_
      · rintro S pre H w H' w' hs hT ⟨h1, h2, h3⟩
        exact ⟨h1.trans hT.le, h2.turn hT (hs _ (by simp)), h3.turn hT (hs _ (by simp))⟩
      · intro b hb
        simp at hb
        rcases hb with rfl | rfl
        · exact ⟨fun h => h, c12.lt⟩
        · exact ⟨fun h => h, hM.lt⟩
      · intro l x W
        (refine CW_skip ?_)
        refine ⟨rfl, ?_⟩
        clear c12 hM hG hS
        rintro l X pre rest H W hx hS ⟨hGw, hXs, hbs, hle, c12, hM⟩ _
        have hpl : pre.length < 1000000 := by have := congrArg List.length hx; simp at this; omega
        have hG := hGw
        have hS' := hS
        (refine CW_block ?_; refine CW_region rfl ?_; refine S_op ?_; refine W_loadM (by first | rfl | assumption) (by assumption) (by rfl) ?_; refine S_op ?_; refine W_add1 (by first | rfl | assumption) (by omega) ?_)
        (refine S_op0 (W_storeM (o := 0) (vs := [.int .i64 (((fromL k t.items).length + pre.length + 1 : Nat) : Int)]) (by rfl) (by rfl) c12 (by rfl) (OneCells.of_all (by rfl)) (by rfl) (Nat.le_of_ble_eq_true (by rfl)) ?_)); intro w hgb' hm'; replace hG := hG.grownBy hgb' (fun g h => by cases h; exact ⟨c12.out, c12h⟩); replace hS := hG.sub; replace c12 : Mut _ w c12b ([.int .i64 (((fromL k t.items).length + pre.length + 1 : Nat) : Int)]) := hm'; clear hm'; skip
        have hT : Turn (notIn X) H W H w := (Turn.refl hS').grownBy hgb' (fun g h => by cases h; exact ⟨c12.out, .inr (hbs c12b (by simp)).1⟩)
        replace hM := hM.other hgb' (fun e => h12 (Option.some.inj e))
        (refine S_nil ?_)
        exact ⟨H, hT, hG, fun j hj => ⟨(hXs j hj).1, Nat.lt_of_lt_of_le (hXs j hj).2 hT.size⟩, fun b hb => ⟨(hbs b hb).1, Nat.lt_of_lt_of_le (hbs b hb).2 hT.size⟩, hle, by rw [List.length_append]; exact c12, hM⟩
      · clear c12 hM hG hS
        rintro E X H w hE hN hS hle' hXs hXE ⟨hG, hXs3, hbs, hle, c12, hM⟩
        have hEX := hXs3 E hXE
        have hne : E ≠ D := fun e => (hbs D (by simp)).1 (by rw [← e]; exact hXE)
        replace ht := ht.mono hle
        replace hl2 := hl2.mono hle
        have hbw := both_ways (k := k) ht.rise
        clear hit2 hle hle' hbs hXs
        (refine CWD_seq ?_; refine CWD_region rfl ?_; refine S_op ?_; refine W_moveSl (by first | rfl | assumption) ?_; refine S_op ?_; refine W_len (by first | rfl | assumption) ?_; refine S_op ?_; refine W_assignInt (by first | rfl | assumption) ?_; refine S_nil ?_; refine CWD_seq ?_; refine CWD_region rfl ?_; refine S_op ?_; refine W_moveSl (by first | rfl | assumption) ?_; refine S_op ?_; refine W_moveStr (by first | rfl | assumption) ?_)
        (refine S_op ?_; refine W_call hS (by rfl) (rGet_c H A2 c2 t.items k hl2 ht.rise (by omega)) ?_); rintro v H w hG' rfl; replace hG := hG.trans hG'; replace hS := hG'.sub; replace ht := ht.mono hG'.le; replace hl2 := hl2.mono hG'.le; replace c12 := c12.grow hG'; replace hM := hM.grow hG'; replace hN := hN.grow hG'; clear hG'
        cases hlk : lookB t.items k with
        | true =>
          rw [hlk] at hbw
          simp only [if_true] at hbw
          rw [hbw] at c12
          (refine S_op ?_; refine W_moveTup (by first | rfl | assumption) ?_; refine S_op ?_; refine W_extract (by first | rfl | assumption) (by rfl) ?_; refine S_op ?_; refine W_extract (by first | rfl | assumption) (by rfl) ?_; refine S_op ?_; refine W_assignStr (by first | rfl | assumption) ?_; refine S_op ?_; refine W_assignBool (by first | rfl | assumption) ?_; refine S_nil ?_; refine CWD_seq ?_; refine CWD_seq ?_; refine CWD_region rfl ?_; refine S_op ?_; refine W_moveBool (by first | rfl | assumption) ?_; refine S_nil ?_; refine CWD_true (by first | rfl | assumption) ?_; refine CWD_region rfl ?_; refine S_op ?_; refine W_moveInt (by first | rfl | assumption) ?_; refine S_op ?_; refine W_add1 (by first | rfl | assumption) (by omega) ?_; refine S_op ?_; refine W_assignInt (by first | rfl | assumption) ?_; refine S_nil ?_; refine CWD_seq ?_; refine CWD_region rfl ?_; refine S_op ?_; refine W_moveStr (by first | rfl | assumption) ?_; refine S_op ?_; refine W_moveStr (by first | rfl | assumption) ?_; refine S_op ?_; refine W_moveStr (by first | rfl | assumption) ?_)
          refine S_op (W_smin3 (by rfl) (by rfl) (by rfl) ?_)
          (refine S_op ?_; refine W_moveStr (by first | rfl | assumption) ?_; refine S_op ?_; refine W_moveStr (by first | rfl | assumption) ?_)
          refine S_op (W_smin2 (by rfl) (by rfl) ?_)
          (refine S_op ?_; refine W_moveStr (by first | rfl | assumption) ?_; refine S_op ?_; refine W_moveStr (by first | rfl | assumption) ?_)
          refine S_op (W_smax2 (by rfl) (by rfl) ?_)
          (refine S_op ?_; refine W_moveStr (by first | rfl | assumption) ?_)
          refine S_op (W_smin2 (by rfl) (by rfl) ?_)
          refine S_op (W_smax2 (by rfl) (by rfl) ?_)
          (refine S_op ?_; refine W_moveStr (by first | rfl | assumption) ?_; refine S_op ?_; refine W_moveStr (by first | rfl | assumption) ?_; refine S_op ?_; refine W_moveStr (by first | rfl | assumption) ?_)
          refine S_op (W_smax3 (by rfl) (by rfl) (by rfl) ?_)
          obtain ⟨hab, hbc⟩ := sorted3 k k2 k3
          generalize minB (minB k k2) k3 = lo at *
          generalize maxB (minB k k2) (minB (maxB k k2) k3) = mid at *
          generalize maxB (maxB k k2) k3 = hi at *
          have hsum := count_parts hab hbc t.items
          have hq : ∀ a b, countL a b t.items ≤ 150 := fun a b => Nat.le_trans (List.length_filter_le _ _) h150
          have q1 := hq lo mid
          have q2 := hq mid hi
          (refine S_op ?_; refine W_assignStr (by first | rfl | assumption) ?_; refine S_op ?_; refine W_assignStr (by first | rfl | assumption) ?_; refine S_op ?_; refine W_assignStr (by first | rfl | assumption) ?_; refine S_nil ?_; refine CWD_seq ?_; refine CWD_region rfl ?_; refine S_op ?_; refine W_loadM (by first | rfl | assumption) (by assumption) (by rfl) ?_; refine S_op ?_; refine W_moveInt (by first | rfl | assumption) ?_; refine S_op ?_; refine W_eqlT (by first | rfl | assumption) (by first | rfl | assumption) (by first | omega | rfl) ?_; refine S_op ?_; refine W_moveBool (by first | rfl | assumption) ?_; refine S_want (by rfl) ?_; refine W_movePtr (by first | rfl | assumption) ?_; refine S_want (by rfl) ?_; refine W_moveStr (by first | rfl | assumption) ?_; refine S_want (by rfl) ?_; refine W_moveStr (by first | rfl | assumption) ?_)
          (refine S_want (by rfl) ?_; refine W_call hS (by rfl) (count_c H t lo mid ht.at_ (by omega)) ?_); rintro v H w hG' rfl; replace hG := hG.trans hG'; replace hS := hG'.sub; replace ht := ht.mono hG'.le; replace hl2 := hl2.mono hG'.le; replace c12 := c12.grow hG'; replace hM := hM.grow hG'; replace hN := hN.grow hG'; clear hG'
          rw [count_eq ht.rise]
          (refine S_want (by rfl) ?_; refine W_movePtr (by first | rfl | assumption) ?_; refine S_want (by rfl) ?_; refine W_moveStr (by first | rfl | assumption) ?_; refine S_want (by rfl) ?_; refine W_moveStr (by first | rfl | assumption) ?_)
          (refine S_want (by rfl) ?_; refine W_call hS (by rfl) (count_c H t mid hi ht.at_ (by omega)) ?_); rintro v H w hG' rfl; replace hG := hG.trans hG'; replace hS := hG'.sub; replace ht := ht.mono hG'.le; replace hl2 := hl2.mono hG'.le; replace c12 := c12.grow hG'; replace hM := hM.grow hG'; replace hN := hN.grow hG'; clear hG'
          rw [count_eq ht.rise]
          (refine S_want (by rfl) ?_; refine W_addN (by first | rfl | assumption) (by first | rfl | assumption) (by omega) ?_; refine S_want (by rfl) ?_; refine W_movePtr (by first | rfl | assumption) ?_; refine S_want (by rfl) ?_; refine W_moveStr (by first | rfl | assumption) ?_; refine S_want (by rfl) ?_; refine W_moveStr (by first | rfl | assumption) ?_)
          (refine S_want (by rfl) ?_; refine W_call hS (by rfl) (count_c H t lo hi ht.at_ (by omega)) ?_); rintro v H w hG' rfl; replace hG := hG.trans hG'; replace hS := hG'.sub; replace ht := ht.mono hG'.le; replace hl2 := hl2.mono hG'.le; replace c12 := c12.grow hG'; replace hM := hM.grow hG'; replace hN := hN.grow hG'; clear hG'
          rw [count_eq ht.rise]
          (refine S_want (by rfl) ?_; refine W_eqlT (by first | rfl | assumption) (by first | rfl | assumption) (by first | omega | rfl) ?_; refine S_op ?_; refine W_pickT (by first | rfl | assumption) (by first | rfl | assumption) ?_; refine S_op ?_; refine W_moveBool (by first | rfl | assumption) ?_; refine S_want (by rfl) ?_; refine W_movePtr (by first | rfl | assumption) ?_; refine S_want (by rfl) ?_; refine W_moveStr (by first | rfl | assumption) ?_; refine S_want (by rfl) ?_; refine W_moveStr (by first | rfl | assumption) ?_)
          (refine S_want (by rfl) ?_; refine W_call hS (by rfl) (count_c H t hi lo ht.at_ (by omega)) ?_); rintro v H w hG' rfl; replace hG := hG.trans hG'; replace hS := hG'.sub; replace ht := ht.mono hG'.le; replace hl2 := hl2.mono hG'.le; replace c12 := c12.grow hG'; replace hM := hM.grow hG'; replace hN := hN.grow hG'; clear hG'
          rw [count_eq ht.rise, count_none (sle_trans hab hbc)]
          (refine S_want (by rfl) ?_; refine W_eqlT (by first | rfl | assumption) (by first | rfl | assumption) (by first | omega | rfl) ?_; refine S_op ?_; refine W_pickT (by first | rfl | assumption) (by first | rfl | assumption) ?_; refine S_op ?_; refine W_assignBool (by first | rfl | assumption) ?_; refine S_nil ?_; refine CWD_ret ?_)
          refine FinD_two hM hN hne hS fun w' hT => ?_
          exact ⟨_, ResW_one (v := .bool _) rfl, H, Turn.grow hG hT (by rintro b (rfl | rfl); exact hDX.1; exact hEX.1), rfl⟩
        | false =>
          rw [hlk] at hbw
          simp at hbw
          rw [hbw] at c12
          (refine S_op ?_; refine W_moveTup (by first | rfl | assumption) ?_; refine S_op ?_; refine W_extract (by first | rfl | assumption) (by rfl) ?_; refine S_op ?_; refine W_extract (by first | rfl | assumption) (by rfl) ?_; refine S_op ?_; refine W_assignStr (by first | rfl | assumption) ?_; refine S_op ?_; refine W_assignBool (by first | rfl | assumption) ?_; refine S_nil ?_; refine CWD_seq ?_; refine CWD_seq ?_; refine CWD_region rfl ?_; refine S_op ?_; refine W_moveBool (by first | rfl | assumption) ?_; refine S_nil ?_; refine CWD_false (by first | rfl | assumption) ?_; refine CWD_skip ?_; refine CWD_seq ?_; refine CWD_region rfl ?_; refine S_op ?_; refine W_moveStr (by first | rfl | assumption) ?_; refine S_op ?_; refine W_moveStr (by first | rfl | assumption) ?_; refine S_op ?_; refine W_moveStr (by first | rfl | assumption) ?_)
          refine S_op (W_smin3 (by rfl) (by rfl) (by rfl) ?_)
          (refine S_op ?_; refine W_moveStr (by first | rfl | assumption) ?_; refine S_op ?_; refine W_moveStr (by first | rfl | assumption) ?_)
          refine S_op (W_smin2 (by rfl) (by rfl) ?_)
          (refine S_op ?_; refine W_moveStr (by first | rfl | assumption) ?_; refine S_op ?_; refine W_moveStr (by first | rfl | assumption) ?_)
          refine S_op (W_smax2 (by rfl) (by rfl) ?_)
          (refine S_op ?_; refine W_moveStr (by first | rfl | assumption) ?_)
          refine S_op (W_smin2 (by rfl) (by rfl) ?_)
          refine S_op (W_smax2 (by rfl) (by rfl) ?_)
          (refine S_op ?_; refine W_moveStr (by first | rfl | assumption) ?_; refine S_op ?_; refine W_moveStr (by first | rfl | assumption) ?_; refine S_op ?_; refine W_moveStr (by first | rfl | assumption) ?_)
          refine S_op (W_smax3 (by rfl) (by rfl) (by rfl) ?_)
          obtain ⟨hab, hbc⟩ := sorted3 k k2 k3
          generalize minB (minB k k2) k3 = lo at *
          generalize maxB (minB k k2) (minB (maxB k k2) k3) = mid at *
          generalize maxB (maxB k k2) k3 = hi at *
          have hsum := count_parts hab hbc t.items
          have hq : ∀ a b, countL a b t.items ≤ 150 := fun a b => Nat.le_trans (List.length_filter_le _ _) h150
          have q1 := hq lo mid
          have q2 := hq mid hi
          (refine S_op ?_; refine W_assignStr (by first | rfl | assumption) ?_; refine S_op ?_; refine W_assignStr (by first | rfl | assumption) ?_; refine S_op ?_; refine W_assignStr (by first | rfl | assumption) ?_; refine S_nil ?_; refine CWD_seq ?_; refine CWD_region rfl ?_; refine S_op ?_; refine W_loadM (by first | rfl | assumption) (by assumption) (by rfl) ?_; refine S_op ?_; refine W_moveInt (by first | rfl | assumption) ?_; refine S_op ?_; refine W_eqlT (by first | rfl | assumption) (by first | rfl | assumption) (by first | omega | rfl) ?_; refine S_op ?_; refine W_moveBool (by first | rfl | assumption) ?_; refine S_want (by rfl) ?_; refine W_movePtr (by first | rfl | assumption) ?_; refine S_want (by rfl) ?_; refine W_moveStr (by first | rfl | assumption) ?_; refine S_want (by rfl) ?_; refine W_moveStr (by first | rfl | assumption) ?_)
          (refine S_want (by rfl) ?_; refine W_call hS (by rfl) (count_c H t lo mid ht.at_ (by omega)) ?_); rintro v H w hG' rfl; replace hG := hG.trans hG'; replace hS := hG'.sub; replace ht := ht.mono hG'.le; replace hl2 := hl2.mono hG'.le; replace c12 := c12.grow hG'; replace hM := hM.grow hG'; replace hN := hN.grow hG'; clear hG'
          rw [count_eq ht.rise]
          (refine S_want (by rfl) ?_; refine W_movePtr (by first | rfl | assumption) ?_; refine S_want (by rfl) ?_; refine W_moveStr (by first | rfl | assumption) ?_; refine S_want (by rfl) ?_; refine W_moveStr (by first | rfl | assumption) ?_)
          (refine S_want (by rfl) ?_; refine W_call hS (by rfl) (count_c H t mid hi ht.at_ (by omega)) ?_); rintro v H w hG' rfl; replace hG := hG.trans hG'; replace hS := hG'.sub; replace ht := ht.mono hG'.le; replace hl2 := hl2.mono hG'.le; replace c12 := c12.grow hG'; replace hM := hM.grow hG'; replace hN := hN.grow hG'; clear hG'
          rw [count_eq ht.rise]
          (refine S_want (by rfl) ?_; refine W_addN (by first | rfl | assumption) (by first | rfl | assumption) (by omega) ?_; refine S_want (by rfl) ?_; refine W_movePtr (by first | rfl | assumption) ?_; refine S_want (by rfl) ?_; refine W_moveStr (by first | rfl | assumption) ?_; refine S_want (by rfl) ?_; refine W_moveStr (by first | rfl | assumption) ?_)
          (refine S_want (by rfl) ?_; refine W_call hS (by rfl) (count_c H t lo hi ht.at_ (by omega)) ?_); rintro v H w hG' rfl; replace hG := hG.trans hG'; replace hS := hG'.sub; replace ht := ht.mono hG'.le; replace hl2 := hl2.mono hG'.le; replace c12 := c12.grow hG'; replace hM := hM.grow hG'; replace hN := hN.grow hG'; clear hG'
          rw [count_eq ht.rise]
          (refine S_want (by rfl) ?_; refine W_eqlT (by first | rfl | assumption) (by first | rfl | assumption) (by first | omega | rfl) ?_; refine S_op ?_; refine W_pickT (by first | rfl | assumption) (by first | rfl | assumption) ?_; refine S_op ?_; refine W_moveBool (by first | rfl | assumption) ?_; refine S_want (by rfl) ?_; refine W_movePtr (by first | rfl | assumption) ?_; refine S_want (by rfl) ?_; refine W_moveStr (by first | rfl | assumption) ?_; refine S_want (by rfl) ?_; refine W_moveStr (by first | rfl | assumption) ?_)
          (refine S_want (by rfl) ?_; refine W_call hS (by rfl) (count_c H t hi lo ht.at_ (by omega)) ?_); rintro v H w hG' rfl; replace hG := hG.trans hG'; replace hS := hG'.sub; replace ht := ht.mono hG'.le; replace hl2 := hl2.mono hG'.le; replace c12 := c12.grow hG'; replace hM := hM.grow hG'; replace hN := hN.grow hG'; clear hG'
          rw [count_eq ht.rise, count_none (sle_trans hab hbc)]
          (refine S_want (by rfl) ?_; refine W_eqlT (by first | rfl | assumption) (by first | rfl | assumption) (by first | omega | rfl) ?_; refine S_op ?_; refine W_pickT (by first | rfl | assumption) (by first | rfl | assumption) ?_; refine S_op ?_; refine W_assignBool (by first | rfl | assumption) ?_; refine S_nil ?_; refine CWD_ret ?_)
          refine FinD_two hM hN hne hS fun w' hT => ?_
          exact ⟨_, ResW_one (v := .bool _) rfl, H, Turn.grow hG hT (by rintro b (rfl | rfl); exact hDX.1; exact hEX.1), rfl⟩
      · exact fun _ _ _ _ _ _ _ _ _ _ _ _ _ h => False.elim h
      · exact fun _ _ _ _ _ _ _ _ _ _ _ _ _ _ h => False.elim h
    · exact fun _ _ _ _ _ _ _ _ _ _ _ _ _ h => False.elim h
    · exact fun _ _ _ _ _ _ _ _ _ _ _ _ _ _ h => False.elim h
end Go.Proofs.Ytgaabmoknpifnaa
