/- bulk.deal: an iterator over slices. Conditions: sizes. -/
import Derived.Test.YtnjeoobcejlojaaWalk2
import Derived.Test.YtnjeoobcejlojaaBulkL
namespace Go.Proofs.Ytnjeoobcejlojaa
open Go.Proofs Go.RowKit
set_option linter.unusedVariables false
attribute [local irreducible] CW CWD SeqW OpW CallV
set_option maxHeartbeats 4000000
/-- The slices that are dealt: k of them. -/
def dealV (sz : Nat) : Option Addr → Nat → Nat → Nat → List Value
  | _, _, _, 0 => []
  | A, n, c, k + 1 => .slice A ((n + k) / (k + 1)) c :: dealV sz (slAddr A c ((n + k) / (k + 1)) sz) (n - (n + k) / (k + 1)) (c - (n + k) / (k + 1)) k
theorem part_le (n k : Nat) : (n + k) / (k + 1) ≤ n := by
  rcases Nat.eq_zero_or_pos n with h | h
  · subst h; rw [Nat.div_eq_of_lt (by omega)]; omega
  · rw [Nat.div_le_iff_le_mul_add_pred (by omega)]
    have : k * 1 ≤ k * n := Nat.mul_le_mul_left k h
    have e : (k + 1) * n = k * n + n := Nat.succ_mul k n
    rw [e]; omega
def encS (v : Value) : List Value := [v]
theorem dealE_it {H : HF} {w : World} {A : Option Addr} {n c most b1 b2 : Nat} {T : TypeId} (hc : n ≤ c) (hn : n ≤ 1000000) (h1 : 1 ≤ most) (h2 : most ≤ 1000) (hm : Mut H w b1 [.slice A n c]) (hb2 : H b2 = some (.cells #[.int .i64 (most : Int)] T (0, 0))) :
    IterAt Try.prog 102 [.pointer (some ⟨b1, 0, none⟩), .pointer (some ⟨b2, 0, none⟩)] encS (dealV 2 A n c (lists n most)) (fun k => k = b1) H w := by
  skip
  intro y J Jx X0 hyc hS0 hX0 hJ hJx hy hS hj
  obtain ⟨H0, rfl⟩ : ∃ H0, H0 = H := ⟨_, rfl⟩
  obtain ⟨w0, rfl⟩ : ∃ w0, w0 = w := ⟨_, rfl⟩
  refine CallW_of_CW Try.func102 rfl Try.ntmps102 Try.results102 rfl ?_
  have hG := Grow.refl hS
  have hX0b := hS0 b1 rfl
  have hL : (n + most - 1) / most ≤ 2000000 := Nat.le_trans (Nat.div_le_self _ _) (by omega)
  (refine CW_seq ?_; refine CW_region rfl ?_; refine S_op ?_; refine W_loadM (by first | rfl | assumption) (by assumption) (by rfl) ?_; refine S_op ?_; refine W_len (by first | rfl | assumption) ?_; refine S_op ?_; refine W_loadHL (by first | rfl | assumption) (by assumption) (by rfl) (by assumption) ?_; refine S_op ?_; refine W_addN (by first | rfl | assumption) (by first | rfl | assumption) (by omega) ?_; refine S_op ?_; refine W_sub1 (by first | rfl | assumption) (by omega) (by omega) ?_; refine S_op ?_; refine W_loadHL (by first | rfl | assumption) (by assumption) (by rfl) (by assumption) ?_)
  refine S_op (W_quoN (a := n + most - 1) (b := most) (by rfl) (by rfl) (by omega) (by omega) ?_)
  (refine S_op ?_; refine W_assignInt (by first | rfl | assumption) ?_; refine S_nil ?_; refine CW_block ?_)
  refine CW_loopM [4, 5, 13, 14, 15, 16, 17, 18, 19, 20, 21, 22, 23, 24, 25, 26, 27, 28, 29, 30, 31, 32] (fun q u w2 => ∃ (k : Nat) (A2 : Option Addr) (n2 c2 : Nat) (X : Nat → Prop) (H2 : HF) (pre : List Value), u 4 = .int .i64 (k : Int) ∧ k ≤ 2000000 ∧ k ≤ q ∧ HLe H0 H2 ∧ Turn (fun j => ¬ X0 j ∨ j = b1) H0 w0 H2 w2 ∧ (∀ j, X0 j → X j) ∧ (∀ j, X j → X0 j ∨ w0.heap.size ≤ j) ∧
      J X pre H2 w2 ∧ Mut H2 w2 b1 [.slice A2 n2 c2] ∧ n2 ≤ c2 ∧ n2 ≤ 1000000 ∧ dealV 2 A n c (lists n most) = pre ++ dealV 2 A2 n2 c2 k)
    (m := (n + most - 1) / most) ⟨(n + most - 1) / most, A, n, c, X0, H0, [], rfl, hL, Nat.le_refl _, HLe.refl _, Turn.refl hS, fun _ h => h, fun _ h => .inl h, hj, hm, hc, hn, rfl⟩ ?_
  clear hm hj hS hG
  rintro q u w ⟨k, A2, n2, c2, X, H, pre, h4, hk, hkq, hle, hT, hX1, hX2, hj, hm, hc2, hn2, hxs⟩
  have hS := hT.sub
  replace hb2 := hle _ _ hb2
  cases k with
  | zero =>
    (refine CW_seq ?_; refine CW_seq ?_; refine CW_region rfl ?_; refine S_op ?_; refine W_moveInt (by first | rfl | assumption) ?_; refine S_op ?_; refine W_gtrF (by first | rfl | assumption) (by first | rfl | assumption) (by first | omega | rfl) ?_; refine S_nil ?_; refine CW_false (by first | rfl | assumption) ?_; refine CW_exit ?_; refine xblk_hit ?_)
    exact ⟨_, ResW_zero, H, X, hT, hX1, hX2, .inl (by rw [hxs]; simpa [dealV] using hj)⟩
  | succ k =>
    have hp := part_le n2 k
    have hxs2 : dealV 2 A n c (lists n most) = pre ++ .slice A2 ((n2 + k) / (k + 1)) c2 :: dealV 2 (slAddr A2 c2 ((n2 + k) / (k + 1)) 2) (n2 - (n2 + k) / (k + 1)) (c2 - (n2 + k) / (k + 1)) k := hxs
    obtain ⟨z, hz⟩ : ∃ z, (n2 + k) / (k + 1) = z := ⟨_, rfl⟩
    (refine CW_seq ?_; refine CW_seq ?_; refine CW_region rfl ?_; refine S_op ?_; refine W_moveInt (by first | rfl | assumption) ?_; refine S_op ?_; refine W_gtrT (by first | rfl | assumption) (by first | rfl | assumption) (by first | omega | rfl) ?_; refine S_nil ?_; refine CW_true (by first | rfl | assumption) ?_; refine CW_skip ?_; refine CW_seq ?_; refine CW_block ?_; refine CW_seq ?_; refine CW_region rfl ?_; refine S_op ?_; refine W_loadM (by first | rfl | assumption) (by assumption) (by rfl) ?_; refine S_op ?_; refine W_len (by first | rfl | assumption) ?_; refine S_op ?_; refine W_moveInt (by first | rfl | assumption) ?_; refine S_op ?_; refine W_addN (by first | rfl | assumption) (by first | rfl | assumption) (by omega) ?_; refine S_op ?_; refine W_sub1 (by first | rfl | assumption) (by omega) (by omega) ?_; refine S_op ?_; refine W_moveInt (by first | rfl | assumption) ?_)
    refine S_op (W_quoN (a := n2 + k) (b := k + 1) (by rfl) (by rfl) (by omega) (by omega) ?_)
    rw [hz] at hp hxs2 ⊢
    (refine S_op ?_; refine W_assignInt (by first | rfl | assumption) ?_; refine S_nil ?_; refine CW_seq ?_; refine CW_seq ?_; refine CW_region rfl ?_; refine S_op ?_; refine W_move rfl ?_; refine S_op ?_; refine W_loadM (by first | rfl | assumption) (by assumption) (by rfl) ?_; refine S_op ?_; refine W_moveInt (by first | rfl | assumption) ?_; refine S_op ?_; refine W_sliceHi (by first | rfl | assumption) (by first | rfl | assumption) (by omega) ?_)
    refine S_op ?_
    refine W_callVal (by rfl) (by rfl) ((hy X pre _ _ H w hxs2 hS hj).mono ?_)
    rintro v w1 ⟨H1, hT1, hor⟩
    have hXb : X b1 := hX1 b1 hX0b
    replace hm := hm.turn hT1 (fun h => h hXb)
    have hTa := hT.trans (hT1.wider fun j _ h => .inl (fun h2 => h (hX1 j h2)))
    replace hS := hT1.sub
    rcases hor with ⟨rfl, hj1⟩ | ⟨rfl, hj1⟩
    · (refine S_op ?_; refine W_not (by first | rfl | assumption) ?_; refine S_nil ?_; refine CW_false (by first | rfl | assumption) ?_; refine CW_skip ?_; refine CW_region rfl ?_; refine S_op ?_; refine W_loadM (by first | rfl | assumption) (by assumption) (by rfl) ?_; refine S_op ?_; refine W_moveInt (by first | rfl | assumption) ?_; refine S_op ?_; refine W_sliceLo (by first | rfl | assumption) (by first | rfl | assumption) (by omega) ?_)
      refine S_op0 (W_storeM (o := 0) (vs := [.slice (slAddr A2 c2 z 2) (n2 - z) (c2 - z)]) (by rfl) (by rfl) hm (by rfl) (OneCells.of_all (by rfl)) (by rfl) (by simp) ?_)
      intro w2 hgb' hm'
      have hT2 : Turn (fun j => j = b1) H1 w1 H1 w2 := (Turn.refl hS).grownBy hgb' (fun g h => by cases h; exact ⟨hm.out, .inr rfl⟩)
      have hj2 := hJ _ _ _ _ _ _ hj1 (hT2.wider fun j _ e => by rw [e]; exact hXb)
      replace hS := hT2.sub
      (refine S_nil ?_; refine CW_region rfl ?_; refine S_op ?_; refine W_moveInt (by first | rfl | assumption) ?_; refine S_op ?_; refine W_sub1 (by first | rfl | assumption) (by omega) (by omega) ?_; refine S_op ?_; refine W_assignInt (by first | rfl | assumption) ?_; refine S_nil ?_)
      exact ⟨(by repeat (first | exact AgreeOff.over | refine AgreeOff.upd rfl ?_ | refine AgreeOff.over2 rfl ?_)), q - 1, by omega, k, slAddr A2 c2 z 2, n2 - z, c2 - z, orNew X w1 w2, H1, pre ++ [.slice A2 z c2], rfl, by omega, by omega, hle.trans hT1.le, hTa.trans (hT2.wider fun j _ e => .inr e), fun j h => .inl (hX1 j h), (fun j h => by
        rcases h with h | h
        · exact hX2 j h
        · exact .inr (Nat.le_trans hTa.size h.1)), hj2, hm', by omega, by omega, by rw [List.append_assoc]; exact hxs2⟩
    · (refine S_op ?_; refine W_not (by first | rfl | assumption) ?_; refine S_nil ?_; refine CW_true (by first | rfl | assumption) ?_; refine CW_ret ?_)
      exact ⟨_, ResW_zero, H1, X, hTa, hX1, hX2, .inr ⟨pre ++ [.slice A2 z c2], _, by rw [List.append_assoc]; exact hxs2, hj1⟩⟩
theorem dealN_it {H : HF} {w : World} {A : Option Addr} {n c most b1 b2 : Nat} {T : TypeId} (hc : n ≤ c) (hn : n ≤ 1000000) (h1 : 1 ≤ most) (h2 : most ≤ 1000) (hm : Mut H w b1 [.slice A n c]) (hb2 : H b2 = some (.cells #[.int .i64 (most : Int)] T (0, 0))) :
    IterAt Try.prog 106 [.pointer (some ⟨b1, 0, none⟩), .pointer (some ⟨b2, 0, none⟩)] encS (dealV 1 A n c (lists n most)) (fun k => k = b1) H w := by
  skip
  intro y J Jx X0 hyc hS0 hX0 hJ hJx hy hS hj
  obtain ⟨H0, rfl⟩ : ∃ H0, H0 = H := ⟨_, rfl⟩
  obtain ⟨w0, rfl⟩ : ∃ w0, w0 = w := ⟨_, rfl⟩
  refine CallW_of_CW Try.func106 rfl Try.ntmps106 Try.results106 rfl ?_
  have hG := Grow.refl hS
  have hX0b := hS0 b1 rfl
  have hL : (n + most - 1) / most ≤ 2000000 := Nat.le_trans (Nat.div_le_self _ _) (by omega)
  (refine CW_seq ?_; refine CW_region rfl ?_; refine S_op ?_; refine W_loadM (by first | rfl | assumption) (by assumption) (by rfl) ?_; refine S_op ?_; refine W_len (by first | rfl | assumption) ?_; refine S_op ?_; refine W_loadHL (by first | rfl | assumption) (by assumption) (by rfl) (by assumption) ?_; refine S_op ?_; refine W_addN (by first | rfl | assumption) (by first | rfl | assumption) (by omega) ?_; refine S_op ?_; refine W_sub1 (by first | rfl | assumption) (by omega) (by omega) ?_; refine S_op ?_; refine W_loadHL (by first | rfl | assumption) (by assumption) (by rfl) (by assumption) ?_)
  refine S_op (W_quoN (a := n + most - 1) (b := most) (by rfl) (by rfl) (by omega) (by omega) ?_)
  (refine S_op ?_; refine W_assignInt (by first | rfl | assumption) ?_; refine S_nil ?_; refine CW_block ?_)
  refine CW_loopM [4, 5, 13, 14, 15, 16, 17, 18, 19, 20, 21, 22, 23, 24, 25, 26, 27, 28, 29, 30, 31, 32] (fun q u w2 => ∃ (k : Nat) (A2 : Option Addr) (n2 c2 : Nat) (X : Nat → Prop) (H2 : HF) (pre : List Value), u 4 = .int .i64 (k : Int) ∧ k ≤ 2000000 ∧ k ≤ q ∧ HLe H0 H2 ∧ Turn (fun j => ¬ X0 j ∨ j = b1) H0 w0 H2 w2 ∧ (∀ j, X0 j → X j) ∧ (∀ j, X j → X0 j ∨ w0.heap.size ≤ j) ∧
      J X pre H2 w2 ∧ Mut H2 w2 b1 [.slice A2 n2 c2] ∧ n2 ≤ c2 ∧ n2 ≤ 1000000 ∧ dealV 1 A n c (lists n most) = pre ++ dealV 1 A2 n2 c2 k)
    (m := (n + most - 1) / most) ⟨(n + most - 1) / most, A, n, c, X0, H0, [], rfl, hL, Nat.le_refl _, HLe.refl _, Turn.refl hS, fun _ h => h, fun _ h => .inl h, hj, hm, hc, hn, rfl⟩ ?_
  clear hm hj hS hG
  rintro q u w ⟨k, A2, n2, c2, X, H, pre, h4, hk, hkq, hle, hT, hX1, hX2, hj, hm, hc2, hn2, hxs⟩
  have hS := hT.sub
  replace hb2 := hle _ _ hb2
  cases k with
  | zero =>
    (refine CW_seq ?_; refine CW_seq ?_; refine CW_region rfl ?_; refine S_op ?_; refine W_moveInt (by first | rfl | assumption) ?_; refine S_op ?_; refine W_gtrF (by first | rfl | assumption) (by first | rfl | assumption) (by first | omega | rfl) ?_; refine S_nil ?_; refine CW_false (by first | rfl | assumption) ?_; refine CW_exit ?_; refine xblk_hit ?_)
    exact ⟨_, ResW_zero, H, X, hT, hX1, hX2, .inl (by rw [hxs]; simpa [dealV] using hj)⟩
  | succ k =>
    have hp := part_le n2 k
    have hxs2 : dealV 1 A n c (lists n most) = pre ++ .slice A2 ((n2 + k) / (k + 1)) c2 :: dealV 1 (slAddr A2 c2 ((n2 + k) / (k + 1)) 1) (n2 - (n2 + k) / (k + 1)) (c2 - (n2 + k) / (k + 1)) k := hxs
    obtain ⟨z, hz⟩ : ∃ z, (n2 + k) / (k + 1) = z := ⟨_, rfl⟩
    (refine CW_seq ?_; refine CW_seq ?_; refine CW_region rfl ?_; refine S_op ?_; refine W_moveInt (by first | rfl | assumption) ?_; refine S_op ?_; refine W_gtrT (by first | rfl | assumption) (by first | rfl | assumption) (by first | omega | rfl) ?_; refine S_nil ?_; refine CW_true (by first | rfl | assumption) ?_; refine CW_skip ?_; refine CW_seq ?_; refine CW_block ?_; refine CW_seq ?_; refine CW_region rfl ?_; refine S_op ?_; refine W_loadM (by first | rfl | assumption) (by assumption) (by rfl) ?_; refine S_op ?_; refine W_len (by first | rfl | assumption) ?_; refine S_op ?_; refine W_moveInt (by first | rfl | assumption) ?_; refine S_op ?_; refine W_addN (by first | rfl | assumption) (by first | rfl | assumption) (by omega) ?_; refine S_op ?_; refine W_sub1 (by first | rfl | assumption) (by omega) (by omega) ?_; refine S_op ?_; refine W_moveInt (by first | rfl | assumption) ?_)
    refine S_op (W_quoN (a := n2 + k) (b := k + 1) (by rfl) (by rfl) (by omega) (by omega) ?_)
    rw [hz] at hp hxs2 ⊢
    (refine S_op ?_; refine W_assignInt (by first | rfl | assumption) ?_; refine S_nil ?_; refine CW_seq ?_; refine CW_seq ?_; refine CW_region rfl ?_; refine S_op ?_; refine W_move rfl ?_; refine S_op ?_; refine W_loadM (by first | rfl | assumption) (by assumption) (by rfl) ?_; refine S_op ?_; refine W_moveInt (by first | rfl | assumption) ?_; refine S_op ?_; refine W_sliceHi (by first | rfl | assumption) (by first | rfl | assumption) (by omega) ?_)
    refine S_op ?_
    refine W_callVal (by rfl) (by rfl) ((hy X pre _ _ H w hxs2 hS hj).mono ?_)
    rintro v w1 ⟨H1, hT1, hor⟩
    have hXb : X b1 := hX1 b1 hX0b
    replace hm := hm.turn hT1 (fun h => h hXb)
    have hTa := hT.trans (hT1.wider fun j _ h => .inl (fun h2 => h (hX1 j h2)))
    replace hS := hT1.sub
    rcases hor with ⟨rfl, hj1⟩ | ⟨rfl, hj1⟩
    · (refine S_op ?_; refine W_not (by first | rfl | assumption) ?_; refine S_nil ?_; refine CW_false (by first | rfl | assumption) ?_; refine CW_skip ?_; refine CW_region rfl ?_; refine S_op ?_; refine W_loadM (by first | rfl | assumption) (by assumption) (by rfl) ?_; refine S_op ?_; refine W_moveInt (by first | rfl | assumption) ?_; refine S_op ?_; refine W_sliceLo (by first | rfl | assumption) (by first | rfl | assumption) (by omega) ?_)
      refine S_op0 (W_storeM (o := 0) (vs := [.slice (slAddr A2 c2 z 1) (n2 - z) (c2 - z)]) (by rfl) (by rfl) hm (by rfl) (OneCells.of_all (by rfl)) (by rfl) (by simp) ?_)
      intro w2 hgb' hm'
      have hT2 : Turn (fun j => j = b1) H1 w1 H1 w2 := (Turn.refl hS).grownBy hgb' (fun g h => by cases h; exact ⟨hm.out, .inr rfl⟩)
      have hj2 := hJ _ _ _ _ _ _ hj1 (hT2.wider fun j _ e => by rw [e]; exact hXb)
      replace hS := hT2.sub
      (refine S_nil ?_; refine CW_region rfl ?_; refine S_op ?_; refine W_moveInt (by first | rfl | assumption) ?_; refine S_op ?_; refine W_sub1 (by first | rfl | assumption) (by omega) (by omega) ?_; refine S_op ?_; refine W_assignInt (by first | rfl | assumption) ?_; refine S_nil ?_)
      exact ⟨(by repeat (first | exact AgreeOff.over | refine AgreeOff.upd rfl ?_ | refine AgreeOff.over2 rfl ?_)), q - 1, by omega, k, slAddr A2 c2 z 1, n2 - z, c2 - z, orNew X w1 w2, H1, pre ++ [.slice A2 z c2], rfl, by omega, by omega, hle.trans hT1.le, hTa.trans (hT2.wider fun j _ e => .inr e), fun j h => .inl (hX1 j h), (fun j h => by
        rcases h with h | h
        · exact hX2 j h
        · exact .inr (Nat.le_trans hTa.size h.1)), hj2, hm', by omega, by omega, by rw [List.append_assoc]; exact hxs2⟩
    · (refine S_op ?_; refine W_not (by first | rfl | assumption) ?_; refine S_nil ?_; refine CW_true (by first | rfl | assumption) ?_; refine CW_ret ?_)
      exact ⟨_, ResW_zero, H1, X, hTa, hX1, hX2, .inr ⟨pre ++ [.slice A2 z c2], _, by rw [List.append_assoc]; exact hxs2, hj1⟩⟩
end Go.Proofs.Ytnjeoobcejlojaa
