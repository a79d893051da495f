/- HistoryOrder: it answers true. Conditions: sizes. -/
import Derived.Test.YtcbboghjocoiiaaLaw20
import Derived.Test.YtcbboghjocoiiaaConv
namespace Go.Proofs.Ytcbboghjocoiiaa
open Go.Proofs Go.RowKit
set_option linter.unusedVariables false
attribute [local irreducible] CW SeqW OpW
set_option maxHeartbeats 8000000
/-- The list turned: from the last one on, beginning elsewhere. -/
def rotL (h : List Don) (p : Nat) : List Don := (h.drop p ++ h.take p).reverse
theorem rotL_len (h : List Don) (p : Nat) : (rotL h p).length = h.length := by simp [rotL]; omega
theorem rotL_perm (h : List Don) (p : Nat) : (rotL h p).Perm h := by
  refine (List.reverse_perm _).trans ?_
  refine List.perm_append_comm.trans ?_
  rw [List.take_append_drop]
theorem rotL_get {h : List Don} {p k : Nat} (hp : p < h.length) (hk : k < h.length) : (rotL h p)[k]? = some (don h ((h.length - 1 - k + p) % h.length)) := by
  have hl : (h.drop p ++ h.take p).length = h.length := by simp; omega
  unfold rotL
  rw [List.getElem?_reverse (by rw [hl]; exact hk), hl]
  have hm : (h.length - 1 - k + p) % h.length < h.length := Nat.mod_lt _ (by omega)
  rw [← don_get hm]
  rcases Nat.lt_or_ge (h.length - 1 - k + p) h.length with h1 | h1
  · rw [Nat.mod_eq_of_lt h1, List.getElem?_append_left (by simp; omega), List.getElem?_drop]
    congr 1; omega
  · have e : (h.length - 1 - k + p) % h.length = h.length - 1 - k + p - h.length := by
      rw [Nat.mod_eq_sub_mod h1, Nat.mod_eq_of_lt (by omega)]
    rw [e, List.getElem?_append_right (by simp; omega), List.getElem?_take, if_pos (by simp; omega)]
    congr 1; simp; omega
theorem historyOrder_c (H0 : HF) (A B : Option Addr) (c d : Nat) (l : List Ent) (h : List Don) (p : Nat) (hp : p < 18446744073709551616) (hl : EntsAt H0 A l) (hc : l.length ≤ c) (hd : DonsAt H0 B h) (hdc : h.length ≤ d) (sl : SzE l) (sh : SzD h) :
    Fn Try.prog 4 [.slice A l.length c, .slice B h.length d, .int .u64 (p : Int)] H0 fun v _ => v = .bool true := by
  refine Fn_of_CW Try.func4 rfl Try.ntmps4 Try.results4 rfl fun w0 hS => ?_; have hG := Grow.refl hS
  (refine CW_seq ?_; refine CW_region rfl ?_; refine S_op ?_; refine W_assignBool (by first | rfl | assumption) ?_; refine S_nil ?_; refine CW_seq ?_; refine CW_seq ?_; refine CW_region rfl ?_)
  (refine S_op ?_; refine W_call hS (by rfl) (awake20_c H0) ?_); rintro v H w hG' rfl; replace hG := hG.trans hG'; replace hS := hG'.sub; replace hl := hl.mono hG'.le; replace hd := hd.mono hG'.le; clear hG'
  (refine S_op ?_; refine W_not (by first | rfl | assumption) ?_; refine S_op ?_; refine W_moveBool (by first | rfl | assumption) ?_; refine S_want (by rfl) ?_; refine W_moveSl (by first | rfl | assumption) ?_; refine S_want (by rfl) ?_; refine W_moveSl (by first | rfl | assumption) ?_)
  (refine S_want (by rfl) ?_; refine W_call hS (by rfl) (few20_c H A B c d l h hl hd sl sh) ?_); rintro v H w hG' ⟨z, rfl, hz⟩; replace hG := hG.trans hG'; replace hS := hG'.sub; replace hl := hl.mono hG'.le; replace hd := hd.mono hG'.le; clear hG'
  cases z with
  | false =>
    skip
    (refine S_want (by rfl) ?_; refine W_not (by first | rfl | assumption) ?_; refine S_op ?_; refine W_pickF (by first | rfl | assumption) (by first | rfl | assumption) ?_; refine S_op ?_; refine W_moveBool (by first | rfl | assumption) ?_; refine S_pass (by rfl) ?_; refine S_pass (by rfl) ?_; refine S_pass (by rfl) ?_; refine S_op ?_; refine W_pickT (by first | rfl | assumption) (by first | rfl | assumption) ?_; refine S_op ?_; refine W_moveBool (by first | rfl | assumption) ?_; refine S_pass (by rfl) ?_; refine S_pass (by rfl) ?_; refine S_pass (by rfl) ?_; refine S_op ?_; refine W_pickT (by first | rfl | assumption) (by first | rfl | assumption) ?_; refine S_nil ?_; refine CW_true (by first | rfl | assumption) ?_; refine CW_seq ?_; refine CW_region rfl ?_)
    (refine S_op ?_; refine W_call hS (by rfl) (awake20_c H) ?_); rintro v H w hG' rfl; replace hG := hG.trans hG'; replace hS := hG'.sub; clear hG'
    (refine S_op ?_; refine W_assignBool (by first | rfl | assumption) ?_; refine S_nil ?_; refine CW_ret ?_)
    exact ⟨_, ResW_one (v := .bool _) rfl, H, hG, rfl⟩
  | true =>
    obtain ⟨h40, h20, hr⟩ := hz rfl
    by_cases h0 : h.length = 0
    · skip
      (refine S_want (by rfl) ?_; refine W_not (by first | rfl | assumption) ?_; refine S_op ?_; refine W_pickF (by first | rfl | assumption) (by first | rfl | assumption) ?_; refine S_op ?_; refine W_moveBool (by first | rfl | assumption) ?_; refine S_want (by rfl) ?_; refine W_moveSl (by first | rfl | assumption) ?_; refine S_want (by rfl) ?_; refine W_len (by first | rfl | assumption) ?_; refine S_want (by rfl) ?_; refine W_eqlT (by first | rfl | assumption) (by first | rfl | assumption) (by first | omega | rfl) ?_; refine S_op ?_; refine W_pickF (by first | rfl | assumption) (by first | rfl | assumption) ?_; refine S_op ?_; refine W_moveBool (by first | rfl | assumption) ?_; refine S_pass (by rfl) ?_; refine S_pass (by rfl) ?_; refine S_pass (by rfl) ?_; refine S_op ?_; refine W_pickT (by first | rfl | assumption) (by first | rfl | assumption) ?_; refine S_nil ?_; refine CW_true (by first | rfl | assumption) ?_; refine CW_seq ?_; refine CW_region rfl ?_)
      (refine S_op ?_; refine W_call hS (by rfl) (awake20_c H) ?_); rintro v H w hG' rfl; replace hG := hG.trans hG'; replace hS := hG'.sub; clear hG'
      (refine S_op ?_; refine W_assignBool (by first | rfl | assumption) ?_; refine S_nil ?_; refine CW_ret ?_)
      exact ⟨_, ResW_one (v := .bool _) rfl, H, hG, rfl⟩
    by_cases h7 : 7 < h.length
    · skip
      (refine S_want (by rfl) ?_; refine W_not (by first | rfl | assumption) ?_; refine S_op ?_; refine W_pickF (by first | rfl | assumption) (by first | rfl | assumption) ?_; refine S_op ?_; refine W_moveBool (by first | rfl | assumption) ?_; refine S_want (by rfl) ?_; refine W_moveSl (by first | rfl | assumption) ?_; refine S_want (by rfl) ?_; refine W_len (by first | rfl | assumption) ?_; refine S_want (by rfl) ?_; refine W_eqlF (by first | rfl | assumption) (by first | rfl | assumption) (by first | omega | rfl) ?_; refine S_op ?_; refine W_pickF (by first | rfl | assumption) (by first | rfl | assumption) ?_; refine S_op ?_; refine W_moveBool (by first | rfl | assumption) ?_; refine S_want (by rfl) ?_; refine W_moveSl (by first | rfl | assumption) ?_; refine S_want (by rfl) ?_; refine W_len (by first | rfl | assumption) ?_; refine S_want (by rfl) ?_; refine W_gtrT (by first | rfl | assumption) (by first | rfl | assumption) (by first | omega | rfl) ?_; refine S_op ?_; refine W_pickF (by first | rfl | assumption) (by first | rfl | assumption) ?_; refine S_nil ?_; refine CW_true (by first | rfl | assumption) ?_; refine CW_seq ?_; refine CW_region rfl ?_)
      (refine S_op ?_; refine W_call hS (by rfl) (awake20_c H) ?_); rintro v H w hG' rfl; replace hG := hG.trans hG'; replace hS := hG'.sub; clear hG'
      (refine S_op ?_; refine W_assignBool (by first | rfl | assumption) ?_; refine S_nil ?_; refine CW_ret ?_)
      exact ⟨_, ResW_one (v := .bool _) rfl, H, hG, rfl⟩
    have hpn : p % h.length < h.length := Nat.mod_lt _ (by omega)
    (refine S_want (by rfl) ?_; refine W_not (by first | rfl | assumption) ?_; refine S_op ?_; refine W_pickF (by first | rfl | assumption) (by first | rfl | assumption) ?_; refine S_op ?_; refine W_moveBool (by first | rfl | assumption) ?_; refine S_want (by rfl) ?_; refine W_moveSl (by first | rfl | assumption) ?_; refine S_want (by rfl) ?_; refine W_len (by first | rfl | assumption) ?_; refine S_want (by rfl) ?_; refine W_eqlF (by first | rfl | assumption) (by first | rfl | assumption) (by first | omega | rfl) ?_; refine S_op ?_; refine W_pickF (by first | rfl | assumption) (by first | rfl | assumption) ?_; refine S_op ?_; refine W_moveBool (by first | rfl | assumption) ?_; refine S_want (by rfl) ?_; refine W_moveSl (by first | rfl | assumption) ?_; refine S_want (by rfl) ?_; refine W_len (by first | rfl | assumption) ?_; refine S_want (by rfl) ?_; refine W_gtrF (by first | rfl | assumption) (by first | rfl | assumption) (by first | omega | rfl) ?_; refine S_op ?_; refine W_pickF (by first | rfl | assumption) (by first | rfl | assumption) ?_; refine S_nil ?_; refine CW_false (by first | rfl | assumption) ?_; refine CW_skip ?_; refine CW_seq ?_; refine CW_region rfl ?_; refine S_op ?_; refine W_moveInt (by first | rfl | assumption) ?_; refine S_op ?_; refine W_moveSl (by first | rfl | assumption) ?_; refine S_op ?_; refine W_len (by first | rfl | assumption) ?_)
    refine S_op (W_convInt (by rfl) (IntWalk.u64_in _ (by omega)) ?_)
    (refine S_op ?_; refine W_remN (by first | rfl | assumption) (by first | rfl | assumption) (by omega) ?_; refine S_op ?_; refine W_convN (by first | rfl | assumption) (by omega) ?_; refine S_op ?_; refine W_assignInt (by first | rfl | assumption) ?_; refine S_nil ?_; refine CW_seq ?_; refine CW_region rfl ?_; refine S_op ?_; refine W_assignSl (by first | rfl | assumption) ?_; refine S_nil ?_; refine CW_seq ?_; refine CW_seq ?_; refine CW_region rfl ?_; refine S_op ?_; refine W_moveSl (by first | rfl | assumption) ?_; refine S_op ?_; refine W_len (by first | rfl | assumption) ?_; refine S_op ?_; refine W_sub1 (by first | rfl | assumption) (by omega) (by omega) ?_; refine S_op ?_; refine W_assignInt (by first | rfl | assumption) ?_; refine S_nil ?_; refine CW_block ?_)
    generalize p % h.length = p at *
    refine CW_loopM [8, 9, 42, 43, 44, 45, 46, 47, 48, 49, 50, 51, 52, 53, 54, 55, 56, 57]
      (fun m u w2 => ∃ (k : Nat) (A1 : Option Addr) (c1 : Nat) (H2 : HF), u 9 = .int .i64 ((h.length : Int) - 1 - k) ∧ u 8 = .slice A1 k c1 ∧ Grow H0 w0 H2 w2 ∧ HLe H H2 ∧ Own H2 w2 w0.heap.size 43 9 A1 k c1 (dons ((rotL h p).take k)) ∧ k ≤ h.length ∧ h.length - k ≤ m)
      (m := h.length) ⟨0, none, 0, H, (by show Value.int .i64 ((h.length - 1 : Nat) : Int) = _; congr 1; omega), rfl, hG, HLe.refl _, Own.nil _ _ _ _ _, by omega, by omega⟩ ?_
    rintro m u w ⟨k, A1, c1, H2, h9, h8, hG2, hle, ho, hk, hm⟩
    have hleR := hle
    replace hl := hl.mono hle
    replace hd := hd.mono hle
    have hG := hG2
    have hS := hG2.sub
    clear hG2 hle
    by_cases hlt : k < h.length
    · replace h9 : u 9 = .int .i64 ((h.length - 1 - k : Nat) : Int) := by rw [h9]; congr 1; omega
      have hmn : (h.length - 1 - k + p) % h.length < h.length := Nat.mod_lt _ (by omega)
      obtain ⟨bb, off, hB, hrow⟩ := hd.some hmn
      (refine CW_seq ?_; refine CW_seq ?_; refine CW_region rfl ?_; refine S_op ?_; refine W_moveInt (by first | rfl | assumption) ?_; refine S_op ?_; refine W_geqT (by first | rfl | assumption) (by first | rfl | assumption) (by first | omega | rfl) ?_; refine S_nil ?_; refine CW_true (by first | rfl | assumption) ?_; refine CW_skip ?_; refine CW_seq ?_; refine CW_block ?_; refine CW_region rfl ?_; refine S_op ?_; refine W_moveSl (by first | rfl | assumption) ?_; refine S_op ?_; refine W_moveSl (by first | rfl | assumption) ?_; refine S_op ?_; refine W_moveInt (by first | rfl | assumption) ?_; refine S_op ?_; refine W_moveInt (by first | rfl | assumption) ?_; refine S_op ?_; refine W_addN (by first | rfl | assumption) (by first | rfl | assumption) (by omega) ?_; refine S_op ?_; refine W_moveSl (by first | rfl | assumption) ?_; refine S_op ?_; refine W_len (by first | rfl | assumption) ?_; refine S_op ?_; refine W_remN (by first | rfl | assumption) (by first | rfl | assumption) (by omega) ?_; refine S_op ?_; refine W_index (by first | rfl | assumption) (by first | rfl | assumption) (by first | assumption | omega | decide) (by first | rfl | assumption) ?_; refine S_op ?_; refine W_loadOa (by first | rfl | assumption) (by assumption) (by first | assumption | omega) (by assumption) ?_)
      refine S_op ?_
      refine W_build1 (sz := 9) (v := .agg (donCells (don h ((h.length - 1 - k + p) % h.length))).toArray) hS (by omega) (by rfl) (by rfl) ?_
      intro H w b2 hG' hb2 _ _
      replace hG := hG.trans hG'
      replace hS := hG'.sub
      replace ho := ho.grow hG'
      have hle := hG'.le
      clear hG'
      skip
      refine S_op ?_
      refine W_append (news := donCells (don h ((h.length - 1 - k + p) % h.length))) (m := 1) (by rfl) (by rfl) hG ho ((SlAt.of_row hb2).cells hS) (by rfl) (OneCells.of_all (by rfl)) (by decide) (by omega) (by omega) ?_
      intro A1' c1' w hG ho' _ hA1'
      clear hA1'
      (refine S_op ?_; refine W_assignSl (by first | rfl | assumption) ?_; refine S_nil ?_; refine CW_region rfl ?_; refine S_op ?_; refine W_moveInt (by first | rfl | assumption) ?_)
      refine S_op (W_sub (q := (h.length : Int) - 1 - (k + 1 : Nat)) (by rfl) (by rfl) (by rw [IntWalk.i64_in _ (by omega)]; omega) ?_)
      (refine S_op ?_; refine W_assignInt (by first | rfl | assumption) ?_; refine S_nil ?_)
      exact ⟨(by repeat (first | exact AgreeOff.over | refine AgreeOff.upd rfl ?_ | refine AgreeOff.over2 rfl ?_)), m - 1, by omega, k + 1, A1', c1', H, rfl, rfl, hG, hleR.trans hle, (by
        have e : dons ((rotL h p).take (k + 1)) = dons ((rotL h p).take k) ++ donCells (don h ((h.length - 1 - k + p) % h.length)) := by
          have h1 := rotL_get hpn hlt
          have hkl : k < (rotL h p).length := by rw [rotL_len]; exact hlt
          rw [List.getElem?_eq_getElem hkl] at h1
          rw [take_succ' hkl, dons_append, Option.some.inj h1]; simp [dons]
        rw [e]; exact ho'), by omega, by omega⟩
    · have hkn : k = h.length := by omega
      subst hkn
      rw [List.take_of_length_le (by rw [rotL_len]; exact Nat.le_refl _)] at ho
      replace h9 : u 9 = .int .i64 (-1) := by rw [h9]; congr 1; omega
      have hc1 := ho.cap
      obtain ⟨H, hle, hG, hsl, _⟩ := ho.freeze hG
      clear ho
      replace hS := hG.sub
      replace hl := hl.mono hle
      replace hd := hd.mono hle
      have hd2 : DonsAt H A1 (rotL h p) := hsl
      clear hle hsl
      (refine CW_seq ?_; refine CW_seq ?_; refine CW_region rfl ?_; refine S_op ?_; refine W_moveInt (by first | rfl | assumption) ?_; refine S_op ?_; refine W_geqF (by first | rfl | assumption) (by first | rfl | assumption) (by first | omega | rfl) ?_; refine S_nil ?_; refine CW_false (by first | rfl | assumption) ?_; refine CW_exit ?_; refine CW_seq ?_; refine CW_region rfl ?_; refine S_op ?_; refine W_moveSl (by first | rfl | assumption) ?_; refine S_op ?_; refine W_moveSl (by first | rfl | assumption) ?_)
      (refine S_op ?_; refine W_call hS (by rfl) (made_c H B d h.length h rfl hd (by omega)) ?_); rintro v H w hG' hm1; replace hG := hG.trans hG'; replace hS := hG'.sub; replace hl := hl.mono hG'.le; replace hd := hd.mono hG'.le; replace hd2 := hd2.mono hG'.le; clear hG'
      obtain ⟨A4, c4, rfl, hc4, hm4⟩ := hm1.dons
      skip
      (refine S_op ?_; refine W_call hS (by rfl) (linear_c H A A4 c c4 l h h.length rfl hl hc (by omega) hm4 hc4) ?_); rintro v H w hG' hv; replace hG := hG.trans hG'; replace hS := hG'.sub; replace hl := hl.mono hG'.le; replace hd := hd.mono hG'.le; replace hd2 := hd2.mono hG'.le; clear hG'
      rcases hv with ⟨q7, _⟩ | ⟨q7, u1, rfl, ⟨rfl, hL⟩ | ⟨rfl, hL⟩⟩
      · omega
      · skip
        (refine S_op ?_; refine W_moveTup (by first | rfl | assumption) ?_; refine S_op ?_; refine W_extract (by first | rfl | assumption) (by rfl) ?_; refine S_op ?_; refine W_extract (by first | rfl | assumption) (by rfl) ?_; refine S_op ?_; refine W_assignBool (by first | rfl | assumption) ?_; refine S_op ?_; refine W_assignInt (by first | rfl | assumption) ?_; refine S_nil ?_; refine CW_seq ?_; refine CW_region rfl ?_; refine S_op ?_; refine W_moveSl (by first | rfl | assumption) ?_; refine S_op ?_; refine W_moveSl (by first | rfl | assumption) ?_)
        (refine S_op ?_; refine W_call hS (by rfl) (made_c H A1 c1 h.length (rotL h p) (rotL_len h p) hd2 (by omega)) ?_); rintro v H w hG' hm2; replace hG := hG.trans hG'; replace hS := hG'.sub; replace hl := hl.mono hG'.le; replace hd := hd.mono hG'.le; replace hd2 := hd2.mono hG'.le; clear hG'
        obtain ⟨A5, c5, rfl, hc5, hm5⟩ := hm2.dons
        skip
        (refine S_op ?_; refine W_call hS (by rfl) (linear_c H A A5 c c5 l (rotL h p) h.length (rotL_len h p) hl hc (by omega) hm5 hc5) ?_); rintro v H w hG' hv; replace hG := hG.trans hG'; replace hS := hG'.sub; replace hl := hl.mono hG'.le; replace hd := hd.mono hG'.le; replace hd2 := hd2.mono hG'.le; clear hG'
        rcases hv with ⟨p7, _⟩ | ⟨p7, u2, rfl, ⟨rfl, _⟩ | ⟨_, hN⟩⟩
        · omega
        · (refine S_op ?_; refine W_moveTup (by first | rfl | assumption) ?_; refine S_op ?_; refine W_extract (by first | rfl | assumption) (by rfl) ?_; refine S_op ?_; refine W_extract (by first | rfl | assumption) (by rfl) ?_; refine S_op ?_; refine W_assignBool (by first | rfl | assumption) ?_; refine S_op ?_; refine W_assignInt (by first | rfl | assumption) ?_; refine S_nil ?_; refine CW_seq ?_; refine CW_region rfl ?_; refine S_op ?_; refine W_moveBool (by first | rfl | assumption) ?_; refine S_op ?_; refine W_moveBool (by first | rfl | assumption) ?_; refine S_op ?_; refine W_beqlT (by first | rfl | assumption) (by first | rfl | assumption) (by first | rfl | assumption) ?_; refine S_op ?_; refine W_moveBool (by first | rfl | assumption) ?_; refine S_want (by rfl) ?_; refine W_moveInt (by first | rfl | assumption) ?_; refine S_want (by rfl) ?_; refine W_eqlT (by first | rfl | assumption) (by first | rfl | assumption) (by first | omega | rfl) ?_; refine S_op ?_; refine W_pickT (by first | rfl | assumption) (by first | rfl | assumption) ?_; refine S_op ?_; refine W_moveBool (by first | rfl | assumption) ?_; refine S_want (by rfl) ?_; refine W_moveInt (by first | rfl | assumption) ?_; refine S_want (by rfl) ?_; refine W_eqlT (by first | rfl | assumption) (by first | rfl | assumption) (by first | omega | rfl) ?_; refine S_op ?_; refine W_pickT (by first | rfl | assumption) (by first | rfl | assumption) ?_; refine S_op ?_; refine W_assignBool (by first | rfl | assumption) ?_; refine S_nil ?_; refine CW_ret ?_)
          exact ⟨_, ResW_one (v := .bool _) rfl, H, hG, rfl⟩
        · exact absurd ((lin_perm (rotL_perm h p)).2 hL) hN
      · skip
        (refine S_op ?_; refine W_moveTup (by first | rfl | assumption) ?_; refine S_op ?_; refine W_extract (by first | rfl | assumption) (by rfl) ?_; refine S_op ?_; refine W_extract (by first | rfl | assumption) (by rfl) ?_; refine S_op ?_; refine W_assignBool (by first | rfl | assumption) ?_; refine S_op ?_; refine W_assignInt (by first | rfl | assumption) ?_; refine S_nil ?_; refine CW_seq ?_; refine CW_region rfl ?_; refine S_op ?_; refine W_moveSl (by first | rfl | assumption) ?_; refine S_op ?_; refine W_moveSl (by first | rfl | assumption) ?_)
        (refine S_op ?_; refine W_call hS (by rfl) (made_c H A1 c1 h.length (rotL h p) (rotL_len h p) hd2 (by omega)) ?_); rintro v H w hG' hm2; replace hG := hG.trans hG'; replace hS := hG'.sub; replace hl := hl.mono hG'.le; replace hd := hd.mono hG'.le; replace hd2 := hd2.mono hG'.le; clear hG'
        obtain ⟨A5, c5, rfl, hc5, hm5⟩ := hm2.dons
        skip
        (refine S_op ?_; refine W_call hS (by rfl) (linear_c H A A5 c c5 l (rotL h p) h.length (rotL_len h p) hl hc (by omega) hm5 hc5) ?_); rintro v H w hG' hv; replace hG := hG.trans hG'; replace hS := hG'.sub; replace hl := hl.mono hG'.le; replace hd := hd.mono hG'.le; replace hd2 := hd2.mono hG'.le; clear hG'
        rcases hv with ⟨p7, _⟩ | ⟨p7, u2, rfl, ⟨_, hY⟩ | ⟨rfl, _⟩⟩
        · omega
        · exact absurd ((lin_perm (rotL_perm h p)).1 hY) hL
        · (refine S_op ?_; refine W_moveTup (by first | rfl | assumption) ?_; refine S_op ?_; refine W_extract (by first | rfl | assumption) (by rfl) ?_; refine S_op ?_; refine W_extract (by first | rfl | assumption) (by rfl) ?_; refine S_op ?_; refine W_assignBool (by first | rfl | assumption) ?_; refine S_op ?_; refine W_assignInt (by first | rfl | assumption) ?_; refine S_nil ?_; refine CW_seq ?_; refine CW_region rfl ?_; refine S_op ?_; refine W_moveBool (by first | rfl | assumption) ?_; refine S_op ?_; refine W_moveBool (by first | rfl | assumption) ?_; refine S_op ?_; refine W_beqlT (by first | rfl | assumption) (by first | rfl | assumption) (by first | rfl | assumption) ?_; refine S_op ?_; refine W_moveBool (by first | rfl | assumption) ?_; refine S_want (by rfl) ?_; refine W_moveInt (by first | rfl | assumption) ?_; refine S_want (by rfl) ?_; refine W_eqlT (by first | rfl | assumption) (by first | rfl | assumption) (by first | omega | rfl) ?_; refine S_op ?_; refine W_pickT (by first | rfl | assumption) (by first | rfl | assumption) ?_; refine S_op ?_; refine W_moveBool (by first | rfl | assumption) ?_; refine S_want (by rfl) ?_; refine W_moveInt (by first | rfl | assumption) ?_; refine S_want (by rfl) ?_; refine W_eqlT (by first | rfl | assumption) (by first | rfl | assumption) (by first | omega | rfl) ?_; refine S_op ?_; refine W_pickT (by first | rfl | assumption) (by first | rfl | assumption) ?_; refine S_op ?_; refine W_assignBool (by first | rfl | assumption) ?_; refine S_nil ?_; refine CW_ret ?_)
          exact ⟨_, ResW_one (v := .bool _) rfl, H, hG, rfl⟩
end Go.Proofs.Ytcbboghjocoiiaa
