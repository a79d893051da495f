/- slices.Grow, Concat, Clone at Node. Conditions: sizes. -/
import Derived.Test.YtnjeoobcejlojaaTy
import Derived.Test.YtnjeoobcejlojaaNew
namespace Go.Proofs.Ytnjeoobcejlojaa
open Go.Proofs Go.RowKit
set_option linter.unusedVariables false
attribute [local irreducible] CW SeqW OpW

theorem grow_Node (H : HF) (w : World) (m : Nat) (hS : Sub H w) (hm : m ≤ 1000000000) :
    CallW Try.prog 111 #[.slice none 0 0, .int .i64 (m : Int)] w fun v w' => ∃ A cap, v = .slice A 0 cap ∧ Grow H w H w' ∧ Own H w' w.heap.size 35 1 A 0 cap [] := by
  refine CallW_of_CW Try.func111 rfl Try.ntmps111 Try.results111 rfl ?_
  by_cases h0 : 0 < m
  · (refine CW_seq ?_; refine CW_region rfl ?_; refine S_op ?_; refine W_assignSl (by first | rfl | assumption) ?_; refine S_nil ?_; refine CW_seq ?_; refine CW_seq ?_; refine CW_region rfl ?_; refine S_op ?_; refine W_moveInt (by first | rfl | assumption) ?_; refine S_op ?_; refine W_lssF (by first | rfl | assumption) (by first | rfl | assumption) (by first | omega | rfl) ?_; refine S_nil ?_; refine CW_false (by first | rfl | assumption) ?_; refine CW_skip ?_; refine CW_seq ?_; refine CW_seq ?_; refine CW_region rfl ?_; refine S_op ?_; refine W_moveInt (by first | rfl | assumption) ?_; refine S_op ?_; refine W_moveSl (by first | rfl | assumption) ?_; refine S_op ?_; refine W_cap (by first | rfl | assumption) ?_; refine S_op ?_; refine W_moveSl (by first | rfl | assumption) ?_; refine S_op ?_; refine W_len (by first | rfl | assumption) ?_; refine S_op ?_; refine W_subN (by first | rfl | assumption) (by first | rfl | assumption) (by omega) (by omega) ?_; refine S_op ?_; refine W_subN (by first | rfl | assumption) (by first | rfl | assumption) (by omega) (by omega) ?_; refine S_op ?_; refine W_assignInt (by first | rfl | assumption) ?_; refine S_nil ?_; refine CW_seq ?_; refine CW_region rfl ?_; refine S_op ?_; refine W_moveInt (by first | rfl | assumption) ?_; refine S_op ?_; refine W_gtrT (by first | rfl | assumption) (by first | rfl | assumption) (by first | omega | rfl) ?_; refine S_nil ?_; refine CW_true (by first | rfl | assumption) ?_; refine CW_region rfl ?_; refine S_op ?_; refine W_moveSl (by first | rfl | assumption) ?_; refine S_op ?_; refine W_moveSl (by first | rfl | assumption) ?_; refine S_op ?_; refine W_cap (by first | rfl | assumption) ?_; refine S_op ?_; refine W_sliceHi (by first | rfl | assumption) (by first | rfl | assumption) (by omega) ?_; refine S_op ?_; refine W_moveInt (by first | rfl | assumption) ?_)
    refine S_op ?_
    refine W_append_zeros rfl rfl (Grow.refl hS) (by omega) (by decide) (by omega) (by omega) ?_
    intro A' cap' w' xs hG _ hown hA
    (refine S_op ?_; refine W_moveSl (by first | rfl | assumption) ?_; refine S_op ?_; refine W_len (by first | rfl | assumption) ?_; refine S_op ?_; refine W_sliceHi (by first | rfl | assumption) (by first | rfl | assumption) (by omega) ?_; refine S_op ?_; refine W_assignSl (by first | rfl | assumption) ?_; refine S_nil ?_; refine CW_seq ?_; refine CW_region rfl ?_; refine S_op ?_; refine W_moveSl (by first | rfl | assumption) ?_; refine S_op ?_; refine W_assignSl (by first | rfl | assumption) ?_; refine S_nil ?_; refine CW_ret ?_)
    exact ⟨_, ResW_one rfl, A', cap', rfl, hG, hown.zero⟩
  · (refine CW_seq ?_; refine CW_region rfl ?_; refine S_op ?_; refine W_assignSl (by first | rfl | assumption) ?_; refine S_nil ?_; refine CW_seq ?_; refine CW_seq ?_; refine CW_region rfl ?_; refine S_op ?_; refine W_moveInt (by first | rfl | assumption) ?_; refine S_op ?_; refine W_lssF (by first | rfl | assumption) (by first | rfl | assumption) (by first | omega | rfl) ?_; refine S_nil ?_; refine CW_false (by first | rfl | assumption) ?_; refine CW_skip ?_; refine CW_seq ?_; refine CW_seq ?_; refine CW_region rfl ?_; refine S_op ?_; refine W_moveInt (by first | rfl | assumption) ?_; refine S_op ?_; refine W_moveSl (by first | rfl | assumption) ?_; refine S_op ?_; refine W_cap (by first | rfl | assumption) ?_; refine S_op ?_; refine W_moveSl (by first | rfl | assumption) ?_; refine S_op ?_; refine W_len (by first | rfl | assumption) ?_; refine S_op ?_; refine W_subN (by first | rfl | assumption) (by first | rfl | assumption) (by omega) (by omega) ?_; refine S_op ?_; refine W_subN (by first | rfl | assumption) (by first | rfl | assumption) (by omega) (by omega) ?_; refine S_op ?_; refine W_assignInt (by first | rfl | assumption) ?_; refine S_nil ?_; refine CW_seq ?_; refine CW_region rfl ?_; refine S_op ?_; refine W_moveInt (by first | rfl | assumption) ?_; refine S_op ?_; refine W_gtrF (by first | rfl | assumption) (by first | rfl | assumption) (by first | omega | rfl) ?_; refine S_nil ?_; refine CW_false (by first | rfl | assumption) ?_; refine CW_skip ?_; refine CW_seq ?_; refine CW_region rfl ?_; refine S_op ?_; refine W_moveSl (by first | rfl | assumption) ?_; refine S_op ?_; refine W_assignSl (by first | rfl | assumption) ?_; refine S_nil ?_; refine CW_ret ?_)
    exact ⟨_, ResW_one rfl, none, 0, rfl, Grow.refl hS, Own.nil _ _ _ _ _⟩

theorem concatN_Node (H : HF) (A : Option Addr) (c : Nat) (ss : List SV) (hA : SlAt H A (ss.map SV.val)) (hss : ∀ s ∈ ss, SvOk 1 H s) (hn : sumN ss ≤ 100000000) (hl : ss.length ≤ 1000000) :
    Fn Try.prog 96 [.slice A ss.length c] H fun v H' => IsNew H 35 1 v (sumN ss) (catC ss) H' := by
  refine Fn_of_CW Try.func96 rfl Try.ntmps96 Try.results96 rfl fun w hS => ?_
  (refine CW_seq ?_; refine CW_region rfl ?_; refine S_op ?_; refine W_assignSl (by first | rfl | assumption) ?_; refine S_nil ?_; refine CW_seq ?_; refine CW_region rfl ?_; refine S_op ?_; refine W_assignInt (by first | rfl | assumption) ?_; refine S_nil ?_; refine CW_seq ?_; refine CW_seq ?_; refine CW_region rfl ?_; refine S_op ?_; refine W_moveSl (by first | rfl | assumption) ?_; refine S_op ?_; refine W_len (by first | rfl | assumption) ?_; refine S_op ?_; refine W_moveInt (by first | rfl | assumption) ?_; refine S_nil ?_; refine CW_block ?_)
  refine CW_loopM [3, 5, 11, 12, 13, 14, 15, 16, 17, 18, 19, 20, 21, 22]
    (fun m u w' => ∃ i : Nat, u 11 = .int .i64 (i : Int) ∧ u 3 = .int .i64 (sumN (ss.take i) : Nat) ∧ w' = w ∧ i ≤ ss.length ∧ ss.length - i ≤ m)
    (m := ss.length) ⟨0, rfl, rfl, rfl, by omega, by omega⟩ ?_
  rintro m u w' ⟨i, h11, h3, rfl, hi, hm⟩
  by_cases hlt : i < ss.length
  · have hs := hss ss[i] (by simp)
    have hcell : (ss.map SV.val)[i * 1]? = some (ss[i].val) := by simp [hlt]
    have hsum : sumN (ss.take (i + 1)) = sumN (ss.take i) + ss[i].n := by rw [take_succ' hlt, sumN_append]; simp [sumN]
    have hle := sumN_le (l := ss) (i := i + 1)
    obtain ⟨b, off, hAA, hrow⟩ : ∃ b off, A = some ⟨b, off, none⟩ ∧ Row H b off (ss.map SV.val) := by
      rcases hA with h | h
      · simp at h; subst h; simp at hlt
      · exact h
    (refine CW_seq ?_; refine CW_region rfl ?_; refine S_op ?_; refine W_lssT (by first | rfl | assumption) (by first | rfl | assumption) (by first | omega | rfl) ?_; refine S_nil ?_; refine CW_seq ?_; refine CW_true (by first | rfl | assumption) ?_; refine CW_skip ?_; refine CW_seq ?_; refine CW_block ?_; refine CW_seq ?_; refine CW_region rfl ?_; refine S_op ?_; refine W_index (by first | rfl | assumption) (by first | rfl | assumption) (by first | assumption | omega | decide) (by first | rfl | assumption) ?_)
    refine S_op (W_loadRow rfl hrow hcell hS ?_)
    (refine S_op ?_; refine W_assignSl (by first | rfl | assumption) ?_; refine S_nil ?_; refine CW_seq ?_; refine CW_region rfl ?_; refine S_op ?_; refine W_moveInt (by first | rfl | assumption) ?_; refine S_op ?_; refine W_moveSl (by first | rfl | assumption) ?_; refine S_op ?_; refine W_len (by first | rfl | assumption) ?_; refine S_op ?_; refine W_addN (by first | rfl | assumption) (by first | rfl | assumption) (by omega) ?_; refine S_op ?_; refine W_assignInt (by first | rfl | assumption) ?_; refine S_nil ?_; refine CW_seq ?_; refine CW_region rfl ?_; refine S_op ?_; refine W_moveInt (by first | rfl | assumption) ?_; refine S_op ?_; refine W_lssF (by first | rfl | assumption) (by first | rfl | assumption) (by first | omega | rfl) ?_; refine S_nil ?_; refine CW_false (by first | rfl | assumption) ?_; refine CW_skip ?_; refine CW_region rfl ?_; refine S_op ?_; refine W_add1 (by first | rfl | assumption) (by omega) ?_; refine S_op ?_; refine W_moveInt (by first | rfl | assumption) ?_; refine S_nil ?_)
    exact ⟨(by repeat (first | exact AgreeOff.over | refine AgreeOff.upd rfl ?_ | refine AgreeOff.over2 rfl ?_)), m - 1, by omega, i + 1, rfl, by rw [hsum]; rfl, rfl, by omega, by omega⟩
  · have hin : i = ss.length := by omega
    subst hin
    rw [List.take_length] at h3
    (refine CW_seq ?_; refine CW_region rfl ?_; refine S_op ?_; refine W_lssF (by first | rfl | assumption) (by first | rfl | assumption) (by first | omega | rfl) ?_; refine S_nil ?_; refine CW_seq ?_; refine CW_false (by first | rfl | assumption) ?_; refine CW_exit ?_; refine CW_seq ?_; refine CW_region rfl ?_; refine S_op ?_; refine W_moveInt (by first | rfl | assumption) ?_)
    refine S_op ?_
    refine W_callW rfl ((grow_Node H w' (sumN ss) hS (by omega)).mono ?_)
    rintro v w1 ⟨A1, c1, rfl, hG1, hown1⟩
    (refine S_op ?_; refine W_assignSl (by first | rfl | assumption) ?_; refine S_nil ?_; refine CW_seq ?_; refine CW_seq ?_; refine CW_region rfl ?_; refine S_op ?_; refine W_moveSl (by first | rfl | assumption) ?_; refine S_op ?_; refine W_len (by first | rfl | assumption) ?_; refine S_op ?_; refine W_moveInt (by first | rfl | assumption) ?_; refine S_nil ?_; refine CW_block ?_)
    refine CW_loopM [6, 8, 27, 28, 29, 30, 31, 32, 33, 34]
      (fun m u w2 => ∃ (i : Nat) (A2 : Option Addr) (c2 : Nat), u 27 = .int .i64 (i : Int) ∧ u 6 = .slice A2 (sumN (ss.take i)) c2 ∧ Grow H w' H w2 ∧ Own H w2 w'.heap.size 35 1 A2 (sumN (ss.take i)) c2 (catC (ss.take i)) ∧ i ≤ ss.length ∧ ss.length - i ≤ m)
      (m := ss.length) ⟨0, A1, c1, rfl, rfl, hG1, hown1, by omega, by omega⟩ ?_
    rintro m2 u2 w2 ⟨j, A2, c2, h27, h6, hG2, hown2, hj, hm2⟩
    have hS2 := hG2.sub
    by_cases hlt : j < ss.length
    · have hs := hss ss[j] (by simp)
      have hcell : (ss.map SV.val)[j * 1]? = some (ss[j].val) := by simp [hlt]
      have hsum : sumN (ss.take (j + 1)) = sumN (ss.take j) + ss[j].n := by rw [take_succ' hlt, sumN_append]; simp [sumN]
      have hcat : catC (ss.take (j + 1)) = catC (ss.take j) ++ ss[j].cs := by rw [take_succ' hlt, catC_append]; simp [catC]
      have hle := sumN_le (l := ss) (i := j + 1)
      obtain ⟨b, off, hAA, hrow⟩ : ∃ b off, A = some ⟨b, off, none⟩ ∧ Row H b off (ss.map SV.val) := by
        rcases hA with h | h
        · simp at h; subst h; simp at hlt
        · exact h
      (refine CW_seq ?_; refine CW_region rfl ?_; refine S_op ?_; refine W_lssT (by first | rfl | assumption) (by first | rfl | assumption) (by first | omega | rfl) ?_; refine S_nil ?_; refine CW_seq ?_; refine CW_true (by first | rfl | assumption) ?_; refine CW_skip ?_; refine CW_seq ?_; refine CW_block ?_; refine CW_seq ?_; refine CW_region rfl ?_; refine S_op ?_; refine W_index (by first | rfl | assumption) (by first | rfl | assumption) (by first | assumption | omega | decide) (by first | rfl | assumption) ?_)
      refine S_op (W_loadRow rfl hrow hcell hS2 ?_)
      (refine S_op ?_; refine W_assignSl (by first | rfl | assumption) ?_; refine S_nil ?_; refine CW_region rfl ?_; refine S_op ?_; refine W_moveSl (by first | rfl | assumption) ?_; refine S_op ?_; refine W_moveSl (by first | rfl | assumption) ?_)
      refine S_op ?_
      refine W_append rfl rfl hG2 hown2 (hs.at_.cells hS2) hs.len hs.one (by decide) (by omega) (by omega) ?_
      intro A3 c3 w3 hG3 hown3 _ hA3
      clear hA3
      rw [← hsum] at hown3
      rw [← hcat] at hown3
      (refine S_op ?_; refine W_assignSl (by first | rfl | assumption) ?_; refine S_nil ?_; refine CW_region rfl ?_; refine S_op ?_; refine W_add1 (by first | rfl | assumption) (by omega) ?_; refine S_op ?_; refine W_moveInt (by first | rfl | assumption) ?_; refine S_nil ?_)
      exact ⟨(by repeat (first | exact AgreeOff.over | refine AgreeOff.upd rfl ?_ | refine AgreeOff.over2 rfl ?_)), m2 - 1, by omega, j + 1, A3, c3, rfl, by rw [hsum]; rfl, hG3, hown3, by omega, by omega⟩
    · have hin : j = ss.length := by omega
      subst hin
      rw [List.take_length] at h6 hown2
      (refine CW_seq ?_; refine CW_region rfl ?_; refine S_op ?_; refine W_lssF (by first | rfl | assumption) (by first | rfl | assumption) (by first | omega | rfl) ?_; refine S_nil ?_; refine CW_seq ?_; refine CW_false (by first | rfl | assumption) ?_; refine CW_exit ?_; refine CW_seq ?_; refine CW_region rfl ?_; refine S_op ?_; refine W_moveSl (by first | rfl | assumption) ?_; refine S_op ?_; refine W_assignSl (by first | rfl | assumption) ?_; refine S_nil ?_; refine CW_ret ?_)
      obtain ⟨H3, hle3, hG3, hn3⟩ := hown2.freezeN hG2
      exact ⟨_, ResW_one (v := .slice _ _ _) rfl, H3, hG3, hn3⟩
theorem concat_Node (H : HF) (A : Option Addr) (c : Nat) (ss : List SV) (hA : SlAt H A (ss.map SV.val)) (hss : ∀ s ∈ ss, SvOk 1 H s) (hn : sumN ss ≤ 100000000) (hl : ss.length ≤ 1000000) :
    Fn Try.prog 96 [.slice A ss.length c] H fun v H' => IsSl 1 v (sumN ss) (catC ss) H' :=
  (concatN_Node H A c ss hA hss hn hl).mono fun v H' _ h => h.sl
theorem catN_Node (H : HF) (v : Value) (k N : Nat) (cs : List Value) (h : IsCat 1 v k N cs H) (hN : N ≤ 100000000) (hk : k ≤ 1000000) : Fn Try.prog 96 [v] H fun v H' => IsNew H 35 1 v N cs H' := by
  obtain ⟨A, c, ss, rfl, rfl, h3, h4, rfl, rfl⟩ := h
  exact concatN_Node H A c ss h3 h4 hN hk
theorem cat_Node (H : HF) (v : Value) (k N : Nat) (cs : List Value) (h : IsCat 1 v k N cs H) (hN : N ≤ 100000000) (hk : k ≤ 1000000) : Fn Try.prog 96 [v] H fun v H' => IsSl 1 v N cs H' :=
  (catN_Node H v k N cs h hN hk).mono fun v H' _ h => h.sl
theorem cloneN_Node (H : HF) (A : Option Addr) (n c : Nat) (cs : List Value) (hA : SlAt H A cs) (hl : cs.length = n * 1) (h1 : OneCells cs) (hn : n ≤ 100000000) (hnc : n ≤ c) :
    Fn Try.prog 77 [.slice A n c] H fun v H' => IsNew H 35 1 v n cs H' := by
  refine Fn_of_CW Try.func77 rfl Try.ntmps77 Try.results77 rfl fun w hS => ?_
  (refine CW_seq ?_; refine CW_region rfl ?_; refine S_op ?_; refine W_assignSl (by first | rfl | assumption) ?_; refine S_nil ?_; refine CW_seq ?_; refine CW_seq ?_; refine CW_region rfl ?_; refine S_op ?_; refine W_moveSl (by first | rfl | assumption) ?_; refine S_op ?_; refine W_sleqnil (by first | rfl | assumption) (by first | rfl | assumption) ?_; refine S_nil ?_)
  cases A with
  | none =>
    have hcs : cs = [] := by
      rcases hA with h | ⟨b, off, h, _⟩
      · exact h
      · cases h
    subst hcs
    have hn0 : n = 0 := by simp at hl; omega
    subst hn0
    (refine CW_true (by first | rfl | assumption) ?_; refine CW_seq ?_; refine CW_region rfl ?_; refine S_op ?_; refine W_assignSl (by first | rfl | assumption) ?_; refine S_nil ?_; refine CW_ret ?_)
    exact ⟨_, ResW_one (v := .slice _ _ _) rfl, H, Grow.refl hS, none, 0, rfl, rfl, .inl ⟨rfl, rfl, rfl⟩⟩
  | some a =>
    (refine CW_false (by first | rfl | assumption) ?_; refine CW_skip ?_; refine CW_seq ?_; refine CW_region rfl ?_)
    refine S_op ?_
    refine W_buildSlice (cs := #[]) hS (by omega) (by simp [Instr.fill]) ?_
    intro H1 w1 b hG1 hb1 hsz hw1
    (refine S_op ?_; refine W_moveSl (by first | rfl | assumption) ?_)
    refine S_op ?_
    by_cases h0 : 0 < n
    · refine W_append_new (xs := []) (news := cs) rfl rfl hG1 (by simp) (.inl rfl) (by simp) ((hA.mono hG1.le).cells hG1.sub) hl h1 (by omega) h0 (by decide) (by omega) (by omega) ?_
      intro A3 c3 w3 hG3 _ hown3 _
      simp only [Nat.zero_add, List.nil_append] at hown3 ⊢
      (refine S_op ?_; refine W_assignSl (by first | rfl | assumption) ?_; refine S_nil ?_; refine CW_ret ?_)
      obtain ⟨H4, hle4, hG4, hn4⟩ := hown3.freezeN hG3
      exact ⟨_, ResW_one (v := .slice _ _ _) rfl, H4, hG4, hn4⟩
    · have hn0 : n = 0 := by omega
      subst hn0
      refine W_append_none (sz := 1) rfl rfl (Nat.le_refl _) rfl ?_
      (refine S_op ?_; refine W_assignSl (by first | rfl | assumption) ?_; refine S_nil ?_; refine CW_ret ?_)
      have hcs : cs = [] := List.eq_nil_of_length_eq_zero (by simpa using hl)
      subst hcs
      exact ⟨_, ResW_one (v := .slice _ _ _) rfl, H1, hG1, _, _, rfl, by simp, .inr ⟨b, #[], rfl, hb1, hS.fresh (by omega), Nat.le_refl _, by omega, by simp, by simp⟩⟩
theorem clone_Node (H : HF) (A : Option Addr) (n c : Nat) (cs : List Value) (hA : SlAt H A cs) (hl : cs.length = n * 1) (h1 : OneCells cs) (hn : n ≤ 100000000) (hnc : n ≤ c) :
    Fn Try.prog 77 [.slice A n c] H fun v H' => IsSl 1 v n cs H' :=
  (cloneN_Node H A n c cs hA hl h1 hn hnc).mono fun v H' _ h => h.sl
theorem cloneNil_Node (H : HF) : Fn Try.prog 77 [.slice none 0 0] H fun v H' => v = .slice none 0 0 := by
  refine Fn_of_CW Try.func77 rfl Try.ntmps77 Try.results77 rfl fun w hS => ?_; have hG := Grow.refl hS; have hS0 := hS
  (refine CW_seq ?_; refine CW_region rfl ?_; refine S_op ?_; refine W_assignSl (by first | rfl | assumption) ?_; refine S_nil ?_; refine CW_seq ?_; refine CW_seq ?_; refine CW_region rfl ?_; refine S_op ?_; refine W_moveSl (by first | rfl | assumption) ?_; refine S_op ?_; refine W_sleqnil (by first | rfl | assumption) (by first | rfl | assumption) ?_; refine S_nil ?_; refine CW_true (by first | rfl | assumption) ?_; refine CW_seq ?_; refine CW_region rfl ?_; refine S_op ?_; refine W_assignSl (by first | rfl | assumption) ?_; refine S_nil ?_; refine CW_ret ?_)
  exact ⟨_, ResW_one (v := .slice _ _ _) rfl, H, hG, rfl⟩
end Go.Proofs.Ytnjeoobcejlojaa
