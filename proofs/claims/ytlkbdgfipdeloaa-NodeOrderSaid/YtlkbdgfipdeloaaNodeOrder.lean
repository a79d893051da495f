/- NodeOrder: it answers true. Conditions: sizes. -/
import Derived.Test.YtlkbdgfipdeloaaLaw09
import Derived.Test.YtlkbdgfipdeloaaNewNode
import Derived.Test.YtlkbdgfipdeloaaNewOwn
import Derived.Test.YtlkbdgfipdeloaaLent
import Derived.Test.YtlkbdgfipdeloaaRegU
import Derived.Test.YtlkbdgfipdeloaaSame
namespace Go.Proofs.Ytlkbdgfipdeloaa
open Go.Proofs Go.RowKit
set_option linter.unusedVariables false
attribute [local irreducible] CW SeqW OpW
set_option maxHeartbeats 4000000
theorem full_ones {b : Nat} {ks : List (Nd 0)} (h0 : 0 < ks.length) (h1 : ∀ k ∈ ks, (Nd.items 0 k).length = 1) : Nd.full (0 + 1) (Nd.branch b ks) = false := by
  cases ks with
  | nil => simp at h0
  | cons k ks =>
    have := h1 k (by simp)
    have h2 : Nd.enough 0 k = false := by
      show decide (2 ≤ (Nd.items 0 k).length) = false
      rw [this]; rfl
    show ((k :: ks).all fun k => Nd.enough 0 k && Nd.full 0 k) = false
    simp [h2]
theorem rise_pair {l : List Ent} (h : riseB l = true) {i j : Nat} (hij : i < j) (hj : j < l.length) : slt (ent l i).key (ent l j).key = true := by
  have h1 : l = l.take j ++ l.drop j := (List.take_append_drop j l).symm
  rw [h1] at h
  refine (riseB_append.1 h).2.2 _ ?_ _ ?_
  · rw [List.mem_iff_getElem?]
    exact ⟨i, by rw [List.getElem?_take, if_pos hij, ent_at (by omega)]⟩
  · rw [List.mem_iff_getElem?]
    exact ⟨0, by rw [List.getElem?_drop, Nat.add_zero, ent_at hj]⟩
theorem flat_ones {ks : List (Nd 0)} (h1 : ∀ k ∈ ks, (Nd.items 0 k).length = 1) : ks.flatMap (Nd.items 0) = ks.map fun k => ent (Nd.items 0 k) 0 := by
  induction ks with
  | nil => rfl
  | cons k ks ih =>
    simp only [List.flatMap_cons, List.map_cons]
    rw [ih (fun k hk => h1 k (by simp [hk]))]
    have h2 := h1 k (by simp)
    match hk : Nd.items 0 k, h2 with
    | [e], _ => rfl
theorem swap_chain {ks : List (Nd 0)} (hok : ∀ k ∈ ks, Nd.Ok 0 k) (h1 : ∀ k ∈ ks, (Nd.items 0 k).length = 1) (hr : riseB (ks.flatMap (Nd.items 0)) = true) {x y : Nat} (hx : x < ks.length) (hy : y < ks.length) :
    Nd.chain ((ks.set x ks[y]).set y ks[x]) = decide (x = y) := by
  have hmem : ∀ k ∈ (ks.set x ks[y]).set y ks[x], k ∈ ks := by
    intro k hk
    rcases List.mem_or_eq_of_mem_set hk with h | h
    · rcases List.mem_or_eq_of_mem_set h with h | h
      · exact h
      · rw [h]; exact List.getElem_mem _
    · rw [h]; exact List.getElem_mem _
  by_cases e : x = y
  · subst e
    have : (ks.set x ks[x]).set x ks[x] = ks := by simp
    rw [this]
    simp only [decide_true]
    exact (Nd.chain_iff hok).2 hr
  · rw [decide_eq_false e]
    cases hc : Nd.chain ((ks.set x ks[y]).set y ks[x]) with
    | false => rfl
    | true =>
      exfalso
      have h2 := (Nd.chain_iff (fun k hk => hok k (hmem k hk))).1 hc
      rw [flat_ones (fun k hk => h1 k (hmem k hk))] at h2
      rw [flat_ones h1] at hr
      have hg : ∀ (l : List (Nd 0)) (i : Nat) (hi : i < l.length), ent (l.map fun k => ent (Nd.items 0 k) 0) i = ent (Nd.items 0 l[i]) 0 := by
        intro l i hi; simp [ent, hi]
      rcases Nat.lt_or_ge x y with hlt | hge
      · have h3 := rise_pair hr hlt (by simpa using hy)
        have h4 := rise_pair h2 hlt (by simpa using hy)
        rw [hg _ _ hx, hg _ _ hy] at h3
        rw [hg ((ks.set x ks[y]).set y ks[x]) x (by simpa using hx), hg ((ks.set x ks[y]).set y ks[x]) y (by simpa using hy)] at h4
        simp only [List.getElem_set, if_true, if_neg (Ne.symm e)] at h4
        rw [slt_asymm h3] at h4; cases h4
      · have hlt : y < x := by omega
        have h3 := rise_pair hr hlt (by simpa using hx)
        have h4 := rise_pair h2 hlt (by simpa using hx)
        rw [hg _ _ hx, hg _ _ hy] at h3
        rw [hg ((ks.set x ks[y]).set y ks[x]) x (by simpa using hx), hg ((ks.set x ks[y]).set y ks[x]) y (by simpa using hy)] at h4
        simp only [List.getElem_set, if_true, if_neg (Ne.symm e)] at h4
        rw [slt_asymm h3] at h4; cases h4
theorem nodeOrder_c (H0 : HF) (A : Option Addr) (c : Nat) (l : List Ent) (p q : Nat) (hp1 : p ≤ 255) (hq1 : q ≤ 255) (hl : EntsAt H0 A l) (hc : l.length ≤ c) (hb : l.length ≤ 100000000000000) (hk : ∀ e ∈ l, e.key.size ≤ 1000000000000000 ∧ e.val.size ≤ 1000000000000000) :
    Fn Try.prog 4 [.slice A l.length c, .int .u8 (p : Int), .int .u8 (q : Int)] H0 fun v _ => v = .bool true := by
  refine Fn_of_CW Try.func4 rfl Try.ntmps4 Try.results4 rfl fun w0 hS => ?_; have hG := Grow.refl hS
  (refine CW_seq ?_; refine CW_region rfl ?_; refine S_op ?_; refine W_assignBool (by first | rfl | assumption) ?_; refine S_nil ?_; refine CW_seq ?_; refine CW_seq ?_; refine CW_region rfl ?_)
  (refine S_op ?_; refine W_call hS (by rfl) (awake9_c H0) ?_); rintro v H w hG' rfl; replace hG := hG.trans hG'; replace hS := hG'.sub; replace hl := hl.mono hG'.le; clear hG'
  (refine S_op ?_; refine W_not (by first | rfl | assumption) ?_; refine S_op ?_; refine W_moveBool (by first | rfl | assumption) ?_; refine S_want (by rfl) ?_; refine W_moveSl (by first | rfl | assumption) ?_; refine S_want (by rfl) ?_; refine W_build (by rfl) ?_)
  refine S_want (by rfl) ?_
  refine W_build1 (sz := 2) (v := .agg #[.int .i64 0, .slice A l.length c]) hS (by omega) (by rfl) (by rfl) ?_
  intro H w g hG' hg _ _
  replace hG := hG.trans hG'
  replace hS := hG'.sub
  replace hl := hl.mono hG'.le
  clear hG'
  have ho : Ops09At H (some ⟨g, 0, none⟩) [⟨0, A, c, l⟩] := ⟨SlAt.of_row hg, by intro o ho; rw [List.mem_singleton] at ho; subst ho; exact hl⟩
  skip
  (refine S_want (by rfl) ?_; refine W_call hS (by rfl) (few9_c H (some ⟨g, 0, none⟩) 1 [⟨0, A, c, l⟩] ho (by simp) (by intro o ho; rw [List.mem_singleton] at ho; subst ho; exact hb) (by intro o ho; rw [List.mem_singleton] at ho; subst ho; exact hk)) ?_); rintro v H w hG' ⟨z, rfl, hz⟩; replace hG := hG.trans hG'; replace hS := hG'.sub; replace hl := hl.mono hG'.le; clear hG'
  cases z with
  | false =>
    skip
    (refine S_want (by rfl) ?_; refine W_not (by first | rfl | assumption) ?_; refine S_op ?_; refine W_pickF (by first | rfl | assumption) (by first | rfl | assumption) ?_; refine S_op ?_; refine W_moveBool (by first | rfl | assumption) ?_; refine S_pass (by rfl) ?_; refine S_pass (by rfl) ?_; refine S_pass (by rfl) ?_; refine S_op ?_; refine W_pickT (by first | rfl | assumption) (by first | rfl | assumption) ?_; refine S_op ?_; refine W_moveBool (by first | rfl | assumption) ?_; refine S_pass (by rfl) ?_; refine S_pass (by rfl) ?_; refine S_pass (by rfl) ?_; refine S_op ?_; refine W_pickT (by first | rfl | assumption) (by first | rfl | assumption) ?_; refine S_op ?_; refine W_moveBool (by first | rfl | assumption) ?_; refine S_pass (by rfl) ?_; refine S_pass (by rfl) ?_; refine S_pass (by rfl) ?_; refine S_op ?_; refine W_pickT (by first | rfl | assumption) (by first | rfl | assumption) ?_; refine S_nil ?_; refine CW_true (by first | rfl | assumption) ?_; refine CW_seq ?_; refine CW_region rfl ?_)
    (refine S_op ?_; refine W_call hS (by rfl) (awake9_c H) ?_); rintro v H w hG' rfl; replace hG := hG.trans hG'; replace hS := hG'.sub; clear hG'
    (refine S_op ?_; refine W_assignBool (by first | rfl | assumption) ?_; refine S_nil ?_; refine CW_ret ?_)
    exact ⟨_, ResW_one (v := .bool _) rfl, H, hG, rfl⟩
  | true =>
    by_cases h2 : l.length < 2
    · skip
      (refine S_want (by rfl) ?_; refine W_not (by first | rfl | assumption) ?_; refine S_op ?_; refine W_pickF (by first | rfl | assumption) (by first | rfl | assumption) ?_; refine S_op ?_; refine W_moveBool (by first | rfl | assumption) ?_; refine S_want (by rfl) ?_; refine W_moveSl (by first | rfl | assumption) ?_; refine S_want (by rfl) ?_; refine W_len (by first | rfl | assumption) ?_; refine S_want (by rfl) ?_; refine W_lssT (by first | rfl | assumption) (by first | rfl | assumption) (by first | omega | rfl) ?_; refine S_op ?_; refine W_pickF (by first | rfl | assumption) (by first | rfl | assumption) ?_; refine S_op ?_; refine W_moveBool (by first | rfl | assumption) ?_; refine S_pass (by rfl) ?_; refine S_pass (by rfl) ?_; refine S_pass (by rfl) ?_; refine S_op ?_; refine W_pickT (by first | rfl | assumption) (by first | rfl | assumption) ?_; refine S_op ?_; refine W_moveBool (by first | rfl | assumption) ?_; refine S_pass (by rfl) ?_; refine S_pass (by rfl) ?_; refine S_pass (by rfl) ?_; refine S_op ?_; refine W_pickT (by first | rfl | assumption) (by first | rfl | assumption) ?_; refine S_nil ?_; refine CW_true (by first | rfl | assumption) ?_; refine CW_seq ?_; refine CW_region rfl ?_)
      (refine S_op ?_; refine W_call hS (by rfl) (awake9_c H) ?_); rintro v H w hG' rfl; replace hG := hG.trans hG'; replace hS := hG'.sub; clear hG'
      (refine S_op ?_; refine W_assignBool (by first | rfl | assumption) ?_; refine S_nil ?_; refine CW_ret ?_)
      exact ⟨_, ResW_one (v := .bool _) rfl, H, hG, rfl⟩
    by_cases h6 : 6 < l.length
    · skip
      (refine S_want (by rfl) ?_; refine W_not (by first | rfl | assumption) ?_; refine S_op ?_; refine W_pickF (by first | rfl | assumption) (by first | rfl | assumption) ?_; refine S_op ?_; refine W_moveBool (by first | rfl | assumption) ?_; refine S_want (by rfl) ?_; refine W_moveSl (by first | rfl | assumption) ?_; refine S_want (by rfl) ?_; refine W_len (by first | rfl | assumption) ?_; refine S_want (by rfl) ?_; refine W_lssF (by first | rfl | assumption) (by first | rfl | assumption) (by first | omega | rfl) ?_; refine S_op ?_; refine W_pickF (by first | rfl | assumption) (by first | rfl | assumption) ?_; refine S_op ?_; refine W_moveBool (by first | rfl | assumption) ?_; refine S_want (by rfl) ?_; refine W_moveSl (by first | rfl | assumption) ?_; refine S_want (by rfl) ?_; refine W_len (by first | rfl | assumption) ?_; refine S_want (by rfl) ?_; refine W_gtrT (by first | rfl | assumption) (by first | rfl | assumption) (by first | omega | rfl) ?_; refine S_op ?_; refine W_pickF (by first | rfl | assumption) (by first | rfl | assumption) ?_; refine S_op ?_; refine W_moveBool (by first | rfl | assumption) ?_; refine S_pass (by rfl) ?_; refine S_pass (by rfl) ?_; refine S_pass (by rfl) ?_; refine S_op ?_; refine W_pickT (by first | rfl | assumption) (by first | rfl | assumption) ?_; refine S_nil ?_; refine CW_true (by first | rfl | assumption) ?_; refine CW_seq ?_; refine CW_region rfl ?_)
      (refine S_op ?_; refine W_call hS (by rfl) (awake9_c H) ?_); rintro v H w hG' rfl; replace hG := hG.trans hG'; replace hS := hG'.sub; clear hG'
      (refine S_op ?_; refine W_assignBool (by first | rfl | assumption) ?_; refine S_nil ?_; refine CW_ret ?_)
      exact ⟨_, ResW_one (v := .bool _) rfl, H, hG, rfl⟩
    (refine S_want (by rfl) ?_; refine W_not (by first | rfl | assumption) ?_; refine S_op ?_; refine W_pickF (by first | rfl | assumption) (by first | rfl | assumption) ?_; refine S_op ?_; refine W_moveBool (by first | rfl | assumption) ?_; refine S_want (by rfl) ?_; refine W_moveSl (by first | rfl | assumption) ?_; refine S_want (by rfl) ?_; refine W_len (by first | rfl | assumption) ?_; refine S_want (by rfl) ?_; refine W_lssF (by first | rfl | assumption) (by first | rfl | assumption) (by first | omega | rfl) ?_; refine S_op ?_; refine W_pickF (by first | rfl | assumption) (by first | rfl | assumption) ?_; refine S_op ?_; refine W_moveBool (by first | rfl | assumption) ?_; refine S_want (by rfl) ?_; refine W_moveSl (by first | rfl | assumption) ?_; refine S_want (by rfl) ?_; refine W_len (by first | rfl | assumption) ?_; refine S_want (by rfl) ?_; refine W_gtrF (by first | rfl | assumption) (by first | rfl | assumption) (by first | omega | rfl) ?_; refine S_op ?_; refine W_pickF (by first | rfl | assumption) (by first | rfl | assumption) ?_; refine S_op ?_; refine W_moveBool (by first | rfl | assumption) ?_; refine S_want (by rfl) ?_; refine W_moveSl (by first | rfl | assumption) ?_)
    (refine S_want (by rfl) ?_; refine W_call hS (by rfl) (rRise_c H A c l hl (by omega)) ?_); rintro v H w hG' rfl; replace hG := hG.trans hG'; replace hS := hG'.sub; replace hl := hl.mono hG'.le; clear hG'
    cases hr : riseB l with
    | false =>
      skip
      (refine S_want (by rfl) ?_; refine W_not (by first | rfl | assumption) ?_; refine S_op ?_; refine W_pickF (by first | rfl | assumption) (by first | rfl | assumption) ?_; refine S_nil ?_; refine CW_true (by first | rfl | assumption) ?_; refine CW_seq ?_; refine CW_region rfl ?_)
      (refine S_op ?_; refine W_call hS (by rfl) (awake9_c H) ?_); rintro v H w hG' rfl; replace hG := hG.trans hG'; replace hS := hG'.sub; clear hG'
      (refine S_op ?_; refine W_assignBool (by first | rfl | assumption) ?_; refine S_nil ?_; refine CW_ret ?_)
      exact ⟨_, ResW_one (v := .bool _) rfl, H, hG, rfl⟩
    | true =>
      (refine S_want (by rfl) ?_; refine W_not (by first | rfl | assumption) ?_; refine S_op ?_; refine W_pickF (by first | rfl | assumption) (by first | rfl | assumption) ?_; refine S_nil ?_; refine CW_false (by first | rfl | assumption) ?_; refine CW_skip ?_; refine CW_seq ?_; refine CW_region rfl ?_; refine S_op ?_; refine W_assignSl (by first | rfl | assumption) ?_; refine S_nil ?_; refine CW_seq ?_; refine CW_seq ?_; refine CW_region rfl ?_; refine S_op ?_; refine W_moveSl (by first | rfl | assumption) ?_; refine S_op ?_; refine W_len (by first | rfl | assumption) ?_; refine S_op ?_; refine W_moveInt (by first | rfl | assumption) ?_; refine S_nil ?_; refine CW_block ?_)
      refine CW_loopM [6, 7, 8, 9, 10, 44, 45, 46, 47, 48, 49, 50, 51, 52, 53, 54, 55, 56, 57, 58, 59, 60, 61, 62]
        (fun m u w2 => ∃ (i : Nat) (ks : List (Nd 0)) (A1 : Option Addr) (c1 : Nat) (H2 : HF), u 44 = .int .i64 (i : Int) ∧ u 7 = .slice A1 i c1 ∧ Grow H0 w0 H2 w2 ∧ EntsAt H2 A l ∧ AllAt H2 0 ks ∧ ks.flatMap (Nd.items 0) = l.take i ∧ (∀ k ∈ ks, (Nd.items 0 k).length = 1) ∧
          Own H2 w2 w0.heap.size 29 1 A1 i c1 (ks.map Nd.ptr) ∧ ks.length = i ∧ i ≤ l.length ∧ l.length - i ≤ m)
        (m := l.length) ⟨0, [], none, 0, H, rfl, rfl, hG, hl, (by intro k hk; cases hk), rfl, (by intro k hk; cases hk), Own.nil _ _ _ _ _, rfl, by omega, by omega⟩ ?_
      clear hG hl
      rintro m u w ⟨i, ks, A1, c1, H, h44, h7, hG, hl, hks, hfl, hone, ho1, hkl, hi, hm⟩
      replace hS := hG.sub
      by_cases hlt : i < l.length
      · obtain ⟨b, off, hA, hrow⟩ := hl.some hlt
        (refine CW_seq ?_; refine CW_region rfl ?_; refine S_op ?_; refine W_lssT (by first | rfl | assumption) (by first | rfl | assumption) (by first | omega | rfl) ?_; refine S_nil ?_; refine CW_seq ?_; refine CW_true (by first | rfl | assumption) ?_; refine CW_skip ?_; refine CW_seq ?_; refine CW_block ?_; refine CW_seq ?_; refine CW_region rfl ?_; refine S_op ?_; refine W_moveInt (by first | rfl | assumption) ?_; refine S_op ?_; refine W_assignInt (by first | rfl | assumption) ?_; refine S_nil ?_; refine CW_seq ?_; refine CW_region rfl ?_; refine S_op ?_; refine W_moveSl (by first | rfl | assumption) ?_; refine S_op ?_; refine W_moveInt (by first | rfl | assumption) ?_; refine S_op ?_; refine W_index (by first | rfl | assumption) (by first | rfl | assumption) (by first | assumption | omega | decide) (by first | rfl | assumption) ?_; refine S_op ?_; refine W_loadEnt (by first | rfl | assumption) (by assumption) (by first | assumption | omega) (by assumption) ?_)
        refine S_op ?_
        refine W_build1 (sz := 2) (v := .agg #[.string (ent l i).key, .string (ent l i).val]) hS (by omega) (by rfl) (by rfl) ?_
        intro H w b1 hG' hb1 _ _
        replace hG := hG.trans hG'
        replace hS := hG'.sub
        replace hl := hl.mono hG'.le
        replace hks := hks.mono hG'.le
        replace ho1 := ho1.grow hG'
        clear hG'
        have he1 : EntsAt H (some ⟨b1, 0, none⟩) [ent l i] := SlAt.of_row hb1
        skip
        (refine S_op ?_; refine W_call hS (by rfl) (leaf_c H (some ⟨b1, 0, none⟩) 1 [ent l i] he1 (by simp) (by simp)) ?_); rintro v H w hG' hv; replace hG := hG.trans hG'; replace hS := hG'.sub; replace hl := hl.mono hG'.le; replace hks := hks.mono hG'.le; replace ho1 := ho1.grow hG'; clear hG'
        rcases hv with ⟨_, rfl⟩ | ⟨_, b, _, rfl, hx⟩
        · (refine S_op ?_; refine W_moveTup (by first | rfl | assumption) ?_; refine S_op ?_; refine W_extract (by first | rfl | assumption) (by rfl) ?_; refine S_op ?_; refine W_extract (by first | rfl | assumption) (by rfl) ?_; refine S_op ?_; refine W_assignPtr (by first | rfl | assumption) ?_; refine S_op ?_; refine W_assignInt (by first | rfl | assumption) ?_; refine S_nil ?_; refine CW_seq ?_; refine CW_seq ?_; refine CW_region rfl ?_; refine S_op ?_; refine W_moveInt (by first | rfl | assumption) ?_; refine S_op ?_; refine W_neqT (by first | rfl | assumption) (by first | rfl | assumption) (by first | omega | rfl) ?_; refine S_nil ?_; refine CW_true (by first | rfl | assumption) ?_; refine CW_seq ?_; refine CW_region rfl ?_; refine S_op ?_; refine W_assignBool (by first | rfl | assumption) ?_; refine S_nil ?_; refine CW_ret ?_)
          exact ⟨_, ResW_one (v := .bool _) rfl, H, hG, rfl⟩
        · (refine S_op ?_; refine W_moveTup (by first | rfl | assumption) ?_; refine S_op ?_; refine W_extract (by first | rfl | assumption) (by rfl) ?_; refine S_op ?_; refine W_extract (by first | rfl | assumption) (by rfl) ?_; refine S_op ?_; refine W_assignPtr (by first | rfl | assumption) ?_; refine S_op ?_; refine W_assignInt (by first | rfl | assumption) ?_; refine S_nil ?_; refine CW_seq ?_; refine CW_seq ?_; refine CW_region rfl ?_; refine S_op ?_; refine W_moveInt (by first | rfl | assumption) ?_; refine S_op ?_; refine W_neqF (by first | rfl | assumption) (by first | rfl | assumption) (by first | omega | rfl) ?_; refine S_nil ?_; refine CW_false (by first | rfl | assumption) ?_; refine CW_skip ?_; refine CW_region rfl ?_; refine S_op ?_; refine W_moveSl (by first | rfl | assumption) ?_; refine S_op ?_; refine W_movePtr (by first | rfl | assumption) ?_)
          refine S_op ?_
          refine W_build1 (sz := 1) (v := (Nd.leaf b [ent l i]).ptr) hS (by omega) (by rfl) (by rfl) ?_
          intro H w b2 hG' hb2 _ _
          replace hG := hG.trans hG'
          replace hS := hG'.sub
          replace hl := hl.mono hG'.le
          replace hks := hks.mono hG'.le
          replace hx := NodeAt.mono hG'.le hx
          replace ho1 := ho1.grow hG'
          clear hG'
          skip
          refine S_op ?_
          refine W_append (news := [(Nd.leaf b [ent l i]).ptr]) (m := 1) (by rfl) (by rfl) hG ho1 ((SlAt.of_row hb2).cells hS) (by rfl) (by intro u hu; simp at hu; subst hu; rfl) (by decide) (by omega) (by omega) ?_
          intro A1' c1' w hG ho1' hgb hA1'
          clear hA1'
          (refine S_op ?_; refine W_assignSl (by first | rfl | assumption) ?_; refine S_nil ?_; refine CW_region rfl ?_; refine S_op ?_; refine W_add1 (by first | rfl | assumption) (by omega) ?_; refine S_op ?_; refine W_moveInt (by first | rfl | assumption) ?_; refine S_nil ?_)
          exact ⟨(by repeat (first | exact AgreeOff.over | refine AgreeOff.upd rfl ?_ | refine AgreeOff.over2 rfl ?_)), m - 1, by omega, i + 1, ks ++ [.leaf b [ent l i]], A1', c1', H, rfl, rfl, hG, hl, (by
            intro k hk
            rcases List.mem_append.1 hk with h | h
            · exact hks k h
            · rw [List.mem_singleton] at h; subst h; exact hx), (by
            rw [List.flatMap_append, hfl, take_succ' hlt]; show List.take i l ++ [ent l i] = List.take i l ++ [l[i]]; simp [ent, hlt]), (by
            intro k hk
            rcases List.mem_append.1 hk with h | h
            · exact hone k h
            · rw [List.mem_singleton] at h; subst h; rfl), by rw [List.map_append]; exact ho1', by simp [hkl], by omega, by omega⟩
      · have hin : i = l.length := by omega
        subst hin
        rw [List.take_length] at hfl
        have hch : Nd.chain ks = true := (Nd.chain_iff hks.ok).2 (by rw [hfl]; exact hr)
        obtain ⟨g1, cs, rfl, hBg, hmut, htake⟩ := ho1.mut (by omega)
        rw [Nat.mul_one] at htake
        have hcap := ho1.cap
        have hcl : cs.length = c1 ∧ l.length ≤ cs.length := by
          have h1 := congrArg List.length htake
          simp at h1
          obtain ⟨g', cap', cur, hv, _, h3, _, _, h6, _⟩ := ho1.row.2.resolve_left (by simp)
          simp at hv
          obtain ⟨T, h8⟩ := hmut.at_
          rw [hv.1, h3] at h8
          cases h8
          simp at h6
          omega
        (refine CW_seq ?_; refine CW_region rfl ?_; refine S_op ?_; refine W_lssF (by first | rfl | assumption) (by first | rfl | assumption) (by first | omega | rfl) ?_; refine S_nil ?_; refine CW_seq ?_; refine CW_false (by first | rfl | assumption) ?_; refine CW_exit ?_; refine CW_seq ?_; refine CW_region rfl ?_; refine S_op ?_; refine W_moveSl (by first | rfl | assumption) ?_)
        refine S_op ?_
        refine W_callW (by rfl) ((branch_lent (n := l.length) (c := c1) hS hmut htake hkl hks hcap (by omega) (by omega)).mono ?_)
        rintro v w ⟨H, hG2, h1 | ⟨_, bb, hbg, hbn, rfl, hx⟩⟩
        · exact absurd ⟨by omega, by omega, hch⟩ h1.1
        replace hmut := hmut.grow hG2
        replace hl := hl.mono hG2.le
        replace hks := hks.mono hG2.le
        replace hG := hG.trans hG2
        replace hS := hG2.sub
        clear hG2 hbn ho1
        have hsz : Fn Try.prog 24 [(Nd.branch bb ks).ptr] H fun v _ => v = .int .i64 (l.length : Int) := by
          have := size_c hx
          rwa [show Nd.size (0 + 1) (Nd.branch bb ks) = l.length from hkl] at this
        have hff : Nd.full (0 + 1) (Nd.branch bb ks) = false := full_ones (by omega) hone
        (refine S_op ?_; refine W_moveTup (by first | rfl | assumption) ?_; refine S_op ?_; refine W_extract (by first | rfl | assumption) (by rfl) ?_; refine S_op ?_; refine W_extract (by first | rfl | assumption) (by rfl) ?_; refine S_op ?_; refine W_assignPtr (by first | rfl | assumption) ?_; refine S_op ?_; refine W_assignInt (by first | rfl | assumption) ?_; refine S_nil ?_; refine CW_seq ?_; refine CW_seq ?_; refine CW_region rfl ?_; refine S_op ?_; refine W_moveInt (by first | rfl | assumption) ?_; refine S_op ?_; refine W_neqF (by first | rfl | assumption) (by first | rfl | assumption) (by first | omega | rfl) ?_; refine S_op ?_; refine W_moveBool (by first | rfl | assumption) ?_; refine S_want (by rfl) ?_; refine W_movePtr (by first | rfl | assumption) ?_)
        (refine S_want (by rfl) ?_; refine W_call hS (by rfl) (hsz) ?_); rintro v H w hG' rfl; replace hG := hG.trans hG'; replace hS := hG'.sub; replace hl := hl.mono hG'.le; replace hks := hks.mono hG'.le; replace hx := hx.mono hG'.le; replace hmut := hmut.grow hG'; clear hG'
        (refine S_want (by rfl) ?_; refine W_moveSl (by first | rfl | assumption) ?_; refine S_want (by rfl) ?_; refine W_len (by first | rfl | assumption) ?_; refine S_want (by rfl) ?_; refine W_neqF (by first | rfl | assumption) (by first | rfl | assumption) (by first | omega | rfl) ?_; refine S_op ?_; refine W_pickF (by first | rfl | assumption) (by first | rfl | assumption) ?_; refine S_op ?_; refine W_moveBool (by first | rfl | assumption) ?_; refine S_want (by rfl) ?_; refine W_movePtr (by first | rfl | assumption) ?_)
        (refine S_want (by rfl) ?_; refine W_call hS (by rfl) (full_c (0 + 1) H _ hx) ?_); rintro v H w hG' rfl; replace hG := hG.trans hG'; replace hS := hG'.sub; replace hl := hl.mono hG'.le; replace hks := hks.mono hG'.le; replace hx := hx.mono hG'.le; replace hmut := hmut.grow hG'; clear hG'
        rw [hff]
        (refine S_op ?_; refine W_pickF (by first | rfl | assumption) (by first | rfl | assumption) ?_; refine S_nil ?_; refine CW_false (by first | rfl | assumption) ?_; refine CW_skip ?_; refine CW_seq ?_)
        apply CW_region_grow [_, _, _, _, _, _, _, _, _, _, _, _] [none, none, none, none, none, none, none, none, none, none, none, none] [some 81, some 82, some 83, some 84, some 85, some 86, some 87, some 88, some 89, some 90, some 13, some 14] [81, 82, 83, 84, 85, 86, 87, 88, 89, 90, 13, 14] mixed rfl rfl rfl rfl (by decide) rfl (by assumption)
        · ((apply steps_cons; case h1 => (apply A_pure; intro c u H' w' hG; have hS' := hG.sub; have hS2' := hG.subOld; (repeat (first | refine depGo_eq rfl rfl rfl ?_ | (refine depGo_fact rfl rfl rfl ?_; intro v hv) | refine depGo_skip rfl ?_ | refine depGo_none rfl ?_)); apply Pure1.mk; intro K hk; exact W_moveInt (by first | rfl | assumption) hk)); (apply steps_cons; case h1 => (apply A_pure; intro c u H' w' hG; have hS' := hG.sub; have hS2' := hG.subOld; (repeat (first | refine depGo_eq rfl rfl rfl ?_ | (refine depGo_fact rfl rfl rfl ?_; intro v hv) | refine depGo_skip rfl ?_ | refine depGo_none rfl ?_)); apply Pure1.mk; intro K hk; exact W_convN (by first | rfl | assumption) (by omega) hk)); (apply steps_cons; case h1 => (apply A_pure; intro c u H' w' hG; have hS' := hG.sub; have hS2' := hG.subOld; (repeat (first | refine depGo_eq rfl rfl rfl ?_ | (refine depGo_fact rfl rfl rfl ?_; intro v hv) | refine depGo_skip rfl ?_ | refine depGo_none rfl ?_)); apply Pure1.mk; intro K hk; exact W_moveSl (by first | rfl | assumption) hk)); (apply steps_cons; case h1 => (apply A_pure; intro c u H' w' hG; have hS' := hG.sub; have hS2' := hG.subOld; (repeat (first | refine depGo_eq rfl rfl rfl ?_ | (refine depGo_fact rfl rfl rfl ?_; intro v hv) | refine depGo_skip rfl ?_ | refine depGo_none rfl ?_)); apply Pure1.mk; intro K hk; exact W_len (by first | rfl | assumption) hk)); (apply steps_cons; case h1 => (apply A_pure; intro c u H' w' hG; have hS' := hG.sub; have hS2' := hG.subOld; (repeat (first | refine depGo_eq rfl rfl rfl ?_ | (refine depGo_fact rfl rfl rfl ?_; intro v hv) | refine depGo_skip rfl ?_ | refine depGo_none rfl ?_)); apply Pure1.mk; intro K hk; exact W_remN (by first | rfl | assumption) (by first | rfl | assumption) (by omega) hk)); (apply steps_cons; case h1 => (apply A_pure; intro c u H' w' hG; have hS' := hG.sub; have hS2' := hG.subOld; (repeat (first | refine depGo_eq rfl rfl rfl ?_ | (refine depGo_fact rfl rfl rfl ?_; intro v hv) | refine depGo_skip rfl ?_ | refine depGo_none rfl ?_)); apply Pure1.mk; intro K hk; exact W_moveInt (by first | rfl | assumption) hk)); (apply steps_cons; case h1 => (apply A_pure; intro c u H' w' hG; have hS' := hG.sub; have hS2' := hG.subOld; (repeat (first | refine depGo_eq rfl rfl rfl ?_ | (refine depGo_fact rfl rfl rfl ?_; intro v hv) | refine depGo_skip rfl ?_ | refine depGo_none rfl ?_)); apply Pure1.mk; intro K hk; exact W_convN (by first | rfl | assumption) (by omega) hk)); (apply steps_cons; case h1 => (apply A_pure; intro c u H' w' hG; have hS' := hG.sub; have hS2' := hG.subOld; (repeat (first | refine depGo_eq rfl rfl rfl ?_ | (refine depGo_fact rfl rfl rfl ?_; intro v hv) | refine depGo_skip rfl ?_ | refine depGo_none rfl ?_)); apply Pure1.mk; intro K hk; exact W_moveSl (by first | rfl | assumption) hk)); (apply steps_cons; case h1 => (apply A_pure; intro c u H' w' hG; have hS' := hG.sub; have hS2' := hG.subOld; (repeat (first | refine depGo_eq rfl rfl rfl ?_ | (refine depGo_fact rfl rfl rfl ?_; intro v hv) | refine depGo_skip rfl ?_ | refine depGo_none rfl ?_)); apply Pure1.mk; intro K hk; exact W_len (by first | rfl | assumption) hk)); (apply steps_cons; case h1 => (apply A_pure; intro c u H' w' hG; have hS' := hG.sub; have hS2' := hG.subOld; (repeat (first | refine depGo_eq rfl rfl rfl ?_ | (refine depGo_fact rfl rfl rfl ?_; intro v hv) | refine depGo_skip rfl ?_ | refine depGo_none rfl ?_)); apply Pure1.mk; intro K hk; exact W_remN (by first | rfl | assumption) (by first | rfl | assumption) (by omega) hk)); (apply steps_cons; case h1 => (apply A_pure; intro c u H' w' hG; have hS' := hG.sub; have hS2' := hG.subOld; (repeat (first | refine depGo_eq rfl rfl rfl ?_ | (refine depGo_fact rfl rfl rfl ?_; intro v hv) | refine depGo_skip rfl ?_ | refine depGo_none rfl ?_)); apply Pure1.mk; intro K hk; exact W_assignInt (by first | rfl | assumption) hk)); (apply steps_cons; case h1 => (apply A_pure; intro c u H' w' hG; have hS' := hG.sub; have hS2' := hG.subOld; (repeat (first | refine depGo_eq rfl rfl rfl ?_ | (refine depGo_fact rfl rfl rfl ?_; intro v hv) | refine depGo_skip rfl ?_ | refine depGo_none rfl ?_)); apply Pure1.mk; intro K hk; exact W_assignInt (by first | rfl | assumption) hk)); exact trivial)
        intro H w hG'
        (repeat (first | refine fin_eq rfl rfl ?_ | (refine fin_fact rfl ?_; intro v hv) | refine fin_none rfl ?_)); refine fin_nil ?_
        replace hl := hl.mono hG'.le
        replace hks := hks.mono hG'.le
        replace hx := hx.mono hG'.le
        replace hmut := hmut.grow hG'
        replace hG := hG.trans hG'
        replace hS := hG'.sub
        clear hG'
        have hpx : p % l.length < ks.length := by rw [hkl]; exact Nat.mod_lt _ (by omega)
        have hqx : q % l.length < ks.length := by rw [hkl]; exact Nat.mod_lt _ (by omega)
        have hcx : cs[0 + p % l.length * 1]? = some (ks[p % l.length]).ptr := by
          rw [Nat.zero_add, Nat.mul_one]
          have h3 := congrArg (·[p % l.length]?) htake
          simp only [List.getElem?_map, List.getElem?_eq_getElem hpx, List.getElem?_take, Option.map_some] at h3
          rw [if_pos (by omega)] at h3; exact h3
        have hcy : cs[0 + q % l.length * 1]? = some (ks[q % l.length]).ptr := by
          rw [Nat.zero_add, Nat.mul_one]
          have h3 := congrArg (·[q % l.length]?) htake
          simp only [List.getElem?_map, List.getElem?_eq_getElem hqx, List.getElem?_take, Option.map_some] at h3
          rw [if_pos (by omega)] at h3; exact h3
        (refine CW_seq ?_)
        apply CW_region_gu [] (fun k _ H w => Mut H w g1 (if k = 0 then cs else if k = 1 then splice cs (0 + p % l.length * 1) [(ks[q % l.length]).ptr] else splice (splice cs (0 + p % l.length * 1) [(ks[q % l.length]).ptr]) (0 + q % l.length * 1) [(ks[p % l.length]).ptr])) 1 [_, _, _, _, _, _, _, _, _, _, _, _, _, _, _, _] [none, none, none, none, none, none, none, none, none, none, none, none, none, some 0, none, some 1] [none, none, none, none, none, none, none, some 0, none, none, none, some 0, none, none, none, none] [some 91, some 92, some 93, some 94, some 95, some 96, some 97, some 98, some 99, some 100, some 101, some 102, some 103, none, some 104, none] [91, 92, 93, 94, 95, 96, 97, 98, 99, 100, 101, 102, 103, 104] mixed rfl rfl rfl rfl (by decide) rfl rfl rfl rfl (by assumption)
        · exact hmut
        · intro c u u' H w H' w' _ hm hg
          exact Mut.grow hm hg
        · ((apply stepsU_cons; case h1 => (apply U_pure; (case hd => rfl); intro c u H' w' hB hG; have hS' := hG.sub; have hS2' := hG.subOld; (repeat (first | refine depU_eq rfl rfl rfl ?_ | (refine depU_fact rfl rfl rfl ?_; intro v hu hv) | refine depU_skip rfl ?_ | refine depU_none rfl ?_)); apply Pure1.mk; intro K hk; exact W_moveSl (by first | rfl | assumption) hk)); (apply stepsU_cons; case h1 => (apply U_pure; (case hd => rfl); intro c u H' w' hB hG; have hS' := hG.sub; have hS2' := hG.subOld; (repeat (first | refine depU_eq rfl rfl rfl ?_ | (refine depU_fact rfl rfl rfl ?_; intro v hu hv) | refine depU_skip rfl ?_ | refine depU_none rfl ?_)); apply Pure1.mk; intro K hk; exact W_moveInt (by first | rfl | assumption) hk)); (apply stepsU_cons; case h1 => (apply U_pure; (case hd => rfl); intro c u H' w' hB hG; have hS' := hG.sub; have hS2' := hG.subOld; (repeat (first | refine depU_eq rfl rfl rfl ?_ | (refine depU_fact rfl rfl rfl ?_; intro v hu hv) | refine depU_skip rfl ?_ | refine depU_none rfl ?_)); apply Pure1.mk; intro K hk; exact W_moveSl (by first | rfl | assumption) hk)); (apply stepsU_cons; case h1 => (apply U_pure; (case hd => rfl); intro c u H' w' hB hG; have hS' := hG.sub; have hS2' := hG.subOld; (repeat (first | refine depU_eq rfl rfl rfl ?_ | (refine depU_fact rfl rfl rfl ?_; intro v hu hv) | refine depU_skip rfl ?_ | refine depU_none rfl ?_)); apply Pure1.mk; intro K hk; exact W_moveInt (by first | rfl | assumption) hk)); (apply stepsU_cons; case h1 => (apply U_pure; (case hd => rfl); intro c u H' w' hB hG; have hS' := hG.sub; have hS2' := hG.subOld; (repeat (first | refine depU_eq rfl rfl rfl ?_ | (refine depU_fact rfl rfl rfl ?_; intro v hu hv) | refine depU_skip rfl ?_ | refine depU_none rfl ?_)); apply Pure1.mk; intro K hk; exact W_moveSl (by first | rfl | assumption) hk)); (apply stepsU_cons; case h1 => (apply U_pure; (case hd => rfl); intro c u H' w' hB hG; have hS' := hG.sub; have hS2' := hG.subOld; (repeat (first | refine depU_eq rfl rfl rfl ?_ | (refine depU_fact rfl rfl rfl ?_; intro v hu hv) | refine depU_skip rfl ?_ | refine depU_none rfl ?_)); apply Pure1.mk; intro K hk; exact W_moveInt (by first | rfl | assumption) hk)); (apply stepsU_cons; case h1 => (apply U_pure; (case hd => rfl); intro c u H' w' hB hG; have hS' := hG.sub; have hS2' := hG.subOld; (repeat (first | refine depU_eq rfl rfl rfl ?_ | (refine depU_fact rfl rfl rfl ?_; intro v hu hv) | refine depU_skip rfl ?_ | refine depU_none rfl ?_)); apply Pure1.mk; intro K hk; exact W_index (by first | rfl | assumption) (by first | rfl | assumption) (by first | assumption | omega | decide) (by first | rfl | assumption) hk)))
          apply stepsU_cons; case h1 => (apply U_pure; (case hd => rfl); intro c u H' w' hB hG'; have hB' : c = 0 := Nat.le_zero.1 hB; subst hB'; have hm' : Mut H' w' g1 cs := hG'.m; (repeat (first | refine depU_eq rfl rfl rfl ?_ | (refine depU_fact rfl rfl rfl ?_; intro v hu hv) | refine depU_skip rfl ?_ | refine depU_none rfl ?_)); apply Pure1.mk; intro K hk; exact W_loadM (by rfl) hm' hcy hk)
          ((apply stepsU_cons; case h1 => (apply U_pure; (case hd => rfl); intro c u H' w' hB hG; have hS' := hG.sub; have hS2' := hG.subOld; (repeat (first | refine depU_eq rfl rfl rfl ?_ | (refine depU_fact rfl rfl rfl ?_; intro v hu hv) | refine depU_skip rfl ?_ | refine depU_none rfl ?_)); apply Pure1.mk; intro K hk; exact W_moveSl (by first | rfl | assumption) hk)); (apply stepsU_cons; case h1 => (apply U_pure; (case hd => rfl); intro c u H' w' hB hG; have hS' := hG.sub; have hS2' := hG.subOld; (repeat (first | refine depU_eq rfl rfl rfl ?_ | (refine depU_fact rfl rfl rfl ?_; intro v hu hv) | refine depU_skip rfl ?_ | refine depU_none rfl ?_)); apply Pure1.mk; intro K hk; exact W_moveInt (by first | rfl | assumption) hk)); (apply stepsU_cons; case h1 => (apply U_pure; (case hd => rfl); intro c u H' w' hB hG; have hS' := hG.sub; have hS2' := hG.subOld; (repeat (first | refine depU_eq rfl rfl rfl ?_ | (refine depU_fact rfl rfl rfl ?_; intro v hu hv) | refine depU_skip rfl ?_ | refine depU_none rfl ?_)); apply Pure1.mk; intro K hk; exact W_index (by first | rfl | assumption) (by first | rfl | assumption) (by first | assumption | omega | decide) (by first | rfl | assumption) hk)))
          apply stepsU_cons; case h1 => (apply U_pure; (case hd => rfl); intro c u H' w' hB hG'; have hB' : c = 0 := Nat.le_zero.1 hB; subst hB'; have hm' : Mut H' w' g1 cs := hG'.m; (repeat (first | refine depU_eq rfl rfl rfl ?_ | (refine depU_fact rfl rfl rfl ?_; intro v hu hv) | refine depU_skip rfl ?_ | refine depU_none rfl ?_)); apply Pure1.mk; intro K hk; exact W_loadM (by rfl) hm' hcx hk)
          ((apply stepsU_cons; case h1 => (apply U_pure; (case hd => rfl); intro c u H' w' hB hG; have hS' := hG.sub; have hS2' := hG.subOld; (repeat (first | refine depU_eq rfl rfl rfl ?_ | (refine depU_fact rfl rfl rfl ?_; intro v hu hv) | refine depU_skip rfl ?_ | refine depU_none rfl ?_)); apply Pure1.mk; intro K hk; exact W_index (by first | rfl | assumption) (by first | rfl | assumption) (by first | assumption | omega | decide) (by first | rfl | assumption) hk)))
          apply stepsU_cons
          · refine U_eff (φ := fun _ _ => True) ?_
            intro u' H' w' hG'
            have hm' : Mut H' w' g1 cs := hG'.m
            (repeat (first | refine depU_eq rfl rfl rfl ?_ | (refine depU_fact rfl rfl rfl ?_; intro v hu hv) | refine depU_skip rfl ?_ | refine depU_none rfl ?_))
            refine depU_nil ?_
            refine W_storeM (vs := [(ks[q % l.length]).ptr]) (by rfl) (by rfl) hm' rfl (by intro u hu; simp at hu; subst hu; rfl) (by rfl) (by simp; omega) ?_
            intro w3 hgb hm3
            exact ⟨H', HLe.refl _, hG'.next (hG'.grow.grownBy hgb (fun g h => by cases h; exact ⟨hm'.out, hBg⟩)) (HLe.refl _) hm3, fun _ _ => trivial⟩
          ((apply stepsU_cons; case h1 => (apply U_pure; (case hd => rfl); intro c u H' w' hB hG; have hS' := hG.sub; have hS2' := hG.subOld; (repeat (first | refine depU_eq rfl rfl rfl ?_ | (refine depU_fact rfl rfl rfl ?_; intro v hu hv) | refine depU_skip rfl ?_ | refine depU_none rfl ?_)); apply Pure1.mk; intro K hk; exact W_index (by first | rfl | assumption) (by first | rfl | assumption) (by first | assumption | omega | decide) (by first | rfl | assumption) hk)))
          apply stepsU_cons
          · refine U_eff (φ := fun _ _ => True) ?_
            intro u' H' w' hG'
            have hm' : Mut H' w' g1 (splice cs (0 + p % l.length * 1) [(ks[q % l.length]).ptr]) := hG'.m
            (repeat (first | refine depU_eq rfl rfl rfl ?_ | (refine depU_fact rfl rfl rfl ?_; intro v hu hv) | refine depU_skip rfl ?_ | refine depU_none rfl ?_))
            refine depU_nil ?_
            refine W_storeM (vs := [(ks[p % l.length]).ptr]) (by rfl) (by rfl) hm' rfl (by intro u hu; simp at hu; subst hu; rfl) (by rfl) (by rw [splice_one _ _ _ (by omega)]; simp; omega) ?_
            intro w3 hgb hm3
            exact ⟨H', HLe.refl _, hG'.next (hG'.grow.grownBy hgb (fun g h => by cases h; exact ⟨hm'.out, hBg⟩)) (HLe.refl _) hm3, fun _ _ => trivial⟩
          (exact trivial)
        intro c u H w hc1 hG' hle' hm'
        have hmut : Mut H w g1 (splice (splice cs (0 + p % l.length * 1) [(ks[q % l.length]).ptr]) (0 + q % l.length * 1) [(ks[p % l.length]).ptr]) := by
          simp only [show ¬ c = 0 by omega, show ¬ c = 1 by omega, if_false] at hm'
          exact hm'
        (repeat (first | refine finU_eq rfl rfl ?_ | (refine finU_fact rfl ?_; intro v hu hv) | refine finU_none rfl ?_)); refine finU_nil ?_
        replace hl := hl.mono hle'
        replace hks := hks.mono hle'
        replace hx := hx.mono hle'
        replace hG := hG'
        replace hS := hG'.sub
        clear hm' hle' hG'
        rw [splice_one cs (0 + p % l.length * 1) _ (by omega), splice_one (cs.set (0 + p % l.length * 1) _) (0 + q % l.length * 1) _ (by simp; omega)] at hmut
        simp only [Nat.zero_add, Nat.mul_one] at hmut
        have hch2 := swap_chain hks.ok hone (by rw [hfl]; exact hr) hpx hqx
        have hks2 : AllAt H 0 ((ks.set (p % l.length) ks[q % l.length]).set (q % l.length) ks[p % l.length]) := by
          intro k hk
          rcases List.mem_or_eq_of_mem_set hk with h | h
          · rcases List.mem_or_eq_of_mem_set h with h | h
            · exact hks k h
            · rw [h]; exact hks _ (List.getElem_mem _)
          · rw [h]; exact hks _ (List.getElem_mem _)
        have htake2 : (((cs.set (p % l.length) ks[q % l.length].ptr).set (q % l.length) ks[p % l.length].ptr)).take l.length = ((ks.set (p % l.length) ks[q % l.length]).set (q % l.length) ks[p % l.length]).map Nd.ptr := by
          rw [List.take_set, List.take_set, htake, List.map_set, List.map_set]
        have hkl2 : ((ks.set (p % l.length) ks[q % l.length]).set (q % l.length) ks[p % l.length]).length = l.length := by simp [hkl]
        generalize ((ks.set (p % l.length) ks[q % l.length]).set (q % l.length) ks[p % l.length]) = ks2 at *
        (refine CW_seq ?_; refine CW_region rfl ?_; refine S_op ?_; refine W_moveSl (by first | rfl | assumption) ?_)
        refine S_op ?_
        refine W_callW (by rfl) ((branch_lent (n := l.length) (c := c1) hS hmut htake2 hkl2 hks2 hcap (by omega) (by omega)).mono ?_)
        have hk0 : ∀ H, NodeAt H (0 + 1) (Nd.branch bb ks) → Fn Try.prog 22 [(Nd.branch bb ks).ptr] H fun v H' => IsSl 1 v l.length (ks.map Nd.ptr) H' := by
          intro H hx
          have := kids_c hx
          rwa [show (Nd.branch bb ks).kids.length = l.length from hkl] at this
        have hgx : (ks.map Nd.ptr)[p % l.length * 1]? = some (ks[p % l.length]).ptr := by simp [hpx]
        by_cases hxy : p % l.length = q % l.length
        · rintro v w ⟨H, hG2, h1 | ⟨_, b2, _, _, rfl, _⟩⟩
          · exact absurd ⟨by omega, by omega, by rw [hch2]; simp [hxy]⟩ h1.1
          replace hx := hx.mono hG2.le
          replace hG := hG.trans hG2
          replace hS := hG2.sub
          (refine S_op ?_; refine W_moveTup (by first | rfl | assumption) ?_; refine S_op ?_; refine W_extract (by first | rfl | assumption) (by rfl) ?_; refine S_op ?_; refine W_extract (by first | rfl | assumption) (by rfl) ?_; refine S_op ?_; refine W_assignPtr (by first | rfl | assumption) ?_; refine S_op ?_; refine W_assignInt (by first | rfl | assumption) ?_; refine S_nil ?_; refine CW_seq ?_; refine CW_region rfl ?_; refine S_op ?_; refine W_moveInt (by first | rfl | assumption) ?_; refine S_op ?_; refine W_eqlT (by first | rfl | assumption) (by first | rfl | assumption) (by first | omega | rfl) ?_; refine S_op ?_; refine W_moveInt (by first | rfl | assumption) ?_; refine S_op ?_; refine W_moveInt (by first | rfl | assumption) ?_; refine S_op ?_; refine W_eqlT (by first | rfl | assumption) (by first | rfl | assumption) (by first | omega | rfl) ?_; refine S_op ?_; refine W_beqlT (by first | rfl | assumption) (by first | rfl | assumption) (by first | rfl | assumption) ?_; refine S_op ?_; refine W_moveBool (by first | rfl | assumption) ?_; refine S_want (by rfl) ?_; refine W_movePtr (by first | rfl | assumption) ?_; refine S_want (by rfl) ?_; refine W_pneqnil (by first | rfl | assumption) (by first | rfl | assumption) ?_; refine S_want (by rfl) ?_; refine W_moveInt (by first | rfl | assumption) ?_; refine S_want (by rfl) ?_; refine W_moveInt (by first | rfl | assumption) ?_; refine S_want (by rfl) ?_; refine W_eqlT (by first | rfl | assumption) (by first | rfl | assumption) (by first | omega | rfl) ?_; refine S_want (by rfl) ?_; refine W_beqlT (by first | rfl | assumption) (by first | rfl | assumption) (by first | rfl | assumption) ?_; refine S_op ?_; refine W_pickT (by first | rfl | assumption) (by first | rfl | assumption) ?_; refine S_op ?_; refine W_moveBool (by first | rfl | assumption) ?_; refine S_want (by rfl) ?_; refine W_movePtr (by first | rfl | assumption) ?_)
          (refine S_want (by rfl) ?_; refine W_call hS (by rfl) (hk0 H hx) ?_); rintro v H w hG' ⟨A5, c5, rfl, h51, h52, h53⟩; replace hG := hG.trans hG'; replace hS := hG'.sub; replace hx := hx.mono hG'.le; clear hG'
          obtain ⟨b5, o5, rfl, hrow5⟩ : ∃ b off, A5 = some ⟨b, off, none⟩ ∧ Row H b off (ks.map Nd.ptr) := by
            rcases h52 with h | h
            · rw [h] at hgx; simp at hgx
            · exact h
          (refine S_want (by rfl) ?_; refine W_moveInt (by first | rfl | assumption) ?_; refine S_want (by rfl) ?_; refine W_index (by first | rfl | assumption) (by first | rfl | assumption) (by first | assumption | omega | decide) (by first | rfl | assumption) ?_)
          refine S_want (by rfl) ?_
          refine W_loadRow (j := p % l.length * 1) (by rfl) hrow5 hgx hS ?_
          (refine S_want (by rfl) ?_; refine W_pneqnil (by first | rfl | assumption) (by first | rfl | assumption) ?_; refine S_op ?_; refine W_pickT (by first | rfl | assumption) (by first | rfl | assumption) ?_; refine S_op ?_; refine W_assignBool (by first | rfl | assumption) ?_; refine S_nil ?_; refine CW_ret ?_)
          exact ⟨_, ResW_one (v := .bool _) rfl, H, hG, rfl⟩
        · rintro v w ⟨H, hG2, ⟨_, rfl⟩ | ⟨h1, _⟩⟩
          · replace hx := hx.mono hG2.le
            replace hG := hG.trans hG2
            replace hS := hG2.sub
            (refine S_op ?_; refine W_moveTup (by first | rfl | assumption) ?_; refine S_op ?_; refine W_extract (by first | rfl | assumption) (by rfl) ?_; refine S_op ?_; refine W_extract (by first | rfl | assumption) (by rfl) ?_; refine S_op ?_; refine W_assignPtr (by first | rfl | assumption) ?_; refine S_op ?_; refine W_assignInt (by first | rfl | assumption) ?_; refine S_nil ?_; refine CW_seq ?_; refine CW_region rfl ?_; refine S_op ?_; refine W_moveInt (by first | rfl | assumption) ?_; refine S_op ?_; refine W_eqlF (by first | rfl | assumption) (by first | rfl | assumption) (by first | omega | rfl) ?_; refine S_op ?_; refine W_moveInt (by first | rfl | assumption) ?_; refine S_op ?_; refine W_moveInt (by first | rfl | assumption) ?_; refine S_op ?_; refine W_eqlF (by first | rfl | assumption) (by first | rfl | assumption) (by first | omega | rfl) ?_; refine S_op ?_; refine W_beqlT (by first | rfl | assumption) (by first | rfl | assumption) (by first | rfl | assumption) ?_; refine S_op ?_; refine W_moveBool (by first | rfl | assumption) ?_; refine S_want (by rfl) ?_; refine W_movePtr (by first | rfl | assumption) ?_; refine S_want (by rfl) ?_; refine W_pneqnil (by first | rfl | assumption) (by first | rfl | assumption) ?_; refine S_want (by rfl) ?_; refine W_moveInt (by first | rfl | assumption) ?_; refine S_want (by rfl) ?_; refine W_moveInt (by first | rfl | assumption) ?_; refine S_want (by rfl) ?_; refine W_eqlF (by first | rfl | assumption) (by first | rfl | assumption) (by first | omega | rfl) ?_; refine S_want (by rfl) ?_; refine W_beqlT (by first | rfl | assumption) (by first | rfl | assumption) (by first | rfl | assumption) ?_; refine S_op ?_; refine W_pickT (by first | rfl | assumption) (by first | rfl | assumption) ?_; refine S_op ?_; refine W_moveBool (by first | rfl | assumption) ?_; refine S_want (by rfl) ?_; refine W_movePtr (by first | rfl | assumption) ?_)
            (refine S_want (by rfl) ?_; refine W_call hS (by rfl) (hk0 H hx) ?_); rintro v H w hG' ⟨A5, c5, rfl, h51, h52, h53⟩; replace hG := hG.trans hG'; replace hS := hG'.sub; replace hx := hx.mono hG'.le; clear hG'
            obtain ⟨b5, o5, rfl, hrow5⟩ : ∃ b off, A5 = some ⟨b, off, none⟩ ∧ Row H b off (ks.map Nd.ptr) := by
              rcases h52 with h | h
              · rw [h] at hgx; simp at hgx
              · exact h
            (refine S_want (by rfl) ?_; refine W_moveInt (by first | rfl | assumption) ?_; refine S_want (by rfl) ?_; refine W_index (by first | rfl | assumption) (by first | rfl | assumption) (by first | assumption | omega | decide) (by first | rfl | assumption) ?_)
            refine S_want (by rfl) ?_
            refine W_loadRow (j := p % l.length * 1) (by rfl) hrow5 hgx hS ?_
            (refine S_want (by rfl) ?_; refine W_pneqnil (by first | rfl | assumption) (by first | rfl | assumption) ?_; refine S_op ?_; refine W_pickT (by first | rfl | assumption) (by first | rfl | assumption) ?_; refine S_op ?_; refine W_assignBool (by first | rfl | assumption) ?_; refine S_nil ?_; refine CW_ret ?_)
            exact ⟨_, ResW_one (v := .bool _) rfl, H, hG, rfl⟩
          · rw [hch2] at h1; simp [hxy] at h1
end Go.Proofs.Ytlkbdgfipdeloaa
