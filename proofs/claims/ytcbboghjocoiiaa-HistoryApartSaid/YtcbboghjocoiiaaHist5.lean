/- The reference's orders, Linear: walked. Conditions: sizes; keys rise. -/
import Derived.Test.YtcbboghjocoiiaaHist4
namespace Go.Proofs.Ytcbboghjocoiiaa
open Go.Proofs Go.RowKit
set_option linter.unusedVariables false
attribute [local irreducible] CW SeqW OpW
set_option maxHeartbeats 8000000
theorem rOrders_c : ∀ (n : Nat) (r : List Don) (m : Nat), r.length = m → m ≤ n → ∀ (a : List Don) (k : Nat), a.length = k → k + m ≤ 20 → ∀ (l : List Ent) (H0 : HF) (A B C : Option Addr) (c d e : Nat), riseB l = true → EntsAt H0 A l → l.length ≤ c → l.length ≤ 900 → DonsAt H0 B a → k ≤ d → DonsAt H0 C r → m ≤ e →
    Fn Try.prog 24 [.slice A l.length c, .slice B k d, .slice C m e] H0 fun v _ => IsB v (OrdR l a r) := by
  intro n
  induction n with
  | zero =>
    intro r m hm hn a k hk hkm l H0 A B C c d e hrl hl hc hb ha hda hr hdr
    subst hm
    have h0 : r = [] := List.eq_nil_of_length_eq_zero (by omega)
    subst h0
    refine Fn_of_CW Try.func24 rfl Try.ntmps24 Try.results24 rfl fun w0 hS => ?_; have hG := Grow.refl hS
    (refine CW_seq ?_; refine CW_region rfl ?_; refine S_op ?_; refine W_assignBool (by first | rfl | assumption) ?_; refine S_nil ?_; refine CW_seq ?_; refine CW_seq ?_; refine CW_region rfl ?_; refine S_op ?_; refine W_moveSl (by first | rfl | assumption) ?_; refine S_op ?_; refine W_len (by first | rfl | assumption) ?_; refine S_op ?_; refine W_eqlT (by first | rfl | assumption) (by first | rfl | assumption) (by first | omega | rfl) ?_; refine S_nil ?_; refine CW_true (by first | rfl | assumption) ?_; refine CW_seq ?_; refine CW_region rfl ?_; refine S_op ?_; refine W_moveSl (by first | rfl | assumption) ?_; refine S_op ?_; refine W_moveSl (by first | rfl | assumption) ?_)
    (refine S_op ?_; refine W_call hS (by rfl) (fits_c H0 A B c d l a k hk hl hc hrl (by omega) ha hda) ?_); rintro v H w hG' hv; replace hG := hG.trans hG'; replace hS := hG'.sub; clear hG'
    rcases hv with ⟨rfl, hL⟩ | ⟨rfl, hL⟩
    · (refine S_op ?_; refine W_assignBool (by first | rfl | assumption) ?_; refine S_nil ?_; refine CW_ret ?_)
      exact ⟨_, ResW_one (v := .bool _) rfl, H, hG, .inl ⟨rfl, ordR_nil.2 hL⟩⟩
    · (refine S_op ?_; refine W_assignBool (by first | rfl | assumption) ?_; refine S_nil ?_; refine CW_ret ?_)
      exact ⟨_, ResW_one (v := .bool _) rfl, H, hG, .inr ⟨rfl, fun h => hL (ordR_nil.1 h)⟩⟩
  | succ n ih =>
    intro r m hm hn a k hk hkm l H0 A B C c d e hrl hl hc hb ha hda hr hdr
    subst hm
    by_cases h0 : r = []
    · subst h0
      refine Fn_of_CW Try.func24 rfl Try.ntmps24 Try.results24 rfl fun w0 hS => ?_; have hG := Grow.refl hS
      (refine CW_seq ?_; refine CW_region rfl ?_; refine S_op ?_; refine W_assignBool (by first | rfl | assumption) ?_; refine S_nil ?_; refine CW_seq ?_; refine CW_seq ?_; refine CW_region rfl ?_; refine S_op ?_; refine W_moveSl (by first | rfl | assumption) ?_; refine S_op ?_; refine W_len (by first | rfl | assumption) ?_; refine S_op ?_; refine W_eqlT (by first | rfl | assumption) (by first | rfl | assumption) (by first | omega | rfl) ?_; refine S_nil ?_; refine CW_true (by first | rfl | assumption) ?_; refine CW_seq ?_; refine CW_region rfl ?_; refine S_op ?_; refine W_moveSl (by first | rfl | assumption) ?_; refine S_op ?_; refine W_moveSl (by first | rfl | assumption) ?_)
      (refine S_op ?_; refine W_call hS (by rfl) (fits_c H0 A B c d l a k hk hl hc hrl (by omega) ha hda) ?_); rintro v H w hG' hv; replace hG := hG.trans hG'; replace hS := hG'.sub; clear hG'
      rcases hv with ⟨rfl, hL⟩ | ⟨rfl, hL⟩
      · (refine S_op ?_; refine W_assignBool (by first | rfl | assumption) ?_; refine S_nil ?_; refine CW_ret ?_)
        exact ⟨_, ResW_one (v := .bool _) rfl, H, hG, .inl ⟨rfl, ordR_nil.2 hL⟩⟩
      · (refine S_op ?_; refine W_assignBool (by first | rfl | assumption) ?_; refine S_nil ?_; refine CW_ret ?_)
        exact ⟨_, ResW_one (v := .bool _) rfl, H, hG, .inr ⟨rfl, fun h => hL (ordR_nil.1 h)⟩⟩
    have hpos : 0 < r.length := List.length_pos_iff.2 h0
    refine Fn_of_CW Try.func24 rfl Try.ntmps24 Try.results24 rfl fun w0 hS => ?_; have hG := Grow.refl hS
    (refine CW_seq ?_; refine CW_region rfl ?_; refine S_op ?_; refine W_assignBool (by first | rfl | assumption) ?_; refine S_nil ?_; refine CW_seq ?_; refine CW_seq ?_; refine CW_region rfl ?_; refine S_op ?_; refine W_moveSl (by first | rfl | assumption) ?_; refine S_op ?_; refine W_len (by first | rfl | assumption) ?_; refine S_op ?_; refine W_eqlF (by first | rfl | assumption) (by first | rfl | assumption) (by first | omega | rfl) ?_; refine S_nil ?_; refine CW_false (by first | rfl | assumption) ?_; refine CW_skip ?_; refine CW_seq ?_; refine CW_seq ?_; refine CW_region rfl ?_; refine S_op ?_; refine W_moveSl (by first | rfl | assumption) ?_; refine S_op ?_; refine W_len (by first | rfl | assumption) ?_; refine S_op ?_; refine W_moveInt (by first | rfl | assumption) ?_; refine S_nil ?_; refine CW_block ?_)
    refine CW_loopM [6, 7, 8, 9, 18, 19, 20, 21, 22, 23, 24, 25, 26, 27, 28, 29, 30, 31, 32, 33, 34, 35, 36, 37, 38, 39, 40, 41, 42, 43, 44]
      (fun m u w2 => ∃ (i : Nat) (H2 : HF), u 18 = .int .i64 (i : Int) ∧ Grow H0 w0 H2 w2 ∧ (∀ j, j < i → ¬ OrdR l (a ++ [don r j]) (r.take j ++ r.drop (j + 1))) ∧ i ≤ r.length ∧ r.length - i ≤ m)
      (m := r.length) ⟨0, H0, rfl, hG, by omega, by omega, by omega⟩ ?_
    rintro m u w ⟨i, H, h18, hG, hall, hi, hm⟩
    replace hl := hl.mono hG.le
    replace ha := ha.mono hG.le
    replace hr := hr.mono hG.le
    replace hS := hG.sub
    by_cases hlt : i < r.length
    · obtain ⟨bb, off, hC, hrow⟩ := hr.some hlt
      (refine CW_seq ?_; refine CW_region rfl ?_; refine S_op ?_; refine W_lssT (by first | rfl | assumption) (by first | rfl | assumption) (by first | omega | rfl) ?_; refine S_nil ?_; refine CW_seq ?_; refine CW_true (by first | rfl | assumption) ?_; refine CW_skip ?_; refine CW_seq ?_; refine CW_block ?_; refine CW_seq ?_; refine CW_region rfl ?_; refine S_op ?_; refine W_moveInt (by first | rfl | assumption) ?_; refine S_op ?_; refine W_assignInt (by first | rfl | assumption) ?_; refine S_nil ?_; refine CW_seq ?_; refine CW_region rfl ?_; refine S_op ?_; refine W_assignSl (by first | rfl | assumption) ?_; refine S_op ?_; refine W_assignSl (by first | rfl | assumption) ?_; refine S_nil ?_; refine CW_seq ?_)
      apply CW_region_gu [23, 29, 8] (fun q u H w => (q = 1 → ∃ A c, u 23 = .slice A k c ∧ Own H w w0.heap.size 43 9 A k c (dons a)) ∧ (2 ≤ q → ∃ A c, u 29 = .slice A (k + 1) c ∧ Own H w w0.heap.size 43 9 A (k + 1) c (dons a ++ donCells (don r i))) ∧ (q ≤ 2 → u 8 = .slice none 0 0) ∧ (3 ≤ q → u 8 = u 29)) 2 [_, _, _, _, _, _, _, _, _, _] [none, none, some 0, none, none, none, none, none, some 1, some 2] [some 2, none, none, none, none, none, none, none, none, none] [some 21, some 22, some 23, some 24, some 25, some 26, some 27, some 28, some 29, some 8] [21, 22, 23, 24, 25, 26, 27, 28, 29, 8] mixed rfl rfl rfl rfl (by decide) rfl rfl rfl rfl (by assumption)
      · exact ⟨fun h => by omega, fun h => by omega, fun _ => rfl, fun h => by omega⟩
      · rintro q u u' H w H' w' hu ⟨h1, h2, h3, h4⟩ hg
        exact ⟨fun h => by obtain ⟨A, c, e, o⟩ := h1 h; exact ⟨A, c, (hu 23 rfl).trans e, o.grow hg⟩, fun h => by obtain ⟨A, c, e, o⟩ := h2 h; exact ⟨A, c, (hu 29 rfl).trans e, o.grow hg⟩, fun h => (hu 8 rfl).trans (h3 h), fun h => by rw [hu 8 rfl, hu 29 rfl]; exact h4 h⟩
      · apply stepsU_cons; case h1 => (apply U_pure; (case hd => rfl); intro c u H' w' hB hG'; have h8 : u 8 = .slice none 0 0 := hG'.m.2.2.1 hB; (repeat (first | refine depU_eq rfl rfl rfl ?_ | (refine depU_fact rfl rfl rfl ?_; intro v hu hv) | refine depU_skip rfl ?_ | refine depU_none rfl ?_)); refine depU_nil ?_; apply Pure1.mk; intro K hk; exact W_moveSl h8 hk)
        ((apply stepsU_cons; case h1 => (apply U_pure; (case hd => rfl); intro c u H' w' hB hG; have hS' := hG.sub; have hS2' := hG.subOld; (repeat (first | refine depU_eq rfl rfl rfl ?_ | (refine depU_fact rfl rfl rfl ?_; intro v hu hv) | refine depU_skip rfl ?_ | refine depU_none rfl ?_)); apply Pure1.mk; intro K hk; exact W_moveSl (by first | rfl | assumption) hk)))
        apply stepsU_cons
        · refine U_eff (φ := fun _ _ => True) ?_
          intro u' H' w' hG'
          (repeat (first | refine depU_eq rfl rfl rfl ?_ | (refine depU_fact rfl rfl rfl ?_; intro v hu hv) | refine depU_skip rfl ?_ | refine depU_none rfl ?_))
          refine depU_nil ?_
          refine W_append (xs := []) (news := dons a) (m := k) (by rfl) (by rfl) hG'.grow (Own.nil _ _ _ _ _) ((ha.mono hG'.le).cells hG'.sub) (by rw [dons_len, hk]) (dons_one _) (by decide) (by omega) (by omega) ?_
          intro A' c' w3 hg3 ho3 _ _
          rw [Nat.zero_add, List.nil_append] at ho3
          exact ⟨H', HLe.refl _, hG'.next hg3 (HLe.refl _) ⟨fun _ => ⟨A', c', (by rw [Nat.zero_add]; rfl), ho3⟩, fun h => by omega, fun _ => hG'.m.2.2.1 (by omega), fun h => by omega⟩, fun _ _ => trivial⟩
        ((apply stepsU_cons; case h1 => (apply U_pure; (case hd => rfl); intro c u H' w' hB hG; have hS' := hG.sub; have hS2' := hG.subOld; (repeat (first | refine depU_eq rfl rfl rfl ?_ | (refine depU_fact rfl rfl rfl ?_; intro v hu hv) | refine depU_skip rfl ?_ | refine depU_none rfl ?_)); apply Pure1.mk; intro K hk; exact W_moveSl (by first | rfl | assumption) hk)); (apply stepsU_cons; case h1 => (apply U_pure; (case hd => rfl); intro c u H' w' hB hG; have hS' := hG.sub; have hS2' := hG.subOld; (repeat (first | refine depU_eq rfl rfl rfl ?_ | (refine depU_fact rfl rfl rfl ?_; intro v hu hv) | refine depU_skip rfl ?_ | refine depU_none rfl ?_)); apply Pure1.mk; intro K hk; exact W_moveInt (by first | rfl | assumption) hk)); (apply stepsU_cons; case h1 => (apply U_pure; (case hd => rfl); intro c u H' w' hB hG; have hS' := hG.sub; have hS2' := hG.subOld; (repeat (first | refine depU_eq rfl rfl rfl ?_ | (refine depU_fact rfl rfl rfl ?_; intro v hu hv) | refine depU_skip rfl ?_ | refine depU_none rfl ?_)); apply Pure1.mk; intro K hk; exact W_index (by first | rfl | assumption) (by first | rfl | assumption) (by first | assumption | omega | decide) (by first | rfl | assumption) hk)); (apply stepsU_cons; case h1 => (apply U_pure; (case hd => rfl); intro c u H' w' hB hG; have hS' := hG.sub; have hS2' := hG.subOld; (repeat (first | refine depU_eq rfl rfl rfl ?_ | (refine depU_fact rfl rfl rfl ?_; intro v hu hv) | refine depU_skip rfl ?_ | refine depU_none rfl ?_)); apply Pure1.mk; intro K hk; exact W_loadOa (by first | rfl | assumption) (by assumption) (by first | assumption | omega) (by assumption) hk)))
        apply stepsU_cons
        · refine U_fact (by rfl) (φ := fun v H => ∃ b, v = .slice (some ⟨b, 0, none⟩) 1 1 ∧ SlAt H (some ⟨b, 0, none⟩) (donCells (don r i))) ?_
          intro c' u H' w' hB hG'
          have hS' := hG'.sub
          (repeat (first | refine depU_eq rfl rfl rfl ?_ | (refine depU_fact rfl rfl rfl ?_; intro v hu hv) | refine depU_skip rfl ?_ | refine depU_none rfl ?_))
          refine depU_nil ?_
          refine W_build1 (sz := 9) (v := .agg (donCells (don r i)).toArray) hS' (by omega) (by rfl) (by rfl) ?_
          intro H3 w3 b hG3 hb3 _ _
          exact ⟨H3, hG3.le, hG'.trans hG3, fun H'' hle => ⟨b, rfl, SlAt.of_row (hle _ _ hb3)⟩⟩
        apply stepsU_cons
        · refine U_eff (φ := fun _ _ => True) ?_
          intro u' H' w' hG'
          (repeat (first | refine depU_eq rfl rfl rfl ?_ | (refine depU_fact rfl rfl rfl ?_; intro v hu hv) | refine depU_skip rfl ?_ | refine depU_none rfl ?_))
          rename_i v1 hu1 hv1 v2 hu2 hv2
          obtain ⟨b2, rfl, hb2⟩ := hv2
          obtain ⟨A1, c1, e1, o1⟩ := hG'.m.1 rfl
          have hv : v = .slice A1 k c1 := hu.symm.trans e1
          subst hv
          refine depU_nil ?_
          refine W_append (news := donCells (don r i)) (m := 1) (by rfl) (by rfl) hG'.grow o1 (hb2.cells hG'.sub) (by rfl) (OneCells.of_all (by rfl)) (by decide) (by omega) (by omega) ?_
          intro A' c' w3 hg3 ho3 _ _
          exact ⟨H', HLe.refl _, hG'.next hg3 (HLe.refl _) ⟨fun h => by omega, fun _ => ⟨A', c', rfl, ho3⟩, fun _ => hG'.m.2.2.1 (by omega), fun h => by omega⟩, fun _ _ => trivial⟩
        apply stepsU_cons
        · refine U_eff (φ := fun _ _ => True) ?_
          intro u' H' w' hG'
          (repeat (first | refine depU_eq rfl rfl rfl ?_ | (refine depU_fact rfl rfl rfl ?_; intro v hu hv) | refine depU_skip rfl ?_ | refine depU_none rfl ?_))
          refine depU_nil ?_
          refine W_assign (by rfl) ?_
          exact ⟨H', HLe.refl _, hG'.next hG'.grow (HLe.refl _) ⟨fun h => by omega, fun _ => hG'.m.2.1 (by omega), fun h => by omega, fun _ => hu.symm⟩, fun _ _ => trivial⟩
        (exact trivial)
      intro q u2 H w hq hG hle hm8
      (repeat (first | refine finU_eq rfl rfl ?_ | (refine finU_fact rfl ?_; intro v hu hv) | refine finU_none rfl ?_)); refine finU_nil ?_
      rename_i v1 hu1 hv1 v2 hu2 hv2 v3 hu3 hv3
      obtain ⟨A5, c5, e5, o5⟩ := hm8.2.1 (by omega)
      have hv : v = .slice A5 (k + 1) c5 := hu.symm.trans ((hm8.2.2.2 (by omega)).trans e5)
      subst hv
      clear hm8 hu1 hv1 hu2 hv2 hu3 hv3 hu hv e5
      have hc5 := o5.cap
      replace hl := hl.mono hle
      replace ha := ha.mono hle
      replace hr := hr.mono hle
      replace hrow := hrow.mono hle
      clear hle
      obtain ⟨H, hle, hG, hsl, _⟩ := o5.freeze hG
      clear o5
      have hS := hG.sub
      replace hl := hl.mono hle
      replace ha := ha.mono hle
      replace hr := hr.mono hle
      replace hrow := hrow.mono hle
      clear hle
      have hsA : DonsAt H A5 (a ++ [don r i]) := by
        unfold DonsAt
        rw [dons_append]
        simpa [dons] using hsl
      clear hsl
      have hT : ∀ H', HLe H H' → SlAt H' C (dons (r.take i)) := fun H' h => by rw [← dons_take]; exact SlAt.take (hr.mono h) _
      have hD : ∀ H', HLe H H' → SlAt H' (slAddr C e (i + 1) 9) (dons (r.drop (i + 1))) := fun H' h => by rw [← dons_drop]; exact SlAt.drop (n := r.length) (hr.mono h) (dons_len r) hdr
      (refine CW_seq ?_)
      apply CW_region_gu [34, 39, 9] (fun q u H w => (q = 1 → ∃ A c, u 34 = .slice A i c ∧ Own H w w0.heap.size 43 9 A i c (dons (r.take i))) ∧ (2 ≤ q → ∃ A c, u 39 = .slice A (i + (r.length - (i + 1))) c ∧ Own H w w0.heap.size 43 9 A (i + (r.length - (i + 1))) c (dons (r.take i) ++ dons (r.drop (i + 1)))) ∧ (q ≤ 2 → u 9 = .slice none 0 0) ∧ (3 ≤ q → u 9 = u 39)) 2 [_, _, _, _, _, _, _, _, _, _, _] [none, none, none, none, some 0, none, none, none, none, some 1, some 2] [some 2, none, none, none, none, none, none, none, none, none, none] [some 30, some 31, some 32, some 33, some 34, some 35, some 36, some 37, some 38, some 39, some 9] [30, 31, 32, 33, 34, 35, 36, 37, 38, 39, 9] mixed rfl rfl rfl rfl (by decide) rfl rfl rfl rfl (by assumption)
      · exact ⟨fun h => by omega, fun h => by omega, fun _ => rfl, fun h => by omega⟩
      · rintro q u u' H w H' w' hu ⟨h1, h2, h3, h4⟩ hg
        exact ⟨fun h => by obtain ⟨A, c, e, o⟩ := h1 h; exact ⟨A, c, (hu 34 rfl).trans e, o.grow hg⟩, fun h => by obtain ⟨A, c, e, o⟩ := h2 h; exact ⟨A, c, (hu 39 rfl).trans e, o.grow hg⟩, fun h => (hu 9 rfl).trans (h3 h), fun h => by rw [hu 9 rfl, hu 39 rfl]; exact h4 h⟩
      · apply stepsU_cons; case h1 => (apply U_pure; (case hd => rfl); intro c u H' w' hB hG'; have h8 : u 9 = .slice none 0 0 := hG'.m.2.2.1 hB; (repeat (first | refine depU_eq rfl rfl rfl ?_ | (refine depU_fact rfl rfl rfl ?_; intro v hu hv) | refine depU_skip rfl ?_ | refine depU_none rfl ?_)); refine depU_nil ?_; apply Pure1.mk; intro K hk; exact W_moveSl h8 hk)
        ((apply stepsU_cons; case h1 => (apply U_pure; (case hd => rfl); intro c u H' w' hB hG; have hS' := hG.sub; have hS2' := hG.subOld; (repeat (first | refine depU_eq rfl rfl rfl ?_ | (refine depU_fact rfl rfl rfl ?_; intro v hu hv) | refine depU_skip rfl ?_ | refine depU_none rfl ?_)); apply Pure1.mk; intro K hk; exact W_moveSl (by first | rfl | assumption) hk)); (apply stepsU_cons; case h1 => (apply U_pure; (case hd => rfl); intro c u H' w' hB hG; have hS' := hG.sub; have hS2' := hG.subOld; (repeat (first | refine depU_eq rfl rfl rfl ?_ | (refine depU_fact rfl rfl rfl ?_; intro v hu hv) | refine depU_skip rfl ?_ | refine depU_none rfl ?_)); apply Pure1.mk; intro K hk; exact W_moveInt (by first | rfl | assumption) hk)); (apply stepsU_cons; case h1 => (apply U_pure; (case hd => rfl); intro c u H' w' hB hG; have hS' := hG.sub; have hS2' := hG.subOld; (repeat (first | refine depU_eq rfl rfl rfl ?_ | (refine depU_fact rfl rfl rfl ?_; intro v hu hv) | refine depU_skip rfl ?_ | refine depU_none rfl ?_)); apply Pure1.mk; intro K hk; exact W_sliceHi (by first | rfl | assumption) (by first | rfl | assumption) (by omega) hk)))
        apply stepsU_cons
        · refine U_eff (φ := fun _ _ => True) ?_
          intro u' H' w' hG'
          (repeat (first | refine depU_eq rfl rfl rfl ?_ | (refine depU_fact rfl rfl rfl ?_; intro v hu hv) | refine depU_skip rfl ?_ | refine depU_none rfl ?_))
          refine depU_nil ?_
          refine W_append (xs := []) (news := dons (r.take i)) (m := i) (by rfl) (by rfl) hG'.grow (Own.nil _ _ _ _ _) ((hT H' hG'.le).cells hG'.sub) (by rw [dons_len, List.length_take_of_le hi]) (dons_one _) (by decide) (by omega) (by omega) ?_
          intro A' c' w3 hg3 ho3 _ _
          rw [Nat.zero_add, List.nil_append] at ho3
          exact ⟨H', HLe.refl _, hG'.next hg3 (HLe.refl _) ⟨fun _ => ⟨A', c', (by rw [Nat.zero_add]; rfl), ho3⟩, fun h => by omega, fun _ => hG'.m.2.2.1 (by omega), fun h => by omega⟩, fun _ _ => trivial⟩
        ((apply stepsU_cons; case h1 => (apply U_pure; (case hd => rfl); intro c u H' w' hB hG; have hS' := hG.sub; have hS2' := hG.subOld; (repeat (first | refine depU_eq rfl rfl rfl ?_ | (refine depU_fact rfl rfl rfl ?_; intro v hu hv) | refine depU_skip rfl ?_ | refine depU_none rfl ?_)); apply Pure1.mk; intro K hk; exact W_moveSl (by first | rfl | assumption) hk)); (apply stepsU_cons; case h1 => (apply U_pure; (case hd => rfl); intro c u H' w' hB hG; have hS' := hG.sub; have hS2' := hG.subOld; (repeat (first | refine depU_eq rfl rfl rfl ?_ | (refine depU_fact rfl rfl rfl ?_; intro v hu hv) | refine depU_skip rfl ?_ | refine depU_none rfl ?_)); apply Pure1.mk; intro K hk; exact W_moveInt (by first | rfl | assumption) hk)); (apply stepsU_cons; case h1 => (apply U_pure; (case hd => rfl); intro c u H' w' hB hG; have hS' := hG.sub; have hS2' := hG.subOld; (repeat (first | refine depU_eq rfl rfl rfl ?_ | (refine depU_fact rfl rfl rfl ?_; intro v hu hv) | refine depU_skip rfl ?_ | refine depU_none rfl ?_)); apply Pure1.mk; intro K hk; exact W_add1 (by first | rfl | assumption) (by omega) hk)); (apply stepsU_cons; case h1 => (apply U_pure; (case hd => rfl); intro c u H' w' hB hG; have hS' := hG.sub; have hS2' := hG.subOld; (repeat (first | refine depU_eq rfl rfl rfl ?_ | (refine depU_fact rfl rfl rfl ?_; intro v hu hv) | refine depU_skip rfl ?_ | refine depU_none rfl ?_)); apply Pure1.mk; intro K hk; exact W_sliceLo (by first | rfl | assumption) (by first | rfl | assumption) (by omega) hk)))
        apply stepsU_cons
        · refine U_eff (φ := fun _ _ => True) ?_
          intro u' H' w' hG'
          (repeat (first | refine depU_eq rfl rfl rfl ?_ | (refine depU_fact rfl rfl rfl ?_; intro v hu hv) | refine depU_skip rfl ?_ | refine depU_none rfl ?_))
          obtain ⟨A1, c1, e1, o1⟩ := hG'.m.1 rfl
          have hv : v = .slice A1 i c1 := hu.symm.trans e1
          subst hv
          refine depU_nil ?_
          refine W_append (news := dons (r.drop (i + 1))) (m := r.length - (i + 1)) (by rfl) (by rfl) hG'.grow o1 ((hD H' hG'.le).cells hG'.sub) (by rw [dons_len]; simp) (dons_one _) (by decide) (by omega) (by omega) ?_
          intro A' c' w3 hg3 ho3 _ _
          exact ⟨H', HLe.refl _, hG'.next hg3 (HLe.refl _) ⟨fun h => by omega, fun _ => ⟨A', c', rfl, ho3⟩, fun _ => hG'.m.2.2.1 (by omega), fun h => by omega⟩, fun _ _ => trivial⟩
        apply stepsU_cons
        · refine U_eff (φ := fun _ _ => True) ?_
          intro u' H' w' hG'
          (repeat (first | refine depU_eq rfl rfl rfl ?_ | (refine depU_fact rfl rfl rfl ?_; intro v hu hv) | refine depU_skip rfl ?_ | refine depU_none rfl ?_))
          refine depU_nil ?_
          refine W_assign (by rfl) ?_
          exact ⟨H', HLe.refl _, hG'.next hG'.grow (HLe.refl _) ⟨fun h => by omega, fun _ => hG'.m.2.1 (by omega), fun h => by omega, fun _ => hu.symm⟩, fun _ _ => trivial⟩
        (exact trivial)
      intro q u2 H w hq hG hle hm8
      (repeat (first | refine finU_eq rfl rfl ?_ | (refine finU_fact rfl ?_; intro v hu hv) | refine finU_none rfl ?_)); refine finU_nil ?_
      rename_i v1 hu1 hv1 v2 hu2 hv2
      obtain ⟨A6, c6, e6, o6⟩ := hm8.2.1 (by omega)
      have hv : v = .slice A6 (i + (r.length - (i + 1))) c6 := hu.symm.trans ((hm8.2.2.2 (by omega)).trans e6)
      subst hv
      clear hm8 hu1 hv1 hu2 hv2 hu hv e6
      have hc6 := o6.cap
      replace hl := hl.mono hle
      replace ha := ha.mono hle
      replace hr := hr.mono hle
      replace hsA := hsA.mono hle
      clear hle hT hD
      obtain ⟨H, hle, hG, hsl, _⟩ := o6.freeze hG
      clear o6
      have hS := hG.sub
      replace hl := hl.mono hle
      replace ha := ha.mono hle
      replace hr := hr.mono hle
      replace hsA := hsA.mono hle
      clear hle
      have hsB : DonsAt H A6 (r.take i ++ r.drop (i + 1)) := by
        unfold DonsAt
        rw [dons_append]
        exact hsl
      clear hsl
      (refine CW_seq ?_; refine CW_region rfl ?_; refine S_op ?_; refine W_moveSl (by first | rfl | assumption) ?_; refine S_op ?_; refine W_moveSl (by first | rfl | assumption) ?_; refine S_op ?_; refine W_moveSl (by first | rfl | assumption) ?_)
      (refine S_op ?_; refine W_call hS (by rfl) (ih (r.take i ++ r.drop (i + 1)) (i + (r.length - (i + 1))) (by simp; omega) (by omega) (a ++ [don r i]) (k + 1) (by simp [hk]) (by omega) l H A A5 A6 c c5 c6 hrl hl hc hb hsA hc5 hsB hc6) ?_); rintro v H w hG' hv; replace hG := hG.trans hG'; replace hS := hG'.sub; replace hl := hl.mono hG'.le; replace ha := ha.mono hG'.le; replace hr := hr.mono hG'.le; clear hG'
      rcases hv with ⟨rfl, hL⟩ | ⟨rfl, hL⟩
      · (refine S_nil ?_; refine CW_true (by first | rfl | assumption) ?_; refine CW_seq ?_; refine CW_region rfl ?_; refine S_op ?_; refine W_assignBool (by first | rfl | assumption) ?_; refine S_nil ?_; refine CW_ret ?_)
        exact ⟨_, ResW_one (v := .bool _) rfl, H, hG, .inl ⟨rfl, (ordR_step h0).2 ⟨i, hlt, hL⟩⟩⟩
      · (refine S_nil ?_; refine CW_false (by first | rfl | assumption) ?_; refine CW_skip ?_; refine CW_region rfl ?_; refine S_op ?_; refine W_add1 (by first | rfl | assumption) (by omega) ?_; refine S_op ?_; refine W_moveInt (by first | rfl | assumption) ?_; refine S_nil ?_)
        exact ⟨(by repeat (first | exact AgreeOff.over | refine AgreeOff.upd rfl ?_ | refine AgreeOff.over2 rfl ?_)), m - 1, by omega, i + 1, H, rfl, hG, (by
          intro j hj
          rcases Nat.lt_or_ge j i with h1 | h1
          · exact hall j h1
          · have : j = i := by omega
            subst this; exact hL), by omega, by omega⟩
    · have hin : i = r.length := by omega
      subst hin
      (refine CW_seq ?_; refine CW_region rfl ?_; refine S_op ?_; refine W_lssF (by first | rfl | assumption) (by first | rfl | assumption) (by first | omega | rfl) ?_; refine S_nil ?_; refine CW_seq ?_; refine CW_false (by first | rfl | assumption) ?_; refine CW_exit ?_; refine CW_seq ?_; refine CW_region rfl ?_; refine S_op ?_; refine W_assignBool (by first | rfl | assumption) ?_; refine S_nil ?_; refine CW_ret ?_)
      exact ⟨_, ResW_one (v := .bool _) rfl, H, hG, .inr ⟨rfl, fun hL => by
        obtain ⟨j, hj, h1⟩ := (ordR_step h0).1 hL
        exact hall j hj h1⟩⟩
theorem rLinear_c (H : HF) (A B : Option Addr) (c d : Nat) (l : List Ent) (h : List Don) (m : Nat) (hm : h.length = m) (hl : EntsAt H A l) (hc : l.length ≤ c) (hr : riseB l = true) (hb : l.length ≤ 900) (hd : DonsAt H B h) (hdc : m ≤ d) :
    Fn Try.prog 15 [.slice A l.length c, .slice B m d] H fun v _ => (7 < m ∧ v = .tuple #[.bool false, .int .i64 4]) ∨ (m ≤ 7 ∧ ∃ u, v = .tuple #[u, .int .i64 0] ∧ IsB u (Lin l h)) := by
  refine Fn_of_CW Try.func15 rfl Try.ntmps15 Try.results15 rfl fun w hS => ?_; have hG := Grow.refl hS; have hS0 := hS
  by_cases h7 : 7 < m
  · (refine CW_seq ?_; refine CW_region rfl ?_; refine S_op ?_; refine W_assignBool (by first | rfl | assumption) ?_; refine S_op ?_; refine W_assignInt (by first | rfl | assumption) ?_; refine S_nil ?_; refine CW_seq ?_; refine CW_seq ?_; refine CW_region rfl ?_; refine S_op ?_; refine W_moveSl (by first | rfl | assumption) ?_; refine S_op ?_; refine W_len (by first | rfl | assumption) ?_; refine S_op ?_; refine W_gtrT (by first | rfl | assumption) (by first | rfl | assumption) (by first | omega | rfl) ?_; refine S_nil ?_; refine CW_true (by first | rfl | assumption) ?_; refine CW_seq ?_; refine CW_region rfl ?_; refine S_op ?_; refine W_assignBool (by first | rfl | assumption) ?_; refine S_op ?_; refine W_assignInt (by first | rfl | assumption) ?_; refine S_nil ?_; refine CW_ret ?_)
    exact ⟨_, ResW_two (v1 := .bool _) (v2 := .int _ _) rfl rfl, H, hG, .inl ⟨h7, rfl⟩⟩
  · (refine CW_seq ?_; refine CW_region rfl ?_; refine S_op ?_; refine W_assignBool (by first | rfl | assumption) ?_; refine S_op ?_; refine W_assignInt (by first | rfl | assumption) ?_; refine S_nil ?_; refine CW_seq ?_; refine CW_seq ?_; refine CW_region rfl ?_; refine S_op ?_; refine W_moveSl (by first | rfl | assumption) ?_; refine S_op ?_; refine W_len (by first | rfl | assumption) ?_; refine S_op ?_; refine W_gtrF (by first | rfl | assumption) (by first | rfl | assumption) (by first | omega | rfl) ?_; refine S_nil ?_; refine CW_false (by first | rfl | assumption) ?_; refine CW_skip ?_; refine CW_seq ?_; refine CW_region rfl ?_; refine S_op ?_; refine W_moveSl (by first | rfl | assumption) ?_; refine S_op ?_; refine W_moveSl (by first | rfl | assumption) ?_)
    (refine S_op ?_; refine W_call hS (by rfl) (rOrders_c m h m hm (Nat.le_refl m) [] 0 rfl (by omega) l H A none B c 0 d hr hl hc hb (.inl rfl) (Nat.le_refl 0) hd hdc) ?_); rintro v H w hG' hv; replace hG := hG.trans hG'; replace hS := hG'.sub; clear hG'
    rcases hv with ⟨rfl, hL⟩ | ⟨rfl, hL⟩
    · (refine S_op ?_; refine W_assignBool (by first | rfl | assumption) ?_; refine S_op ?_; refine W_assignInt (by first | rfl | assumption) ?_; refine S_nil ?_; refine CW_ret ?_)
      exact ⟨_, ResW_two (v1 := .bool _) (v2 := .int _ _) rfl rfl, H, hG, .inr ⟨by omega, _, rfl, .inl ⟨rfl, hL⟩⟩⟩
    · (refine S_op ?_; refine W_assignBool (by first | rfl | assumption) ?_; refine S_op ?_; refine W_assignInt (by first | rfl | assumption) ?_; refine S_nil ?_; refine CW_ret ?_)
      exact ⟨_, ResW_two (v1 := .bool _) (v2 := .int _ _) rfl rfl, H, hG, .inr ⟨by omega, _, rfl, .inr ⟨rfl, hL⟩⟩⟩
end Go.Proofs.Ytcbboghjocoiiaa
