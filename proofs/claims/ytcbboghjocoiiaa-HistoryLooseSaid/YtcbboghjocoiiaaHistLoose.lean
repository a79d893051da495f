/- HistoryLoose: it answers true. Conditions: sizes. -/
import Derived.Test.YtcbboghjocoiiaaLaw20
import Derived.Test.YtcbboghjocoiiaaApp
namespace Go.Proofs.Ytcbboghjocoiiaa
open Go.Proofs Go.RowKit
set_option linter.unusedVariables false
attribute [local irreducible] CW SeqW OpW
set_option maxHeartbeats 8000000
def looseD (d : Don) : Don := ⟨d.x, d.r, 0, 0⟩
theorem fits_loose : ∀ {p : List Don} {l : List Ent}, Fits l p → Fits l (p.map looseD)
  | [], _, _ => trivial
  | d :: p, l, ⟨_, h2, h3⟩ => ⟨fun e he => by
      obtain ⟨x, _, rfl⟩ := List.mem_map.1 he
      simp [looseD], h2, fits_loose h3⟩
theorem lin_loose {l : List Ent} {h : List Don} (hL : Lin l h) : Lin l (h.map looseD) := by
  obtain ⟨p, h1, h2⟩ := hL
  exact ⟨p.map looseD, h1.map _, fits_loose h2⟩
theorem historyLoose_c (H0 : HF) (A B : Option Addr) (c d : Nat) (l : List Ent) (h : List Don) (hl : EntsAt H0 A l) (hc : l.length ≤ c) (hd : DonsAt H0 B h) (hdc : h.length ≤ d) (sl : SzE l) (sh : SzD h) :
    Fn Try.prog 6 [.slice A l.length c, .slice B h.length d] H0 fun v _ => v = .bool true := by
  refine Fn_of_CW Try.func6 rfl Try.ntmps6 Try.results6 rfl fun w0 hS => ?_; have hG := Grow.refl hS
  (refine CW_seq ?_; refine CW_region rfl ?_; refine S_op ?_; refine W_assignBool (by first | rfl | assumption) ?_; refine S_nil ?_; refine CW_seq ?_; refine CW_seq ?_; refine CW_region rfl ?_)
  (refine S_op ?_; refine W_call hS (by rfl) (awake20_c H0) ?_); rintro v H w hG' rfl; replace hG := hG.trans hG'; replace hS := hG'.sub; replace hl := hl.mono hG'.le; replace hd := hd.mono hG'.le; clear hG'
  (refine S_op ?_; refine W_not (by first | rfl | assumption) ?_; refine S_op ?_; refine W_moveBool (by first | rfl | assumption) ?_; refine S_want (by rfl) ?_; refine W_moveSl (by first | rfl | assumption) ?_; refine S_want (by rfl) ?_; refine W_moveSl (by first | rfl | assumption) ?_)
  (refine S_want (by rfl) ?_; refine W_call hS (by rfl) (few20_c H A B c d l h hl hd sl sh) ?_); rintro v H w hG' ⟨z, rfl, hz⟩; replace hG := hG.trans hG'; replace hS := hG'.sub; replace hl := hl.mono hG'.le; replace hd := hd.mono hG'.le; clear hG'
  cases z with
  | false =>
    skip
    (refine S_want (by rfl) ?_; refine W_not (by first | rfl | assumption) ?_; refine S_op ?_; refine W_pickF (by first | rfl | assumption) (by first | rfl | assumption) ?_; refine S_op ?_; refine W_moveBool (by first | rfl | assumption) ?_; refine S_pass (by rfl) ?_; refine S_pass (by rfl) ?_; refine S_pass (by rfl) ?_; refine S_op ?_; refine W_pickT (by first | rfl | assumption) (by first | rfl | assumption) ?_; refine S_nil ?_; refine CW_true (by first | rfl | assumption) ?_; refine CW_seq ?_; refine CW_region rfl ?_)
    (refine S_op ?_; refine W_call hS (by rfl) (awake20_c H) ?_); rintro v H w hG' rfl; replace hG := hG.trans hG'; replace hS := hG'.sub; clear hG'
    (refine S_op ?_; refine W_assignBool (by first | rfl | assumption) ?_; refine S_nil ?_; refine CW_ret ?_)
    exact ⟨_, ResW_one (v := .bool _) rfl, H, hG, rfl⟩
  | true =>
    obtain ⟨h40, h20, hr⟩ := hz rfl
    by_cases h7 : 7 < h.length
    · skip
      (refine S_want (by rfl) ?_; refine W_not (by first | rfl | assumption) ?_; refine S_op ?_; refine W_pickF (by first | rfl | assumption) (by first | rfl | assumption) ?_; refine S_op ?_; refine W_moveBool (by first | rfl | assumption) ?_; refine S_want (by rfl) ?_; refine W_moveSl (by first | rfl | assumption) ?_; refine S_want (by rfl) ?_; refine W_len (by first | rfl | assumption) ?_; refine S_want (by rfl) ?_; refine W_gtrT (by first | rfl | assumption) (by first | rfl | assumption) (by first | omega | rfl) ?_; refine S_op ?_; refine W_pickF (by first | rfl | assumption) (by first | rfl | assumption) ?_; refine S_nil ?_; refine CW_true (by first | rfl | assumption) ?_; refine CW_seq ?_; refine CW_region rfl ?_)
      (refine S_op ?_; refine W_call hS (by rfl) (awake20_c H) ?_); rintro v H w hG' rfl; replace hG := hG.trans hG'; replace hS := hG'.sub; clear hG'
      (refine S_op ?_; refine W_assignBool (by first | rfl | assumption) ?_; refine S_nil ?_; refine CW_ret ?_)
      exact ⟨_, ResW_one (v := .bool _) rfl, H, hG, rfl⟩
    (refine S_want (by rfl) ?_; refine W_not (by first | rfl | assumption) ?_; refine S_op ?_; refine W_pickF (by first | rfl | assumption) (by first | rfl | assumption) ?_; refine S_op ?_; refine W_moveBool (by first | rfl | assumption) ?_; refine S_want (by rfl) ?_; refine W_moveSl (by first | rfl | assumption) ?_; refine S_want (by rfl) ?_; refine W_len (by first | rfl | assumption) ?_; refine S_want (by rfl) ?_; refine W_gtrF (by first | rfl | assumption) (by first | rfl | assumption) (by first | omega | rfl) ?_; refine S_op ?_; refine W_pickF (by first | rfl | assumption) (by first | rfl | assumption) ?_; refine S_nil ?_; refine CW_false (by first | rfl | assumption) ?_; refine CW_skip ?_; refine CW_seq ?_; refine CW_region rfl ?_; refine S_op ?_; refine W_assignSl (by first | rfl | assumption) ?_; refine S_nil ?_; refine CW_seq ?_; refine CW_seq ?_; refine CW_region rfl ?_; refine S_op ?_; refine W_moveSl (by first | rfl | assumption) ?_; refine S_op ?_; refine W_len (by first | rfl | assumption) ?_; refine S_op ?_; refine W_moveInt (by first | rfl | assumption) ?_; refine S_nil ?_; refine CW_block ?_)
    refine CW_loopM [5, 6, 27, 28, 29, 30, 31, 32, 33, 34, 35, 36, 37, 38, 39, 40, 41, 42, 43, 44]
      (fun m u w2 => ∃ (k : Nat) (A1 : Option Addr) (c1 : Nat) (H2 : HF), u 27 = .int .i64 (k : Int) ∧ u 5 = .slice A1 k c1 ∧ Grow H0 w0 H2 w2 ∧ HLe H H2 ∧ Own H2 w2 w0.heap.size 43 9 A1 k c1 (dons ((h.take k).map looseD)) ∧ k ≤ h.length ∧ h.length - k ≤ m)
      (m := h.length) ⟨0, none, 0, H, rfl, rfl, hG, HLe.refl _, Own.nil _ _ _ _ _, by omega, by omega⟩ ?_
    rintro m u w ⟨k, A1, c1, H2, h27, h5, hG2, hle, ho, hk, hm⟩
    have hleR := hle
    replace hl := hl.mono hle
    replace hd := hd.mono hle
    have hG := hG2
    have hS := hG2.sub
    clear hG2 hle
    by_cases hlt : k < h.length
    · obtain ⟨bb, off, hB, hrow⟩ := hd.some hlt
      (refine CW_seq ?_; refine CW_region rfl ?_; refine S_op ?_; refine W_lssT (by first | rfl | assumption) (by first | rfl | assumption) (by first | omega | rfl) ?_; refine S_nil ?_; refine CW_seq ?_; refine CW_true (by first | rfl | assumption) ?_; refine CW_skip ?_; refine CW_seq ?_; refine CW_block ?_; refine CW_seq ?_; refine CW_region rfl ?_; refine S_op ?_; refine W_moveInt (by first | rfl | assumption) ?_; refine S_op ?_; refine W_assignInt (by first | rfl | assumption) ?_; refine S_nil ?_)
      apply CW_region_gu [43, 5] (AppM w0.heap.size 43 9 A1 k c1 (dons ((h.take k).map looseD)) (donCells (looseD (don h k))) 43 5) 1 [_, _, _, _, _, _, _, _, _, _, _, _, _, _, _] [none, none, none, none, none, none, none, none, none, none, none, none, none, some 0, some 1] [some 1, none, none, none, none, none, none, none, none, none, none, none, none, none, none] [some 30, some 31, some 32, some 33, some 34, some 35, some 36, some 37, some 38, some 39, some 40, some 41, some 42, some 43, some 5] [30, 31, 32, 33, 34, 35, 36, 37, 38, 39, 40, 41, 42, 43, 5] mixed rfl rfl rfl rfl (by decide) rfl rfl rfl rfl (by assumption)
      · exact AppM.begin h5 ho
      · exact AppM.cl rfl rfl
      · apply stepsU_cons; case h1 => (apply U_pure; (case hd => rfl); intro c u H' w' hB hG'; have h8 := hG'.m.old hB; (repeat (first | refine depU_eq rfl rfl rfl ?_ | (refine depU_fact rfl rfl rfl ?_; intro v hu hv) | refine depU_skip rfl ?_ | refine depU_none rfl ?_)); refine depU_nil ?_; apply Pure1.mk; intro K hk; exact W_moveSl h8 hk)
        ((apply stepsU_cons; case h1 => (apply U_pure; (case hd => rfl); intro c u H' w' hB hG; have hS' := hG.sub; have hS2' := hG.subOld; (repeat (first | refine depU_eq rfl rfl rfl ?_ | (refine depU_fact rfl rfl rfl ?_; intro v hu hv) | refine depU_skip rfl ?_ | refine depU_none rfl ?_)); apply Pure1.mk; intro K hk; exact W_moveSl (by first | rfl | assumption) hk)); (apply stepsU_cons; case h1 => (apply U_pure; (case hd => rfl); intro c u H' w' hB hG; have hS' := hG.sub; have hS2' := hG.subOld; (repeat (first | refine depU_eq rfl rfl rfl ?_ | (refine depU_fact rfl rfl rfl ?_; intro v hu hv) | refine depU_skip rfl ?_ | refine depU_none rfl ?_)); apply Pure1.mk; intro K hk; exact W_moveInt (by first | rfl | assumption) hk)); (apply stepsU_cons; case h1 => (apply U_pure; (case hd => rfl); intro c u H' w' hB hG; have hS' := hG.sub; have hS2' := hG.subOld; (repeat (first | refine depU_eq rfl rfl rfl ?_ | (refine depU_fact rfl rfl rfl ?_; intro v hu hv) | refine depU_skip rfl ?_ | refine depU_none rfl ?_)); apply Pure1.mk; intro K hk; exact W_index (by first | rfl | assumption) (by first | rfl | assumption) (by first | assumption | omega | decide) (by first | rfl | assumption) hk)); (apply stepsU_cons; case h1 => (apply U_pure; (case hd => rfl); intro c u H' w' hB hG; have hS' := hG.sub; have hS2' := hG.subOld; (repeat (first | refine depU_eq rfl rfl rfl ?_ | (refine depU_fact rfl rfl rfl ?_; intro v hu hv) | refine depU_skip rfl ?_ | refine depU_none rfl ?_)); apply Pure1.mk; intro K hk; exact W_field (by first | rfl | assumption) hk)); (apply stepsU_cons; case h1 => (apply U_pure; (case hd => rfl); intro c u H' w' hB hG; have hS' := hG.sub; have hS2' := hG.subOld; (repeat (first | refine depU_eq rfl rfl rfl ?_ | (refine depU_fact rfl rfl rfl ?_; intro v hu hv) | refine depU_skip rfl ?_ | refine depU_none rfl ?_)); apply Pure1.mk; intro K hk; exact W_loadOb (by first | rfl | assumption) (by assumption) (by first | assumption | omega) (by assumption) hk)); (apply stepsU_cons; case h1 => (apply U_pure; (case hd => rfl); intro c u H' w' hB hG; have hS' := hG.sub; have hS2' := hG.subOld; (repeat (first | refine depU_eq rfl rfl rfl ?_ | (refine depU_fact rfl rfl rfl ?_; intro v hu hv) | refine depU_skip rfl ?_ | refine depU_none rfl ?_)); apply Pure1.mk; intro K hk; exact W_moveSl (by first | rfl | assumption) hk)); (apply stepsU_cons; case h1 => (apply U_pure; (case hd => rfl); intro c u H' w' hB hG; have hS' := hG.sub; have hS2' := hG.subOld; (repeat (first | refine depU_eq rfl rfl rfl ?_ | (refine depU_fact rfl rfl rfl ?_; intro v hu hv) | refine depU_skip rfl ?_ | refine depU_none rfl ?_)); apply Pure1.mk; intro K hk; exact W_moveInt (by first | rfl | assumption) hk)); (apply stepsU_cons; case h1 => (apply U_pure; (case hd => rfl); intro c u H' w' hB hG; have hS' := hG.sub; have hS2' := hG.subOld; (repeat (first | refine depU_eq rfl rfl rfl ?_ | (refine depU_fact rfl rfl rfl ?_; intro v hu hv) | refine depU_skip rfl ?_ | refine depU_none rfl ?_)); apply Pure1.mk; intro K hk; exact W_index (by first | rfl | assumption) (by first | rfl | assumption) (by first | assumption | omega | decide) (by first | rfl | assumption) hk)); (apply stepsU_cons; case h1 => (apply U_pure; (case hd => rfl); intro c u H' w' hB hG; have hS' := hG.sub; have hS2' := hG.subOld; (repeat (first | refine depU_eq rfl rfl rfl ?_ | (refine depU_fact rfl rfl rfl ?_; intro v hu hv) | refine depU_skip rfl ?_ | refine depU_none rfl ?_)); apply Pure1.mk; intro K hk; exact W_field (by first | rfl | assumption) hk)); (apply stepsU_cons; case h1 => (apply U_pure; (case hd => rfl); intro c u H' w' hB hG; have hS' := hG.sub; have hS2' := hG.subOld; (repeat (first | refine depU_eq rfl rfl rfl ?_ | (refine depU_fact rfl rfl rfl ?_; intro v hu hv) | refine depU_skip rfl ?_ | refine depU_none rfl ?_)); apply Pure1.mk; intro K hk; exact W_loadOe (by first | rfl | assumption) (by assumption) (by first | assumption | omega) (by assumption) hk)))
        apply stepsU_cons; case h1 => (apply U_pure; (case hd => rfl); intro c u H' w' hB hG'; (repeat (first | refine depU_eq rfl rfl rfl ?_ | (refine depU_fact rfl rfl rfl ?_; intro v hu hv) | refine depU_skip rfl ?_ | refine depU_none rfl ?_)); refine depU_nil ?_; apply Pure1.mk; intro K hk; exact W_build (cs := donCells (looseD (don h k))) (fill_don2 (don h k).x (don h k).r) hk)
        apply stepsU_cons
        · refine U_fact (by rfl) (φ := fun v H => ∃ b, v = .slice (some ⟨b, 0, none⟩) 1 1 ∧ SlAt H (some ⟨b, 0, none⟩) (donCells (looseD (don h k)))) ?_
          intro c' u H' w' hB hG'
          have hS' := hG'.sub
          (repeat (first | refine depU_eq rfl rfl rfl ?_ | (refine depU_fact rfl rfl rfl ?_; intro v hu hv) | refine depU_skip rfl ?_ | refine depU_none rfl ?_))
          refine depU_nil ?_
          refine W_build1 (sz := 9) (v := .agg (donCells (looseD (don h k))).toArray) hS' (by omega) (by rfl) (by rfl) ?_
          intro H3 w3 b hG3 hb3 _ _
          exact ⟨H3, hG3.le, hG'.trans hG3, fun H'' hle => ⟨b, rfl, SlAt.of_row (hle _ _ hb3)⟩⟩
        apply stepsU_cons
        · refine U_eff (φ := fun _ _ => True) ?_
          intro u' H' w' hG'
          (repeat (first | refine depU_eq rfl rfl rfl ?_ | (refine depU_fact rfl rfl rfl ?_; intro v hu hv) | refine depU_skip rfl ?_ | refine depU_none rfl ?_))
          obtain ⟨b2, rfl, hb2⟩ := hv
          refine depU_nil ?_
          refine W_append (news := donCells (looseD (don h k))) (m := 1) (by rfl) (by rfl) hG'.grow (hG'.m.2.1 rfl) (hb2.cells hG'.sub) (by rfl) (OneCells.of_all (by rfl)) (by decide) (by omega) (by omega) ?_
          intro A' c' w3 hg3 ho3 _ _
          exact ⟨H', HLe.refl _, hG'.next hg3 (HLe.refl _) (hG'.m.app rfl ho3), fun _ _ => trivial⟩
        apply stepsU_cons
        · refine U_eff (φ := fun _ _ => True) ?_
          intro u' H' w' hG'
          (repeat (first | refine depU_eq rfl rfl rfl ?_ | (refine depU_fact rfl rfl rfl ?_; intro v hu hv) | refine depU_skip rfl ?_ | refine depU_none rfl ?_))
          refine depU_nil ?_
          refine W_assign (by rfl) ?_
          exact ⟨H', HLe.refl _, hG'.next hG'.grow (HLe.refl _) (hG'.m.asg rfl hu), fun _ _ => trivial⟩
        (exact trivial)
      intro q u2 H w hq hG hle hm8
      (repeat (first | refine finU_eq rfl rfl ?_ | (refine finU_fact rfl ?_; intro v hu hv) | refine finU_none rfl ?_)); refine finU_nil ?_
      obtain ⟨A5, c5, e5, o5⟩ := hm8.fin hq
      have hv : v = .slice A5 (k + 1) c5 := hu.symm.trans e5
      subst hv
      (refine CW_region rfl ?_; refine S_op ?_; refine W_add1 (by first | rfl | assumption) (by omega) ?_; refine S_op ?_; refine W_moveInt (by first | rfl | assumption) ?_; refine S_nil ?_)
      exact ⟨(by repeat (first | exact AgreeOff.over | refine AgreeOff.upd rfl ?_ | refine AgreeOff.over2 rfl ?_)), m - 1, by omega, k + 1, A5, c5, H, rfl, rfl, hG, hleR.trans hle, (by
        have e : dons ((h.take (k + 1)).map looseD) = dons ((h.take k).map looseD) ++ donCells (looseD (don h k)) := by
          have h1 : h[k] = don h k := by
            have := don_get hlt
            rw [List.getElem?_eq_getElem hlt] at this
            exact Option.some.inj this
          rw [take_succ' hlt, List.map_append, dons_append, h1]; simp [dons]
        rw [e]; exact o5), by omega, by omega⟩
    · have hkn : k = h.length := by omega
      subst hkn
      rw [List.take_length] at ho
      have hc1 := ho.cap
      obtain ⟨H, hle, hG, hsl, _⟩ := ho.freeze hG
      clear ho
      replace hS := hG.sub
      replace hl := hl.mono hle
      replace hd := hd.mono hle
      have hd2 : DonsAt H A1 (h.map looseD) := hsl
      clear hle hsl
      (refine CW_seq ?_; refine CW_region rfl ?_; refine S_op ?_; refine W_lssF (by first | rfl | assumption) (by first | rfl | assumption) (by first | omega | rfl) ?_; refine S_nil ?_; refine CW_seq ?_; refine CW_false (by first | rfl | assumption) ?_; refine CW_exit ?_; refine CW_seq ?_; refine CW_region rfl ?_; refine S_op ?_; refine W_moveSl (by first | rfl | assumption) ?_; refine S_op ?_; refine W_moveSl (by first | rfl | assumption) ?_)
      (refine S_op ?_; refine W_call hS (by rfl) (made_c H B d h.length h rfl hd (by omega)) ?_); rintro v H w hG' hm1; replace hG := hG.trans hG'; replace hS := hG'.sub; replace hl := hl.mono hG'.le; replace hd := hd.mono hG'.le; replace hd2 := hd2.mono hG'.le; clear hG'
      obtain ⟨A4, c4, rfl, hc4, hm4⟩ := hm1.dons
      skip
      (refine S_op ?_; refine W_call hS (by rfl) (linear_c H A A4 c c4 l h h.length rfl hl hc (by omega) hm4 hc4) ?_); rintro v H w hG' hv; replace hG := hG.trans hG'; replace hS := hG'.sub; replace hl := hl.mono hG'.le; replace hd := hd.mono hG'.le; replace hd2 := hd2.mono hG'.le; clear hG'
      rcases hv with ⟨q7, _⟩ | ⟨q7, u1, rfl, ⟨rfl, hL⟩ | ⟨rfl, hL⟩⟩
      · omega
      · skip
        (refine S_op ?_; refine W_moveTup (by first | rfl | assumption) ?_; refine S_op ?_; refine W_extract (by first | rfl | assumption) (by rfl) ?_; refine S_op ?_; refine W_extract (by first | rfl | assumption) (by rfl) ?_; refine S_op ?_; refine W_assignBool (by first | rfl | assumption) ?_; refine S_op ?_; refine W_assignInt (by first | rfl | assumption) ?_; refine S_nil ?_; refine CW_seq ?_; refine CW_region rfl ?_; refine S_op ?_; refine W_moveSl (by first | rfl | assumption) ?_; refine S_op ?_; refine W_moveSl (by first | rfl | assumption) ?_)
        (refine S_op ?_; refine W_call hS (by rfl) (made_c H A1 c1 h.length (h.map looseD) (by simp) hd2 (by omega)) ?_); rintro v H w hG' hm2; replace hG := hG.trans hG'; replace hS := hG'.sub; replace hl := hl.mono hG'.le; replace hd := hd.mono hG'.le; replace hd2 := hd2.mono hG'.le; clear hG'
        obtain ⟨A5, c5, rfl, hc5, hm5⟩ := hm2.dons
        skip
        (refine S_op ?_; refine W_call hS (by rfl) (linear_c H A A5 c c5 l (h.map looseD) h.length (by simp) hl hc (by omega) hm5 hc5) ?_); rintro v H w hG' hv; replace hG := hG.trans hG'; replace hS := hG'.sub; replace hl := hl.mono hG'.le; replace hd := hd.mono hG'.le; replace hd2 := hd2.mono hG'.le; clear hG'
        rcases hv with ⟨p7, _⟩ | ⟨p7, u2, rfl, ⟨rfl, _⟩ | ⟨_, hN⟩⟩
        · omega
        · (refine S_op ?_; refine W_moveTup (by first | rfl | assumption) ?_; refine S_op ?_; refine W_extract (by first | rfl | assumption) (by rfl) ?_; refine S_op ?_; refine W_extract (by first | rfl | assumption) (by rfl) ?_; refine S_op ?_; refine W_assignBool (by first | rfl | assumption) ?_; refine S_op ?_; refine W_assignInt (by first | rfl | assumption) ?_; refine S_nil ?_; refine CW_seq ?_; refine CW_region rfl ?_; refine S_op ?_; refine W_moveInt (by first | rfl | assumption) ?_; refine S_op ?_; refine W_eqlT (by first | rfl | assumption) (by first | rfl | assumption) (by first | omega | rfl) ?_; refine S_op ?_; refine W_moveBool (by first | rfl | assumption) ?_; refine S_want (by rfl) ?_; refine W_moveInt (by first | rfl | assumption) ?_; refine S_want (by rfl) ?_; refine W_eqlT (by first | rfl | assumption) (by first | rfl | assumption) (by first | omega | rfl) ?_; refine S_op ?_; refine W_pickT (by first | rfl | assumption) (by first | rfl | assumption) ?_; refine S_op ?_; refine W_moveBool (by first | rfl | assumption) ?_; refine S_want (by rfl) ?_; refine W_moveBool (by first | rfl | assumption) ?_; refine S_want (by rfl) ?_; refine W_not (by first | rfl | assumption) ?_; refine S_want (by rfl) ?_; refine W_moveBool (by first | rfl | assumption) ?_; refine S_want (by rfl) ?_; refine W_moveBool (by first | rfl | assumption) ?_; refine S_want (by rfl) ?_; refine W_pickF (by first | rfl | assumption) (by first | rfl | assumption) ?_; refine S_op ?_; refine W_pickT (by first | rfl | assumption) (by first | rfl | assumption) ?_; refine S_op ?_; refine W_assignBool (by first | rfl | assumption) ?_; refine S_nil ?_; refine CW_ret ?_)
          exact ⟨_, ResW_one (v := .bool _) rfl, H, hG, rfl⟩
        · exact absurd (lin_loose hL) hN
      · skip
        (refine S_op ?_; refine W_moveTup (by first | rfl | assumption) ?_; refine S_op ?_; refine W_extract (by first | rfl | assumption) (by rfl) ?_; refine S_op ?_; refine W_extract (by first | rfl | assumption) (by rfl) ?_; refine S_op ?_; refine W_assignBool (by first | rfl | assumption) ?_; refine S_op ?_; refine W_assignInt (by first | rfl | assumption) ?_; refine S_nil ?_; refine CW_seq ?_; refine CW_region rfl ?_; refine S_op ?_; refine W_moveSl (by first | rfl | assumption) ?_; refine S_op ?_; refine W_moveSl (by first | rfl | assumption) ?_)
        (refine S_op ?_; refine W_call hS (by rfl) (made_c H A1 c1 h.length (h.map looseD) (by simp) hd2 (by omega)) ?_); rintro v H w hG' hm2; replace hG := hG.trans hG'; replace hS := hG'.sub; replace hl := hl.mono hG'.le; replace hd := hd.mono hG'.le; replace hd2 := hd2.mono hG'.le; clear hG'
        obtain ⟨A5, c5, rfl, hc5, hm5⟩ := hm2.dons
        skip
        (refine S_op ?_; refine W_call hS (by rfl) (linear_c H A A5 c c5 l (h.map looseD) h.length (by simp) hl hc (by omega) hm5 hc5) ?_); rintro v H w hG' hv; replace hG := hG.trans hG'; replace hS := hG'.sub; replace hl := hl.mono hG'.le; replace hd := hd.mono hG'.le; replace hd2 := hd2.mono hG'.le; clear hG'
        rcases hv with ⟨p7, _⟩ | ⟨p7, u2, rfl, ⟨rfl, _⟩ | ⟨rfl, _⟩⟩
        · omega
        · (refine S_op ?_; refine W_moveTup (by first | rfl | assumption) ?_; refine S_op ?_; refine W_extract (by first | rfl | assumption) (by rfl) ?_; refine S_op ?_; refine W_extract (by first | rfl | assumption) (by rfl) ?_; refine S_op ?_; refine W_assignBool (by first | rfl | assumption) ?_; refine S_op ?_; refine W_assignInt (by first | rfl | assumption) ?_; refine S_nil ?_; refine CW_seq ?_; refine CW_region rfl ?_; refine S_op ?_; refine W_moveInt (by first | rfl | assumption) ?_; refine S_op ?_; refine W_eqlT (by first | rfl | assumption) (by first | rfl | assumption) (by first | omega | rfl) ?_; refine S_op ?_; refine W_moveBool (by first | rfl | assumption) ?_; refine S_want (by rfl) ?_; refine W_moveInt (by first | rfl | assumption) ?_; refine S_want (by rfl) ?_; refine W_eqlT (by first | rfl | assumption) (by first | rfl | assumption) (by first | omega | rfl) ?_; refine S_op ?_; refine W_pickT (by first | rfl | assumption) (by first | rfl | assumption) ?_; refine S_op ?_; refine W_moveBool (by first | rfl | assumption) ?_; refine S_want (by rfl) ?_; refine W_moveBool (by first | rfl | assumption) ?_; refine S_want (by rfl) ?_; refine W_not (by first | rfl | assumption) ?_; refine S_want (by rfl) ?_; refine W_moveBool (by first | rfl | assumption) ?_; refine S_pass (by rfl) ?_; refine S_want (by rfl) ?_; refine W_pickT (by first | rfl | assumption) (by first | rfl | assumption) ?_; refine S_op ?_; refine W_pickT (by first | rfl | assumption) (by first | rfl | assumption) ?_; refine S_op ?_; refine W_assignBool (by first | rfl | assumption) ?_; refine S_nil ?_; refine CW_ret ?_)
          exact ⟨_, ResW_one (v := .bool _) rfl, H, hG, rfl⟩
        · (refine S_op ?_; refine W_moveTup (by first | rfl | assumption) ?_; refine S_op ?_; refine W_extract (by first | rfl | assumption) (by rfl) ?_; refine S_op ?_; refine W_extract (by first | rfl | assumption) (by rfl) ?_; refine S_op ?_; refine W_assignBool (by first | rfl | assumption) ?_; refine S_op ?_; refine W_assignInt (by first | rfl | assumption) ?_; refine S_nil ?_; refine CW_seq ?_; refine CW_region rfl ?_; refine S_op ?_; refine W_moveInt (by first | rfl | assumption) ?_; refine S_op ?_; refine W_eqlT (by first | rfl | assumption) (by first | rfl | assumption) (by first | omega | rfl) ?_; refine S_op ?_; refine W_moveBool (by first | rfl | assumption) ?_; refine S_want (by rfl) ?_; refine W_moveInt (by first | rfl | assumption) ?_; refine S_want (by rfl) ?_; refine W_eqlT (by first | rfl | assumption) (by first | rfl | assumption) (by first | omega | rfl) ?_; refine S_op ?_; refine W_pickT (by first | rfl | assumption) (by first | rfl | assumption) ?_; refine S_op ?_; refine W_moveBool (by first | rfl | assumption) ?_; refine S_want (by rfl) ?_; refine W_moveBool (by first | rfl | assumption) ?_; refine S_want (by rfl) ?_; refine W_not (by first | rfl | assumption) ?_; refine S_want (by rfl) ?_; refine W_moveBool (by first | rfl | assumption) ?_; refine S_pass (by rfl) ?_; refine S_want (by rfl) ?_; refine W_pickT (by first | rfl | assumption) (by first | rfl | assumption) ?_; refine S_op ?_; refine W_pickT (by first | rfl | assumption) (by first | rfl | assumption) ?_; refine S_op ?_; refine W_assignBool (by first | rfl | assumption) ?_; refine S_nil ?_; refine CW_ret ?_)
          exact ⟨_, ResW_one (v := .bool _) rfl, H, hG, rfl⟩
end Go.Proofs.Ytcbboghjocoiiaa
