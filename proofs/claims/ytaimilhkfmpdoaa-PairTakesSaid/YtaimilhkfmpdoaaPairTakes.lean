/- PairTakes: it answers true. Conditions: sizes. -/
import Derived.Test.YtaimilhkfmpdoaaBuilt
namespace Go.Proofs.Ytaimilhkfmpdoaa
open Go.Proofs Go.RowKit
set_option linter.unusedVariables false
attribute [local irreducible] CW SeqW OpW
set_option maxHeartbeats 4000000
theorem takes_law {l : List Ent} (h : riseB l = true) (e : Ent) : findIs (withL l e) e.key = true ∧ findAt (withL l e) e.key < (withL l e).length ∧ ent (withL l e) (findAt (withL l e) e.key) = e ∧
    findIs (withoutL (withL l e) e.key) e.key = false ∧ withoutL (withL l e) e.key = withoutL l e.key ∧ withL (withoutL l e.key) e = withL l e := by
  rcases split_at h e.key with ⟨a, t, rfl, h1, h2⟩ | ⟨a, x, t, rfl, h1, hx, h2⟩
  · rw [withL_no h1 h2, findIs_yes h1 rfl h2, findAt_yes h1 rfl h2, withoutL_yes h1 rfl h2, withoutL_no h1 h2, findIs_no h1 h2, withL_no h1 h2]
    simp [ent]
  · rw [withL_yes h1 hx h2, findIs_yes h1 rfl h2, findAt_yes h1 rfl h2, withoutL_yes h1 rfl h2, withoutL_yes h1 hx h2, findIs_no h1 h2, withL_no h1 h2]
    simp [ent]
theorem pairTakes_c (H : HF) (A : Option Addr) (c : Nat) (l : List Ent) (e : Ent) (hl : EntsAt H A l) (hc : l.length ≤ c) (hb : l.length ≤ 100000000000000) (hs : Small l) (he : SmallE e) :
    Fn Try.prog 11 [.slice A l.length c, .agg #[.string e.key, .string e.val]] H fun v _ => v = .bool true := by
  refine Fn_of_CW Try.func11 rfl Try.ntmps11 Try.results11 rfl fun w hS => ?_
  obtain ⟨he1, he2⟩ := he
  simp only [reachBytes] at he1 he2
  (refine CW_seq ?_; refine CW_region rfl ?_)
  refine S_op (W_boxAgg hS rfl ?_)
  intro H0 w0 bx hG0 hb0
  (refine S_op ?_; refine W_assignBool (by first | rfl | assumption) ?_; refine S_nil ?_; refine CW_seq ?_; refine CW_seq ?_; refine CW_region rfl ?_)
  refine S_op ?_
  refine W_call hG0.sub (by rfl) (awake_c H0) ?_
  rintro v H1 w1 hG1 rfl
  have hG01 := hG0.trans hG1
  have hl1 := hl.mono hG01.le
  have hb1 := hG1.le _ _ hb0
  (refine S_op ?_; refine W_not (by first | rfl | assumption) ?_; refine S_op ?_; refine W_moveBool (by first | rfl | assumption) ?_; refine S_want (by rfl) ?_; refine W_moveSl (by first | rfl | assumption) ?_)
  refine S_want (by rfl) ?_
  refine W_call hG1.sub (by rfl) (few_c H1 A c l hl1 hb hs) ?_
  rintro v H2 w2 hG2 rfl
  have hG02 := hG01.trans hG2
  have hS2 := hG2.sub
  have hb2 := hG2.le _ _ hb1
  have hl2 := hl1.mono hG2.le
  clear hb0 hb1 hl1 hG01 hG1 hG0
  cases hf : fewB l with
  | false =>
    (refine S_want (by rfl) ?_; refine W_not (by first | rfl | assumption) ?_; refine S_op ?_; refine W_pickF (by first | rfl | assumption) (by first | rfl | assumption) ?_; refine S_op ?_; refine W_moveBool (by first | rfl | assumption) ?_; refine S_pass (by rfl) ?_; refine S_pass (by rfl) ?_; refine S_pass (by rfl) ?_; refine S_pass (by rfl) ?_; refine S_pass (by rfl) ?_; refine S_pass (by rfl) ?_; refine S_pass (by rfl) ?_; refine S_pass (by rfl) ?_; refine S_op ?_; refine W_pickT (by first | rfl | assumption) (by first | rfl | assumption) ?_; refine S_nil ?_; refine CW_true (by first | rfl | assumption) ?_; refine CW_seq ?_; refine CW_region rfl ?_)
    refine S_op ?_
    refine W_call hG2.sub (by rfl) (awake_c H2) ?_
    rintro v H3 w3 hG3 rfl
    (refine S_op ?_; refine W_assignBool (by first | rfl | assumption) ?_; refine S_nil ?_; refine CW_ret ?_)
    exact ⟨_, ResW_one (v := .bool _) rfl, H3, hG02.trans hG3, rfl⟩
  | true =>
    have hlen := fewB_le hf
    by_cases hbig : 2000 < e.key.size + e.val.size
    · (refine S_want (by rfl) ?_; refine W_not (by first | rfl | assumption) ?_; refine S_op ?_; refine W_pickF (by first | rfl | assumption) (by first | rfl | assumption) ?_; refine S_op ?_; refine W_moveBool (by first | rfl | assumption) ?_; refine S_want (by rfl) ?_; refine W_field (by first | rfl | assumption) ?_; refine S_want (by rfl) ?_; refine W_loadH (by first | rfl | assumption) (by assumption) (by rfl) (by assumption) ?_; refine S_want (by rfl) ?_; refine W_lenS (by first | rfl | assumption) ?_; refine S_want (by rfl) ?_; refine W_field (by first | rfl | assumption) ?_; refine S_want (by rfl) ?_; refine W_loadH (by first | rfl | assumption) (by assumption) (by rfl) (by assumption) ?_; refine S_want (by rfl) ?_; refine W_lenS (by first | rfl | assumption) ?_; refine S_want (by rfl) ?_; refine W_addN (by first | rfl | assumption) (by first | rfl | assumption) (by omega) ?_; refine S_want (by rfl) ?_; refine W_gtrT (by first | rfl | assumption) (by first | rfl | assumption) (by omega) ?_; refine S_op ?_; refine W_pickF (by first | rfl | assumption) (by first | rfl | assumption) ?_; refine S_nil ?_; refine CW_true (by first | rfl | assumption) ?_; refine CW_seq ?_; refine CW_region rfl ?_)
      refine S_op ?_
      refine W_call hG2.sub (by rfl) (awake_c H2) ?_
      rintro v H3 w3 hG3 rfl
      (refine S_op ?_; refine W_assignBool (by first | rfl | assumption) ?_; refine S_nil ?_; refine CW_ret ?_)
      exact ⟨_, ResW_one (v := .bool _) rfl, H3, hG02.trans hG3, rfl⟩
    · (refine S_want (by rfl) ?_; refine W_not (by first | rfl | assumption) ?_; refine S_op ?_; refine W_pickF (by first | rfl | assumption) (by first | rfl | assumption) ?_; refine S_op ?_; refine W_moveBool (by first | rfl | assumption) ?_; refine S_want (by rfl) ?_; refine W_field (by first | rfl | assumption) ?_; refine S_want (by rfl) ?_; refine W_loadH (by first | rfl | assumption) (by assumption) (by rfl) (by assumption) ?_; refine S_want (by rfl) ?_; refine W_lenS (by first | rfl | assumption) ?_; refine S_want (by rfl) ?_; refine W_field (by first | rfl | assumption) ?_; refine S_want (by rfl) ?_; refine W_loadH (by first | rfl | assumption) (by assumption) (by rfl) (by assumption) ?_; refine S_want (by rfl) ?_; refine W_lenS (by first | rfl | assumption) ?_; refine S_want (by rfl) ?_; refine W_addN (by first | rfl | assumption) (by first | rfl | assumption) (by omega) ?_; refine S_want (by rfl) ?_; refine W_gtrF (by first | rfl | assumption) (by first | rfl | assumption) (by omega) ?_; refine S_op ?_; refine W_pickF (by first | rfl | assumption) (by first | rfl | assumption) ?_; refine S_nil ?_; refine CW_false (by first | rfl | assumption) ?_; refine CW_skip ?_; refine CW_seq ?_; refine CW_region rfl ?_; refine S_op ?_; refine W_moveSl (by first | rfl | assumption) ?_)
      refine S_op ?_
      refine W_call hS2 (by rfl) (built_c H2 A c l hl2 (by omega)) ?_
      rintro v H3 w3 hG3 ⟨A3, c3, rfl, hc3, hm3⟩
      have hr := built_rise l
      have hbl := built_length l
      obtain ⟨hq1, hq2, hq3, hq4, hq5, hq6⟩ := takes_law hr e
      generalize builtL l = a at *
      have hG03 := hG02.trans hG3
      have hS3 := hG3.sub
      have hb3 := hG3.le _ _ hb2
      clear hb2 hl2 hG02 hG2 hG3 hS2 hl
      (refine S_op ?_; refine W_assignSl (by first | rfl | assumption) ?_; refine S_nil ?_; refine CW_seq ?_; refine CW_region rfl ?_; refine S_op ?_; refine W_moveSl (by first | rfl | assumption) ?_; refine S_op ?_; refine W_field (by first | rfl | assumption) ?_; refine S_op ?_; refine W_loadH (by first | rfl | assumption) (by assumption) (by rfl) (by assumption) ?_)
      refine S_op ?_
      refine W_call hS3 (by rfl) (without_c H3 A3 c3 a e.key hm3 hc3 (by omega)) ?_
      rintro v H4 w4 hG4 ⟨s4, rfl, A4, c4, rfl, hc4, hm4⟩
      have hG04 := hG03.trans hG4
      have hS4 := hG4.sub
      have hb4 := hG4.le _ _ hb3
      have hm34 := hm3.mono hG4.le
      clear hb3 hm3 hG03 hG4 hS3
      (refine S_op ?_; refine W_moveTup (by first | rfl | assumption) ?_; refine S_op ?_; refine W_extract (by first | rfl | assumption) (by rfl) ?_; refine S_op ?_; refine W_extract (by first | rfl | assumption) (by rfl) ?_; refine S_op ?_; refine W_assignSl (by first | rfl | assumption) ?_; refine S_op ?_; refine W_assignBool (by first | rfl | assumption) ?_; refine S_nil ?_; refine CW_seq ?_; refine CW_region rfl ?_; refine S_op ?_; refine W_moveSl (by first | rfl | assumption) ?_; refine S_op ?_; refine W_loadWhole (by first | rfl | assumption) (by assumption) (by rfl) (by assumption) ?_)
      refine S_op ?_
      refine W_call hS4 (by rfl) (with_c H4 A3 c3 a e hm34 hc3 (by omega)) ?_
      rintro v H5 w5 hG5 ⟨A5, c5, rfl, hc5, hm5⟩
      have hwl := withL_length_le a e
      have hG05 := hG04.trans hG5
      have hS5 := hG5.sub
      have hb5 := hG5.le _ _ hb4
      have hm45 := hm4.mono hG5.le
      clear hb4 hm4 hG04 hG5 hS4 hm34
      (refine S_op ?_; refine W_assignSl (by first | rfl | assumption) ?_; refine S_nil ?_; refine CW_seq ?_; refine CW_region rfl ?_; refine S_op ?_; refine W_moveSl (by first | rfl | assumption) ?_; refine S_op ?_; refine W_field (by first | rfl | assumption) ?_; refine S_op ?_; refine W_loadH (by first | rfl | assumption) (by assumption) (by rfl) (by assumption) ?_)
      refine S_op ?_
      refine W_call hS5 (by rfl) (find_c H5 A5 c5 (withL a e) e.key hm5 (by omega)) ?_
      rintro v H6 w6 hG6 rfl
      have hG06 := hG05.trans hG6
      have hS6 := hG6.sub
      have hb6 := hG6.le _ _ hb5
      have hm46 := hm45.mono hG6.le
      have hm56 := hm5.mono hG6.le
      clear hb5 hm45 hG05 hG6 hS5 hm5
      rw [hq1]
      (refine S_op ?_; refine W_moveTup (by first | rfl | assumption) ?_; refine S_op ?_; refine W_extract (by first | rfl | assumption) (by rfl) ?_; refine S_op ?_; refine W_extract (by first | rfl | assumption) (by rfl) ?_; refine S_op ?_; refine W_assignInt (by first | rfl | assumption) ?_; refine S_op ?_; refine W_assignBool (by first | rfl | assumption) ?_; refine S_nil ?_; refine CW_seq ?_; refine CW_region rfl ?_; refine S_op ?_; refine W_moveSl (by first | rfl | assumption) ?_; refine S_op ?_; refine W_field (by first | rfl | assumption) ?_; refine S_op ?_; refine W_loadH (by first | rfl | assumption) (by assumption) (by rfl) (by assumption) ?_)
      refine S_op ?_
      refine W_call hS6 (by rfl) (without_c H6 A5 c5 (withL a e) e.key hm56 hc5 (by omega)) ?_
      rintro v H7 w7 hG7 ⟨s7, rfl, A7, c7, rfl, hc7, hm7⟩
      have hG07 := hG06.trans hG7
      have hS7 := hG7.sub
      have hb7 := hG7.le _ _ hb6
      have hm47 := hm46.mono hG7.le
      have hm57 := hm56.mono hG7.le
      clear hb6 hm46 hG06 hG7 hS6 hm56
      have hwo := withoutL_length_le (withL a e) e.key
      rw [hq1]
      (refine S_op ?_; refine W_moveTup (by first | rfl | assumption) ?_; refine S_op ?_; refine W_extract (by first | rfl | assumption) (by rfl) ?_; refine S_op ?_; refine W_extract (by first | rfl | assumption) (by rfl) ?_; refine S_op ?_; refine W_assignSl (by first | rfl | assumption) ?_; refine S_op ?_; refine W_assignBool (by first | rfl | assumption) ?_; refine S_nil ?_; refine CW_seq ?_; refine CW_region rfl ?_; refine S_op ?_; refine W_moveSl (by first | rfl | assumption) ?_; refine S_op ?_; refine W_field (by first | rfl | assumption) ?_; refine S_op ?_; refine W_loadH (by first | rfl | assumption) (by assumption) (by rfl) (by assumption) ?_)
      refine S_op ?_
      refine W_call hS7 (by rfl) (find_c H7 A7 c7 (withoutL (withL a e) e.key) e.key hm7 (by omega)) ?_
      rintro v H8 w8 hG8 rfl
      have hG08 := hG07.trans hG8
      have hS8 := hG8.sub
      have hb8 := hG8.le _ _ hb7
      have hm48 := hm47.mono hG8.le
      have hm58 := hm57.mono hG8.le
      have hm78 := hm7.mono hG8.le
      clear hb7 hm47 hG07 hG8 hS7 hm57 hm7
      rw [hq4]
      rw [hq5] at hm78 hc7 ⊢
      obtain ⟨b, off, hA, hrow⟩ := hm58.some hq2
      (refine S_op ?_; refine W_moveTup (by first | rfl | assumption) ?_; refine S_op ?_; refine W_extract (by first | rfl | assumption) (by rfl) ?_; refine S_op ?_; refine W_extract (by first | rfl | assumption) (by rfl) ?_; refine S_op ?_; refine W_assignInt (by first | rfl | assumption) ?_; refine S_op ?_; refine W_assignBool (by first | rfl | assumption) ?_; refine S_nil ?_; refine CW_seq ?_)
      have hwo2 := withoutL_length_le a e.key
      have hst : (ent (withL a e) (findAt (withL a e) e.key)).key = e.key ∧ (ent (withL a e) (findAt (withL a e) e.key)).val = e.val := by rw [hq3]; exact ⟨rfl, rfl⟩
      apply CW_region_grow [_, _, _, _, _, _, _, _, _, _, _, _, _, _, _, _, _, _, _, _, _, _, _, _, _, _, _, _, _, _, _, _, _, _, _] [none, none, none, none, none, none, none, none, none, none, none, none, none, none, none, none, none, none, none, none, none, none, none, none, none, none, none, none, none, none, none, none, none, none, none] [some 66, some 67, some 68, some 69, some 70, some 71, some 72, some 73, some 74, some 75, some 76, some 77, some 78, some 79, some 80, some 81, some 82, some 83, some 84, some 85, some 86, some 87, some 88, some 89, some 90, some 91, some 92, some 93, some 94, some 95, some 96, some 97, some 98, some 99, some 4] [66, 67, 68, 69, 70, 71, 72, 73, 74, 75, 76, 77, 78, 79, 80, 81, 82, 83, 84, 85, 86, 87, 88, 89, 90, 91, 92, 93, 94, 95, 96, 97, 98, 99, 4] mixed rfl rfl rfl rfl (by decide) rfl (by assumption)
      · ((apply steps_cons; case h1 => (apply A_pure; intro c u H' w' hG; have hS' := hG.sub; have hS2' := hG.subOld; (repeat (first | rintro _ rfl | intro v hv)); apply Pure1.mk; intro K hk; exact W_moveBool (by first | rfl | assumption) hk)); (apply steps_cons; case h1 => (apply A_pure; intro c u H' w' hG; have hS' := hG.sub; have hS2' := hG.subOld; (repeat (first | rintro _ rfl | intro v hv)); apply Pure1.mk; intro K hk; exact W_moveBool (by first | rfl | assumption) hk)); (apply steps_cons; case h1 => (apply A_want; intro c u H' w' hG; have hS' := hG.sub; have hS2' := hG.subOld; (repeat (first | rintro _ rfl | intro v hv)); apply Pure2.mk; (case want => rfl); intro K hk; exact W_moveInt (by first | rfl | assumption) hk)); (apply steps_cons; case h1 => (apply A_want; intro c u H' w' hG; have hS' := hG.sub; have hS2' := hG.subOld; (repeat (first | rintro _ rfl | intro v hv)); apply Pure2.mk; (case want => rfl); intro K hk; exact W_moveSl (by first | rfl | assumption) hk)); (apply steps_cons; case h1 => (apply A_want; intro c u H' w' hG; have hS' := hG.sub; have hS2' := hG.subOld; (repeat (first | rintro _ rfl | intro v hv)); apply Pure2.mk; (case want => rfl); intro K hk; exact W_len (by first | rfl | assumption) hk)); (apply steps_cons; case h1 => (apply A_want; intro c u H' w' hG; have hS' := hG.sub; have hS2' := hG.subOld; (repeat (first | rintro _ rfl | intro v hv)); apply Pure2.mk; (case want => rfl); intro K hk; exact W_lssT (by first | rfl | assumption) (by first | rfl | assumption) (by omega) hk)); (apply steps_cons; case h1 => (apply A_pure; intro c u H' w' hG; have hS' := hG.sub; have hS2' := hG.subOld; (repeat (first | rintro _ rfl | intro v hv)); apply Pure1.mk; intro K hk; exact W_pickT (by first | rfl | assumption) (by first | rfl | assumption) hk)); (apply steps_cons; case h1 => (apply A_pure; intro c u H' w' hG; have hS' := hG.sub; have hS2' := hG.subOld; (repeat (first | rintro _ rfl | intro v hv)); apply Pure1.mk; intro K hk; exact W_moveBool (by first | rfl | assumption) hk)); (apply steps_cons; case h1 => (apply A_want; intro c u H' w' hG; have hS' := hG.sub; have hS2' := hG.subOld; (repeat (first | rintro _ rfl | intro v hv)); apply Pure2.mk; (case want => rfl); intro K hk; exact W_moveSl (by first | rfl | assumption) hk)); (apply steps_cons; case h1 => (apply A_want; intro c u H' w' hG; have hS' := hG.sub; have hS2' := hG.subOld; (repeat (first | rintro _ rfl | intro v hv)); apply Pure2.mk; (case want => rfl); intro K hk; exact W_moveInt (by first | rfl | assumption) hk)); (apply steps_cons; case h1 => (apply A_want; intro c u H' w' hG; have hS' := hG.sub; have hS2' := hG.subOld; (repeat (first | rintro _ rfl | intro v hv)); apply Pure2.mk; (case want => rfl); intro K hk; exact W_index (by first | rfl | assumption) (by first | rfl | assumption) (by first | assumption | omega) (by assumption) hk)); (apply steps_cons; case h1 => (apply A_want; intro c u H' w' hG; have hS' := hG.sub; have hS2' := hG.subOld; (repeat (first | rintro _ rfl | intro v hv)); apply Pure2.mk; (case want => rfl); intro K hk; exact W_loadEnt (by first | rfl | assumption) (by assumption) (by first | assumption | omega) (by assumption) hk)); (apply steps_cons; case h1 => (apply A_want; intro c u H' w' hG; have hS' := hG.sub; have hS2' := hG.subOld; (repeat (first | rintro _ rfl | intro v hv)); apply Pure2.mk; (case want => rfl); intro K hk; exact W_loadWhole (by first | rfl | assumption) (by assumption) (by rfl) (by assumption) hk)); (apply steps_cons; case h1 => (apply A_want; intro c u H' w' hG; have hS' := hG.sub; have hS2' := hG.subOld; (repeat (first | rintro _ rfl | intro v hv)); apply Pure2.mk; (case want => rfl); intro K hk; exact W_eeqlT (by first | rfl | assumption) (by first | rfl | assumption) (by assumption) hk)); (apply steps_cons; case h1 => (apply A_pure; intro c u H' w' hG; have hS' := hG.sub; have hS2' := hG.subOld; (repeat (first | rintro _ rfl | intro v hv)); apply Pure1.mk; intro K hk; exact W_pickT (by first | rfl | assumption) (by first | rfl | assumption) hk)); (apply steps_cons; case h1 => (apply A_pure; intro c u H' w' hG; have hS' := hG.sub; have hS2' := hG.subOld; (repeat (first | rintro _ rfl | intro v hv)); apply Pure1.mk; intro K hk; exact W_moveBool (by first | rfl | assumption) hk)); (apply steps_cons; case h1 => (apply A_want; intro c u H' w' hG; have hS' := hG.sub; have hS2' := hG.subOld; (repeat (first | rintro _ rfl | intro v hv)); apply Pure2.mk; (case want => rfl); intro K hk; exact W_moveBool (by first | rfl | assumption) hk)); (apply steps_cons; case h1 => (apply A_pure; intro c u H' w' hG; have hS' := hG.sub; have hS2' := hG.subOld; (repeat (first | rintro _ rfl | intro v hv)); apply Pure1.mk; intro K hk; exact W_pickT (by first | rfl | assumption) (by first | rfl | assumption) hk)); (apply steps_cons; case h1 => (apply A_pure; intro c u H' w' hG; have hS' := hG.sub; have hS2' := hG.subOld; (repeat (first | rintro _ rfl | intro v hv)); apply Pure1.mk; intro K hk; exact W_moveBool (by first | rfl | assumption) hk)); (apply steps_cons; case h1 => (apply A_want; intro c u H' w' hG; have hS' := hG.sub; have hS2' := hG.subOld; (repeat (first | rintro _ rfl | intro v hv)); apply Pure2.mk; (case want => rfl); intro K hk; exact W_moveBool (by first | rfl | assumption) hk)); (apply steps_cons; case h1 => (apply A_want; intro c u H' w' hG; have hS' := hG.sub; have hS2' := hG.subOld; (repeat (first | rintro _ rfl | intro v hv)); apply Pure2.mk; (case want => rfl); intro K hk; exact W_not (by first | rfl | assumption) hk)); (apply steps_cons; case h1 => (apply A_pure; intro c u H' w' hG; have hS' := hG.sub; have hS2' := hG.subOld; (repeat (first | rintro _ rfl | intro v hv)); apply Pure1.mk; intro K hk; exact W_pickT (by first | rfl | assumption) (by first | rfl | assumption) hk)); (apply steps_cons; case h1 => (apply A_pure; intro c u H' w' hG; have hS' := hG.sub; have hS2' := hG.subOld; (repeat (first | rintro _ rfl | intro v hv)); apply Pure1.mk; intro K hk; exact W_moveBool (by first | rfl | assumption) hk)); (apply steps_cons; case h1 => (apply A_want; intro c u H' w' hG; have hS' := hG.sub; have hS2' := hG.subOld; (repeat (first | rintro _ rfl | intro v hv)); apply Pure2.mk; (case want => rfl); intro K hk; exact W_moveSl (by first | rfl | assumption) hk)); (apply steps_cons; case h1 => (apply A_want; intro c u H' w' hG; have hS' := hG.sub; have hS2' := hG.subOld; (repeat (first | rintro _ rfl | intro v hv)); apply Pure2.mk; (case want => rfl); intro K hk; exact W_moveSl (by first | rfl | assumption) hk)))
        (apply steps_cons; case h1 => (refine A_factG (φ := (fun v H => v = .bool true)) ?_; intro c' u H' w' hG; have hS' := hG.sub; (repeat (first | rintro _ rfl | intro v hv)); refine depGo_nil ⟨rfl, ?_⟩; refine W_call hS' (by rfl) (same_c H' A7 A4 c7 c4 _ _ (hm78.mono hG.le) (hm48.mono hG.le) (by omega)) ?_; intro v H3 w3 hG3 hr; exact ⟨H3, hG3.le, hG.trans hG3, fun H'' hle => by rw [hr, decide_eq_true rfl]⟩))
        ((apply steps_cons; case h1 => (apply A_pure; intro c u H' w' hG; have hS' := hG.sub; have hS2' := hG.subOld; (repeat (first | rintro _ rfl | intro v hv)); apply Pure1.mk; intro K hk; exact W_pickT (by first | rfl | assumption) (by first | rfl | assumption) hk)); (apply steps_cons; case h1 => (apply A_pure; intro c u H' w' hG; have hS' := hG.sub; have hS2' := hG.subOld; (repeat (first | rintro _ rfl | intro v hv)); apply Pure1.mk; intro K hk; exact W_moveBool (by first | rfl | assumption) hk)); (apply steps_cons; case h1 => (apply A_want; intro c u H' w' hG; have hS' := hG.sub; have hS2' := hG.subOld; (repeat (first | rintro _ rfl | intro v hv)); apply Pure2.mk; (case want => rfl); intro K hk; exact W_moveSl (by first | rfl | assumption) hk)); (apply steps_cons; case h1 => (apply A_want; intro c u H' w' hG; have hS' := hG.sub; have hS2' := hG.subOld; (repeat (first | rintro _ rfl | intro v hv)); apply Pure2.mk; (case want => rfl); intro K hk; exact W_loadWhole (by first | rfl | assumption) (by assumption) (by rfl) (by assumption) hk)))
        (apply steps_cons; case h1 => (refine A_factG (φ := (fun v H => IsEnts v (withL a e) H)) ?_; intro c' u H' w' hG; have hS' := hG.sub; (repeat (first | rintro _ rfl | intro v hv)); refine depGo_nil ⟨rfl, ?_⟩; refine W_call hS' (by rfl) (with_c H' A4 c4 (withoutL a e.key) e (hm48.mono hG.le) hc4 (by omega)) ?_; intro v H3 w3 hG3 hr; exact ⟨H3, hG3.le, hG.trans hG3, fun H'' hle => by have h9 := hr.mono hle; rw [hq6] at h9; exact h9⟩))
        ((apply steps_cons; case h1 => (apply A_want; intro c u H' w' hG; have hS' := hG.sub; have hS2' := hG.subOld; (repeat (first | rintro _ rfl | intro v hv)); apply Pure2.mk; (case want => rfl); intro K hk; exact W_moveSl (by first | rfl | assumption) hk)))
        (apply steps_cons; case h1 => (refine A_factG (φ := (fun v H => v = .bool true)) ?_; intro c' u H' w' hG; have hS' := hG.sub; (repeat (first | rintro _ rfl | intro v hv)); refine depGo_nil ⟨rfl, ?_⟩; refine W_call hS' (by rfl) (same_v H' hv ((hm58.mono hG.le).is hc5) (by omega)) ?_; intro v H3 w3 hG3 hr; exact ⟨H3, hG3.le, hG.trans hG3, fun H'' hle => by rw [hr, decide_eq_true rfl]⟩))
        ((apply steps_cons; case h1 => (apply A_pure; intro c u H' w' hG; have hS' := hG.sub; have hS2' := hG.subOld; (repeat (first | rintro _ rfl | intro v hv)); apply Pure1.mk; intro K hk; exact W_pickT (by first | rfl | assumption) (by first | rfl | assumption) hk)); (apply steps_cons; case h1 => (apply A_pure; intro c u H' w' hG; have hS' := hG.sub; have hS2' := hG.subOld; (repeat (first | rintro _ rfl | intro v hv)); apply Pure1.mk; intro K hk; exact W_assignBool (by first | rfl | assumption) hk)); exact trivial)
      · intro H' w' hG
        (repeat (first | rintro _ rfl | intro v hv))
        (refine CW_ret ?_)
        exact ⟨_, ResW_one (v := .bool _) rfl, H', hG08.trans hG, rfl⟩
end Go.Proofs.Ytaimilhkfmpdoaa
