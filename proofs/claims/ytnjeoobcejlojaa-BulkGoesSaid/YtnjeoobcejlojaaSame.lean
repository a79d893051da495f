/- Same of layer 3's reference, and Without. Conditions: sizes. -/
import Derived.Test.YtnjeoobcejlojaaPair2
import Derived.Test.YtnjeoobcejlojaaKey
namespace Go.Proofs.Ytnjeoobcejlojaa
open Go.Proofs Go.RowKit
set_option linter.unusedVariables false
attribute [local irreducible] CW SeqW OpW
set_option maxHeartbeats 4000000
theorem drop_eq {l m : List Ent} {i : Nat} (hi : i < l.length) (hm : i < m.length) : (l.drop i = m.drop i) ↔ (ent l i = ent m i ∧ l.drop (i + 1) = m.drop (i + 1)) := by
  rw [ent_drop hi, ent_drop hm]
  simp
theorem ent_eq {a b : Ent} : a = b ↔ (a.key = b.key ∧ a.val = b.val) := by
  constructor
  · rintro rfl; exact ⟨rfl, rfl⟩
  · rcases a with ⟨k, v⟩; rcases b with ⟨k', v'⟩
    rintro ⟨h1, h2⟩
    simp at h1 h2
    rw [h1, h2]
theorem same_c (H : HF) (A B : Option Addr) (c d : Nat) (l m : List Ent) (hl : EntsAt H A l) (hm : EntsAt H B m) (hb : l.length ≤ 1000000) :
    Fn Try.prog 26 [.slice A l.length c, .slice B m.length d] H fun v _ => v = .bool (decide (l = m)) := by
  refine Fn_of_CW Try.func26 rfl Try.ntmps26 Try.results26 rfl fun w hS => ?_
  by_cases hlen : l.length = m.length
  · (refine CW_seq ?_; refine CW_region rfl ?_; refine S_op ?_; refine W_assignBool (by first | rfl | assumption) ?_; refine S_nil ?_; refine CW_seq ?_; refine CW_seq ?_; refine CW_region rfl ?_; refine S_op ?_; refine W_moveSl (by first | rfl | assumption) ?_; refine S_op ?_; refine W_len (by first | rfl | assumption) ?_; refine S_op ?_; refine W_moveSl (by first | rfl | assumption) ?_; refine S_op ?_; refine W_len (by first | rfl | assumption) ?_; refine S_op ?_; refine W_neqF (by first | rfl | assumption) (by first | rfl | assumption) (by first | omega | rfl) ?_; refine S_nil ?_; refine CW_false (by first | rfl | assumption) ?_; refine CW_skip ?_; refine CW_seq ?_; refine CW_seq ?_; refine CW_region rfl ?_; refine S_op ?_; refine W_moveSl (by first | rfl | assumption) ?_; refine S_op ?_; refine W_len (by first | rfl | assumption) ?_; refine S_op ?_; refine W_moveInt (by first | rfl | assumption) ?_; refine S_nil ?_; refine CW_block ?_)
    refine CW_loopM [4, 5, 13, 14, 15, 16, 17, 18, 19, 20, 21, 22, 23, 24, 25]
      (fun k u w2 => ∃ (i : Nat) (H2 : HF), u 13 = .int .i64 (i : Int) ∧ Grow H w H2 w2 ∧ i ≤ l.length ∧ l.length - i ≤ k ∧ (l.drop i = m.drop i ↔ l = m))
      (m := l.length) ⟨0, H, rfl, Grow.refl hS, by omega, by omega, by simp⟩ ?_
    rintro k u w2 ⟨i, H2, h13, hG2, hi, hk, hf⟩
    have hS2 := hG2.sub
    have hl2 := hl.mono hG2.le
    have hm2 := hm.mono hG2.le
    by_cases hlt : i < l.length
    · have hlt2 : i < m.length := by omega
      obtain ⟨b, off, hA, hrow⟩ := hl2.some hlt
      obtain ⟨b2, off2, hA2, hrow2⟩ := hm2.some hlt2
      rw [drop_eq hlt hlt2, ent_eq] at hf
      by_cases he : (ent l i).key = (ent m i).key ∧ (ent l i).val = (ent m i).val
      · rw [and_iff_right he] at hf
        (refine CW_seq ?_; refine CW_region rfl ?_; refine S_op ?_; refine W_lssT (by first | rfl | assumption) (by first | rfl | assumption) (by first | omega | rfl) ?_; refine S_nil ?_; refine CW_seq ?_; refine CW_true (by first | rfl | assumption) ?_; refine CW_skip ?_; refine CW_seq ?_; refine CW_block ?_; refine CW_seq ?_; refine CW_region rfl ?_; refine S_op ?_; refine W_moveInt (by first | rfl | assumption) ?_; refine S_op ?_; refine W_assignInt (by first | rfl | assumption) ?_; refine S_nil ?_; refine CW_seq ?_)
        apply CW_region_grow [_, _, _, _, _, _, _, _, _] [none, none, none, none, none, none, none, none, none] [some 16, some 17, some 18, some 19, some 20, some 21, some 22, some 23, some 24] [16, 17, 18, 19, 20, 21, 22, 23, 24] mixed rfl rfl rfl rfl (by decide) rfl (by assumption)
        · ((apply steps_cons; case h1 => (apply A_pure; intro c u H' w' hG; have hS' := hG.sub; have hS2' := hG.subOld; (repeat (first | refine depGo_eq rfl rfl rfl ?_ | (refine depGo_fact rfl rfl rfl ?_; intro v hv) | refine depGo_skip rfl ?_ | refine depGo_none rfl ?_)); apply Pure1.mk; intro K hk; exact W_moveSl (by first | rfl | assumption) hk)); (apply steps_cons; case h1 => (apply A_pure; intro c u H' w' hG; have hS' := hG.sub; have hS2' := hG.subOld; (repeat (first | refine depGo_eq rfl rfl rfl ?_ | (refine depGo_fact rfl rfl rfl ?_; intro v hv) | refine depGo_skip rfl ?_ | refine depGo_none rfl ?_)); apply Pure1.mk; intro K hk; exact W_moveInt (by first | rfl | assumption) hk)); (apply steps_cons; case h1 => (apply A_pure; intro c u H' w' hG; have hS' := hG.sub; have hS2' := hG.subOld; (repeat (first | refine depGo_eq rfl rfl rfl ?_ | (refine depGo_fact rfl rfl rfl ?_; intro v hv) | refine depGo_skip rfl ?_ | refine depGo_none rfl ?_)); apply Pure1.mk; intro K hk; exact W_index (by first | rfl | assumption) (by first | rfl | assumption) (by first | assumption | omega | decide) (by first | rfl | assumption) hk)); (apply steps_cons; case h1 => (apply A_pure; intro c u H' w' hG; have hS' := hG.sub; have hS2' := hG.subOld; (repeat (first | refine depGo_eq rfl rfl rfl ?_ | (refine depGo_fact rfl rfl rfl ?_; intro v hv) | refine depGo_skip rfl ?_ | refine depGo_none rfl ?_)); apply Pure1.mk; intro K hk; exact W_loadEnt (by first | rfl | assumption) (by assumption) (by first | assumption | omega) (by assumption) hk)); (apply steps_cons; case h1 => (apply A_pure; intro c u H' w' hG; have hS' := hG.sub; have hS2' := hG.subOld; (repeat (first | refine depGo_eq rfl rfl rfl ?_ | (refine depGo_fact rfl rfl rfl ?_; intro v hv) | refine depGo_skip rfl ?_ | refine depGo_none rfl ?_)); apply Pure1.mk; intro K hk; exact W_moveSl (by first | rfl | assumption) hk)); (apply steps_cons; case h1 => (apply A_pure; intro c u H' w' hG; have hS' := hG.sub; have hS2' := hG.subOld; (repeat (first | refine depGo_eq rfl rfl rfl ?_ | (refine depGo_fact rfl rfl rfl ?_; intro v hv) | refine depGo_skip rfl ?_ | refine depGo_none rfl ?_)); apply Pure1.mk; intro K hk; exact W_moveInt (by first | rfl | assumption) hk)); (apply steps_cons; case h1 => (apply A_pure; intro c u H' w' hG; have hS' := hG.sub; have hS2' := hG.subOld; (repeat (first | refine depGo_eq rfl rfl rfl ?_ | (refine depGo_fact rfl rfl rfl ?_; intro v hv) | refine depGo_skip rfl ?_ | refine depGo_none rfl ?_)); apply Pure1.mk; intro K hk; exact W_index (by first | rfl | assumption) (by first | rfl | assumption) (by first | assumption | omega | decide) (by first | rfl | assumption) hk)); (apply steps_cons; case h1 => (apply A_pure; intro c u H' w' hG; have hS' := hG.sub; have hS2' := hG.subOld; (repeat (first | refine depGo_eq rfl rfl rfl ?_ | (refine depGo_fact rfl rfl rfl ?_; intro v hv) | refine depGo_skip rfl ?_ | refine depGo_none rfl ?_)); apply Pure1.mk; intro K hk; exact W_loadEnt (by first | rfl | assumption) (by assumption) (by first | assumption | omega) (by assumption) hk)); (apply steps_cons; case h1 => (apply A_pure; intro c u H' w' hG; have hS' := hG.sub; have hS2' := hG.subOld; (repeat (first | refine depGo_eq rfl rfl rfl ?_ | (refine depGo_fact rfl rfl rfl ?_; intro v hv) | refine depGo_skip rfl ?_ | refine depGo_none rfl ?_)); apply Pure1.mk; intro K hk; exact W_eneqF (by first | rfl | assumption) (by first | rfl | assumption) (by assumption) hk)); exact trivial)
        · (intro H' w' hG; (repeat (first | refine fin_eq rfl rfl ?_ | (refine fin_fact rfl ?_; intro v hv) | refine fin_none rfl ?_)); refine fin_nil ?_)
          (refine CW_false (by first | rfl | assumption) ?_; refine CW_skip ?_; refine CW_region rfl ?_; refine S_op ?_; refine W_add1 (by first | rfl | assumption) (by omega) ?_; refine S_op ?_; refine W_moveInt (by first | rfl | assumption) ?_; refine S_nil ?_)
          exact ⟨(by repeat (first | exact AgreeOff.over | refine AgreeOff.upd rfl ?_ | refine AgreeOff.over2 rfl ?_)), k - 1, by omega, i + 1, _, rfl, hG2.trans (by assumption), by omega, by omega, hf⟩
      · have hne : ¬ l = m := fun h => he (hf.2 h).1
        (refine CW_seq ?_; refine CW_region rfl ?_; refine S_op ?_; refine W_lssT (by first | rfl | assumption) (by first | rfl | assumption) (by first | omega | rfl) ?_; refine S_nil ?_; refine CW_seq ?_; refine CW_true (by first | rfl | assumption) ?_; refine CW_skip ?_; refine CW_seq ?_; refine CW_block ?_; refine CW_seq ?_; refine CW_region rfl ?_; refine S_op ?_; refine W_moveInt (by first | rfl | assumption) ?_; refine S_op ?_; refine W_assignInt (by first | rfl | assumption) ?_; refine S_nil ?_; refine CW_seq ?_)
        apply CW_region_grow [_, _, _, _, _, _, _, _, _] [none, none, none, none, none, none, none, none, none] [some 16, some 17, some 18, some 19, some 20, some 21, some 22, some 23, some 24] [16, 17, 18, 19, 20, 21, 22, 23, 24] mixed rfl rfl rfl rfl (by decide) rfl (by assumption)
        · ((apply steps_cons; case h1 => (apply A_pure; intro c u H' w' hG; have hS' := hG.sub; have hS2' := hG.subOld; (repeat (first | refine depGo_eq rfl rfl rfl ?_ | (refine depGo_fact rfl rfl rfl ?_; intro v hv) | refine depGo_skip rfl ?_ | refine depGo_none rfl ?_)); apply Pure1.mk; intro K hk; exact W_moveSl (by first | rfl | assumption) hk)); (apply steps_cons; case h1 => (apply A_pure; intro c u H' w' hG; have hS' := hG.sub; have hS2' := hG.subOld; (repeat (first | refine depGo_eq rfl rfl rfl ?_ | (refine depGo_fact rfl rfl rfl ?_; intro v hv) | refine depGo_skip rfl ?_ | refine depGo_none rfl ?_)); apply Pure1.mk; intro K hk; exact W_moveInt (by first | rfl | assumption) hk)); (apply steps_cons; case h1 => (apply A_pure; intro c u H' w' hG; have hS' := hG.sub; have hS2' := hG.subOld; (repeat (first | refine depGo_eq rfl rfl rfl ?_ | (refine depGo_fact rfl rfl rfl ?_; intro v hv) | refine depGo_skip rfl ?_ | refine depGo_none rfl ?_)); apply Pure1.mk; intro K hk; exact W_index (by first | rfl | assumption) (by first | rfl | assumption) (by first | assumption | omega | decide) (by first | rfl | assumption) hk)); (apply steps_cons; case h1 => (apply A_pure; intro c u H' w' hG; have hS' := hG.sub; have hS2' := hG.subOld; (repeat (first | refine depGo_eq rfl rfl rfl ?_ | (refine depGo_fact rfl rfl rfl ?_; intro v hv) | refine depGo_skip rfl ?_ | refine depGo_none rfl ?_)); apply Pure1.mk; intro K hk; exact W_loadEnt (by first | rfl | assumption) (by assumption) (by first | assumption | omega) (by assumption) hk)); (apply steps_cons; case h1 => (apply A_pure; intro c u H' w' hG; have hS' := hG.sub; have hS2' := hG.subOld; (repeat (first | refine depGo_eq rfl rfl rfl ?_ | (refine depGo_fact rfl rfl rfl ?_; intro v hv) | refine depGo_skip rfl ?_ | refine depGo_none rfl ?_)); apply Pure1.mk; intro K hk; exact W_moveSl (by first | rfl | assumption) hk)); (apply steps_cons; case h1 => (apply A_pure; intro c u H' w' hG; have hS' := hG.sub; have hS2' := hG.subOld; (repeat (first | refine depGo_eq rfl rfl rfl ?_ | (refine depGo_fact rfl rfl rfl ?_; intro v hv) | refine depGo_skip rfl ?_ | refine depGo_none rfl ?_)); apply Pure1.mk; intro K hk; exact W_moveInt (by first | rfl | assumption) hk)); (apply steps_cons; case h1 => (apply A_pure; intro c u H' w' hG; have hS' := hG.sub; have hS2' := hG.subOld; (repeat (first | refine depGo_eq rfl rfl rfl ?_ | (refine depGo_fact rfl rfl rfl ?_; intro v hv) | refine depGo_skip rfl ?_ | refine depGo_none rfl ?_)); apply Pure1.mk; intro K hk; exact W_index (by first | rfl | assumption) (by first | rfl | assumption) (by first | assumption | omega | decide) (by first | rfl | assumption) hk)); (apply steps_cons; case h1 => (apply A_pure; intro c u H' w' hG; have hS' := hG.sub; have hS2' := hG.subOld; (repeat (first | refine depGo_eq rfl rfl rfl ?_ | (refine depGo_fact rfl rfl rfl ?_; intro v hv) | refine depGo_skip rfl ?_ | refine depGo_none rfl ?_)); apply Pure1.mk; intro K hk; exact W_loadEnt (by first | rfl | assumption) (by assumption) (by first | assumption | omega) (by assumption) hk)); (apply steps_cons; case h1 => (apply A_pure; intro c u H' w' hG; have hS' := hG.sub; have hS2' := hG.subOld; (repeat (first | refine depGo_eq rfl rfl rfl ?_ | (refine depGo_fact rfl rfl rfl ?_; intro v hv) | refine depGo_skip rfl ?_ | refine depGo_none rfl ?_)); apply Pure1.mk; intro K hk; exact W_eneqT (by first | rfl | assumption) (by first | rfl | assumption) (by assumption) hk)); exact trivial)
        · (intro H' w' hG; (repeat (first | refine fin_eq rfl rfl ?_ | (refine fin_fact rfl ?_; intro v hv) | refine fin_none rfl ?_)); refine fin_nil ?_)
          (refine CW_true (by first | rfl | assumption) ?_; refine CW_seq ?_; refine CW_region rfl ?_; refine S_op ?_; refine W_assignBool (by first | rfl | assumption) ?_; refine S_nil ?_; refine CW_ret ?_)
          exact ⟨_, ResW_one (v := .bool _) rfl, _, hG2.trans (by assumption), by simp [hne]⟩
    · rw [List.drop_eq_nil_of_le (by omega), List.drop_eq_nil_of_le (by omega)] at hf
      (refine CW_seq ?_; refine CW_region rfl ?_; refine S_op ?_; refine W_lssF (by first | rfl | assumption) (by first | rfl | assumption) (by first | omega | rfl) ?_; refine S_nil ?_; refine CW_seq ?_; refine CW_false (by first | rfl | assumption) ?_; refine CW_exit ?_; refine CW_seq ?_; refine CW_region rfl ?_; refine S_op ?_; refine W_assignBool (by first | rfl | assumption) ?_; refine S_nil ?_; refine CW_ret ?_)
      exact ⟨_, ResW_one (v := .bool _) rfl, H2, hG2, by simp [hf.1 rfl]⟩
  · have hne : ¬ l = m := fun h => hlen (by rw [h])
    (refine CW_seq ?_; refine CW_region rfl ?_; refine S_op ?_; refine W_assignBool (by first | rfl | assumption) ?_; refine S_nil ?_; refine CW_seq ?_; refine CW_seq ?_; refine CW_region rfl ?_; refine S_op ?_; refine W_moveSl (by first | rfl | assumption) ?_; refine S_op ?_; refine W_len (by first | rfl | assumption) ?_; refine S_op ?_; refine W_moveSl (by first | rfl | assumption) ?_; refine S_op ?_; refine W_len (by first | rfl | assumption) ?_; refine S_op ?_; refine W_neqT (by first | rfl | assumption) (by first | rfl | assumption) (by first | omega | rfl) ?_; refine S_nil ?_; refine CW_true (by first | rfl | assumption) ?_; refine CW_seq ?_; refine CW_region rfl ?_; refine S_op ?_; refine W_assignBool (by first | rfl | assumption) ?_; refine S_nil ?_; refine CW_ret ?_)
    exact ⟨_, ResW_one (v := .bool _) rfl, H, Grow.refl hS, by simp [hne]⟩

theorem same_v (H : HF) {u v : Value} {l m : List Ent} (hu : IsEnts u l H) (hv : IsEnts v m H) (hb : l.length ≤ 1000000) :
    Fn Try.prog 26 [u, v] H fun v _ => v = .bool (decide (l = m)) := by
  obtain ⟨A, c, rfl, _, h1⟩ := hu
  obtain ⟨B, d, rfl, _, h2⟩ := hv
  exact same_c H A B c d l m h1 h2 hb
theorem EntsAt.is {H : HF} {A : Option Addr} {c : Nat} {l : List Ent} (h : EntsAt H A l) (hc : l.length ≤ c) : IsEnts (.slice A l.length c) l H := ⟨A, c, rfl, hc, h⟩
theorem withoutN_c (H : HF) (A : Option Addr) (c : Nat) (l : List Ent) (key : ByteArray) (hl : EntsAt H A l) (hc : l.length ≤ c) (hb : l.length ≤ 1000000) :
    Fn Try.prog 97 [.slice A l.length c, .string key] H fun v H' => ∃ s, v = .tuple #[s, .bool (findIs l key)] ∧ IsNew H 60 2 s (withoutL l key).length (entCells (withoutL l key)) H' := by
  refine Fn_of_CW Try.func97 rfl Try.ntmps97 Try.results97 rfl fun w hS => ?_
  (refine CW_seq ?_; refine CW_region rfl ?_; refine S_op ?_; refine W_assignSl (by first | rfl | assumption) ?_; refine S_op ?_; refine W_assignBool (by first | rfl | assumption) ?_; refine S_nil ?_; refine CW_seq ?_; refine CW_region rfl ?_; refine S_op ?_; refine W_moveSl (by first | rfl | assumption) ?_; refine S_op ?_; refine W_moveStr (by first | rfl | assumption) ?_)
  refine S_op ?_
  refine W_call hS (by rfl) (find_c H A c l key hl hb) ?_
  rintro v H2 w2 hG2 rfl
  have hl2 := hl.mono hG2.le
  have hS2 := hG2.sub
  have hfl := find_le l key
  cases hf : findIs l key with
  | false =>
    (refine S_op ?_; refine W_moveTup (by first | rfl | assumption) ?_; refine S_op ?_; refine W_extract (by first | rfl | assumption) (by rfl) ?_; refine S_op ?_; refine W_extract (by first | rfl | assumption) (by rfl) ?_; refine S_op ?_; refine W_assignInt (by first | rfl | assumption) ?_; refine S_op ?_; refine W_assignBool (by first | rfl | assumption) ?_; refine S_nil ?_; refine CW_seq ?_; refine CW_seq ?_; refine CW_region rfl ?_; refine S_op ?_; refine W_moveBool (by first | rfl | assumption) ?_; refine S_op ?_; refine W_not (by first | rfl | assumption) ?_; refine S_nil ?_; refine CW_true (by first | rfl | assumption) ?_; refine CW_seq ?_; refine CW_region rfl ?_; refine S_op ?_; refine W_moveSl (by first | rfl | assumption) ?_)
    refine S_op ?_
    refine W_call hS2 (by rfl) (cloneN_Ent H2 A l.length c (entCells l) hl2 (entCells_length l) (entCells_one l) (by omega) hc) ?_
    intro v H3 w3 hG3 hv
    obtain ⟨A3, c3, rfl, hr3⟩ := id hv
    (refine S_op ?_; refine W_assignSl (by first | rfl | assumption) ?_; refine S_op ?_; refine W_assignBool (by first | rfl | assumption) ?_; refine S_nil ?_; refine CW_ret ?_)
    refine ⟨_, ResW_two (v1 := .slice _ _ _) (v2 := .bool _) rfl rfl, H3, hG2.trans hG3, _, rfl, ?_⟩
    have hw : withoutL l key = l := by simp [withoutL, hf]
    rw [hw]
    exact hv.old hG2.le
  | true =>
    have hq := findIs_lt hf
    (refine S_op ?_; refine W_moveTup (by first | rfl | assumption) ?_; refine S_op ?_; refine W_extract (by first | rfl | assumption) (by rfl) ?_; refine S_op ?_; refine W_extract (by first | rfl | assumption) (by rfl) ?_; refine S_op ?_; refine W_assignInt (by first | rfl | assumption) ?_; refine S_op ?_; refine W_assignBool (by first | rfl | assumption) ?_; refine S_nil ?_; refine CW_seq ?_; refine CW_seq ?_; refine CW_region rfl ?_; refine S_op ?_; refine W_moveBool (by first | rfl | assumption) ?_; refine S_op ?_; refine W_not (by first | rfl | assumption) ?_; refine S_nil ?_; refine CW_false (by first | rfl | assumption) ?_; refine CW_skip ?_; refine CW_seq ?_)
    apply CW_region_grow [_, _, _, _, _, _, _, _, _, _, _] [none, none, none, none, none, none, none, none, none, none, none] [some 18, some 19, some 20, some 21, some 22, some 23, some 24, some 25, some 26, some 4, some 5] [18, 19, 20, 21, 22, 23, 24, 25, 26, 4, 5] mixed rfl rfl rfl rfl (by decide) rfl (by assumption)
    · ((apply steps_cons; case h1 => (apply A_pure; intro c u H' w' hG; have hS' := hG.sub; have hS2' := hG.subOld; (repeat (first | refine depGo_eq rfl rfl rfl ?_ | (refine depGo_fact rfl rfl rfl ?_; intro v hv) | refine depGo_skip rfl ?_ | refine depGo_none rfl ?_)); apply Pure1.mk; intro K hk; exact W_moveSl (by first | rfl | assumption) hk)); (apply steps_cons; case h1 => (apply A_pure; intro c u H' w' hG; have hS' := hG.sub; have hS2' := hG.subOld; (repeat (first | refine depGo_eq rfl rfl rfl ?_ | (refine depGo_fact rfl rfl rfl ?_; intro v hv) | refine depGo_skip rfl ?_ | refine depGo_none rfl ?_)); apply Pure1.mk; intro K hk; exact W_moveInt (by first | rfl | assumption) hk)); (apply steps_cons; case h1 => (apply A_pure; intro c u H' w' hG; have hS' := hG.sub; have hS2' := hG.subOld; (repeat (first | refine depGo_eq rfl rfl rfl ?_ | (refine depGo_fact rfl rfl rfl ?_; intro v hv) | refine depGo_skip rfl ?_ | refine depGo_none rfl ?_)); apply Pure1.mk; intro K hk; exact W_sliceHi (by first | rfl | assumption) (by first | rfl | assumption) (by omega) hk)); (apply steps_cons; case h1 => (apply A_pure; intro c u H' w' hG; have hS' := hG.sub; have hS2' := hG.subOld; (repeat (first | refine depGo_eq rfl rfl rfl ?_ | (refine depGo_fact rfl rfl rfl ?_; intro v hv) | refine depGo_skip rfl ?_ | refine depGo_none rfl ?_)); apply Pure1.mk; intro K hk; exact W_moveSl (by first | rfl | assumption) hk)); (apply steps_cons; case h1 => (apply A_pure; intro c u H' w' hG; have hS' := hG.sub; have hS2' := hG.subOld; (repeat (first | refine depGo_eq rfl rfl rfl ?_ | (refine depGo_fact rfl rfl rfl ?_; intro v hv) | refine depGo_skip rfl ?_ | refine depGo_none rfl ?_)); apply Pure1.mk; intro K hk; exact W_moveInt (by first | rfl | assumption) hk)); (apply steps_cons; case h1 => (apply A_pure; intro c u H' w' hG; have hS' := hG.sub; have hS2' := hG.subOld; (repeat (first | refine depGo_eq rfl rfl rfl ?_ | (refine depGo_fact rfl rfl rfl ?_; intro v hv) | refine depGo_skip rfl ?_ | refine depGo_none rfl ?_)); apply Pure1.mk; intro K hk; exact W_add1 (by first | rfl | assumption) (by omega) hk)); (apply steps_cons; case h1 => (apply A_pure; intro c u H' w' hG; have hS' := hG.sub; have hS2' := hG.subOld; (repeat (first | refine depGo_eq rfl rfl rfl ?_ | (refine depGo_fact rfl rfl rfl ?_; intro v hv) | refine depGo_skip rfl ?_ | refine depGo_none rfl ?_)); apply Pure1.mk; intro K hk; exact W_sliceLo (by first | rfl | assumption) (by first | rfl | assumption) (by omega) hk)))
      apply steps_cons
      · refine A_fact (φ := fun v H => IsCat 2 v 2 (findAt l key + (l.length - (findAt l key + 1))) (entCells (l.take (findAt l key)) ++ entCells (l.drop (findAt l key + 1))) H) ?_
        intro c' u H' w' hG
        have hS' := hG.sub
        (repeat (rintro _ rfl))
        refine depGo_nil ?_
        have hl' := hl2.mono hG.le
        have hT := hl'.slTake hfl hc
        have hD := hl'.slDrop (k := findAt l key + 1) (by omega) hc
        refine W_buildOnes hS' (by omega) (by rfl) (by rfl) ?_
        intro H3 w3 b hG3 hb3 _ _
        exact ⟨H3, hG3.le, hG.trans hG3, fun H'' hle => (isCat2 hb3 hG3.le hT hD (entCells_one _) (entCells_one _)).mono hle⟩
      apply steps_cons
      · refine A_fact (φ := fun v H => IsNew H2 60 2 v (findAt l key + (l.length - (findAt l key + 1))) (entCells (l.take (findAt l key)) ++ entCells (l.drop (findAt l key + 1))) H) ?_
        intro c' u H' w' hG
        have hS' := hG.sub
        intro v8 hv8
        refine depGo_nil ?_
        refine W_call hS' (by rfl) (catN_Ent _ _ _ _ _ hv8 (by omega) (by omega)) ?_
        intro v H3 w3 hG3 hv
        exact ⟨H3, hG3.le, hG.trans hG3, fun H'' hle => (hv.old hG.le).mono hle⟩
      apply steps_cons; case h1 => (refine A_fact (φ := (fun v H => IsNew H2 60 2 v (findAt l key + (l.length - (findAt l key + 1))) (entCells (l.take (findAt l key)) ++ entCells (l.drop (findAt l key + 1))) H)) ?_; intro c u H' w' hG; (repeat (first | refine depGo_eq rfl rfl rfl ?_ | (refine depGo_fact rfl rfl rfl ?_; intro v hv) | refine depGo_skip rfl ?_ | refine depGo_none rfl ?_)); refine depGo_nil ?_; refine W_assign (by rfl) ?_; exact ⟨H', HLe.refl _, hG, fun H'' hle => IsNew.mono hv hle⟩)
      (apply steps_cons; case h1 => (refine A_fact (φ := fun v _ => v = .bool true) ?_; intro c u H' w' hG; (repeat (first | refine depGo_eq rfl rfl rfl ?_ | (refine depGo_fact rfl rfl rfl ?_; intro v hv) | refine depGo_skip rfl ?_ | refine depGo_none rfl ?_)); refine depGo_nil ?_; refine W_assign (by rfl) ?_; exact ⟨H', HLe.refl _, hG, fun H'' hle => rfl⟩))
      exact trivial
    · intro H' w' hG
      (repeat (first | refine fin_eq rfl rfl ?_ | (refine fin_fact rfl ?_; intro v hv) | refine fin_none rfl ?_)); refine fin_nil ?_
      (refine CW_ret ?_)
      have hv : IsNew H2 60 2 v (findAt l key + (l.length - (findAt l key + 1))) (entCells (l.take (findAt l key)) ++ entCells (l.drop (findAt l key + 1))) H' := hv
      rw [← entCells_append] at hv
      have hw : withoutL l key = l.take (findAt l key) ++ l.drop (findAt l key + 1) := by simp [withoutL, hf]
      rw [← hw] at hv
      exact ⟨_, ResW_two (v1 := v) (v2 := .bool _) rfl rfl, H', hG2.trans hG, v, rfl, (hv.old hG2.le).ents⟩
theorem without_c (H : HF) (A : Option Addr) (c : Nat) (l : List Ent) (key : ByteArray) (hl : EntsAt H A l) (hc : l.length ≤ c) (hb : l.length ≤ 1000000) :
    Fn Try.prog 97 [.slice A l.length c, .string key] H fun v H' => ∃ s, v = .tuple #[s, .bool (findIs l key)] ∧ IsEnts s (withoutL l key) H' :=
  (withoutN_c H A c l key hl hc hb).mono fun v H' _ ⟨s, h1, h⟩ => ⟨s, h1, h.isEnts⟩
end Go.Proofs.Ytnjeoobcejlojaa
