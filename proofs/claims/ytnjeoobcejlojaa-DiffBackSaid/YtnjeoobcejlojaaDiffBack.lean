/- DiffBack: it answers true; changes as arguments. Conditions: sizes. -/
import Derived.Test.YtnjeoobcejlojaaDiff6
import Derived.Test.YtnjeoobcejlojaaNewOwn
namespace Go.Proofs.Ytnjeoobcejlojaa
open Go.Proofs Go.RowKit
set_option linter.unusedVariables false
attribute [local irreducible] CW CWD SeqW OpW
set_option maxHeartbeats 8000000
section
variable {H : Type} {enc : TypeId × Value → H} {W : World}
theorem readChg {cs : List Value} (h : Trd enc Try.prog W 28 cs) : ∃ d, cs = chgC d := by
  obtain ⟨h1, h2, h3, h4, h5, h6, _⟩ := h.struct
  match cs, h1 with
  | [a, b, c, d, e], _ =>
    obtain ⟨s, e1, _⟩ := h2.str
    obtain ⟨t, e2, _⟩ := h3.str
    obtain ⟨u, e3, _⟩ := h4.str
    obtain ⟨p, e4⟩ := h5.bool
    obtain ⟨q, e5⟩ := h6.bool
    simp at e1 e2 e3 e4 e5
    subst e1 e2 e3 e4 e5
    exact ⟨⟨s, t, u, p, q⟩, rfl⟩
theorem openChgs {v : Value} (h : Opn enc Try.prog W 22 v) : ∃ A c l, v = .slice A l.length c ∧ l.length ≤ c ∧ ChgsAt (snap W) A l ∧ l.length * 56 ≤ reachBytes := by
  obtain ⟨A, n, c, css, rfl, h2, h3, h4, h5, h6, h7⟩ := h.slice
  obtain ⟨l, rfl, hl⟩ := decode chgC (fun _ => True) css (fun x hx => (readChg (h4 x hx).1).imp fun d h => ⟨h, trivial⟩)
  simp at h3
  subst h3
  refine ⟨A, c, l, rfl, h2, ?_, h6⟩
  unfold ChgsAt
  rw [chgs_map]
  exact h5
end
theorem row_five {cs : List Value} {l : List Chg} {i : Nat} (h : cs.take (l.length * 5) = chgs l) (hi : i < l.length) : (cs.drop (i * 5)).take 5 = chgC (chg l i) := by
  apply List.ext_getElem?
  intro j
  by_cases hj : j < 5
  · rw [List.getElem?_take_of_lt hj, List.getElem?_drop, ← chgs_at hi hj, ← h, List.getElem?_take_of_lt (by omega)]
  · rw [List.getElem?_eq_none (by simp; omega), List.getElem?_eq_none (by simp [chgC]; omega)]
theorem chg_back {l : List Chg} {i : Nat} (h : i < l.length) : chg (l.map backC) i = backC (chg l i) := by simp [chg, h]
theorem back_back (l : List Chg) : (l.map backC).map backC = l := by
  rw [List.map_map]
  conv => rhs; rw [← List.map_id l]
  rfl
theorem diffBack_c (H0 : HF) (A : Option Addr) (c : Nat) (l : List Chg) (hl : ChgsAt H0 A l) (hb : l.length ≤ 100000000000000) :
    Fn Try.prog 3 [.slice A l.length c] H0 fun v _ => v = .bool true := by
  refine Fn_of_CW Try.func3 rfl Try.ntmps3 Try.results3 rfl fun w0 hS => ?_; have hG := Grow.refl hS
  (refine CW_seq ?_; refine CW_region rfl ?_; refine S_op ?_; refine W_assignBool (by first | rfl | assumption) ?_; refine S_nil ?_; refine CW_seq ?_; refine CW_seq ?_; refine CW_region rfl ?_)
  (refine S_op ?_; refine W_call hS (by rfl) (awake22_c H0) ?_); rintro v H w hG' rfl; replace hG := hG.trans hG'; replace hS := hG'.sub; replace hl := hl.mono hG'.le; clear hG'
  by_cases h3 : 300 < l.length
  · skip
    (refine S_op ?_; refine W_not (by first | rfl | assumption) ?_; refine S_op ?_; refine W_moveBool (by first | rfl | assumption) ?_; refine S_want (by rfl) ?_; refine W_moveSl (by first | rfl | assumption) ?_; refine S_want (by rfl) ?_; refine W_len (by first | rfl | assumption) ?_; refine S_want (by rfl) ?_; refine W_gtrT (by first | rfl | assumption) (by first | rfl | assumption) (by first | omega | rfl) ?_; refine S_op ?_; refine W_pickF (by first | rfl | assumption) (by first | rfl | assumption) ?_; refine S_nil ?_; refine CW_true (by first | rfl | assumption) ?_; refine CW_seq ?_; refine CW_region rfl ?_)
    (refine S_op ?_; refine W_call hS (by rfl) (awake22_c H) ?_); rintro v H w hG' rfl; replace hG := hG.trans hG'; replace hS := hG'.sub; clear hG'
    (refine S_op ?_; refine W_assignBool (by first | rfl | assumption) ?_; refine S_nil ?_; refine CW_ret ?_)
    exact ⟨_, ResW_one (v := .bool _) rfl, H, hG, rfl⟩
  · (refine S_op ?_; refine W_not (by first | rfl | assumption) ?_; refine S_op ?_; refine W_moveBool (by first | rfl | assumption) ?_; refine S_want (by rfl) ?_; refine W_moveSl (by first | rfl | assumption) ?_; refine S_want (by rfl) ?_; refine W_len (by first | rfl | assumption) ?_; refine S_want (by rfl) ?_; refine W_gtrF (by first | rfl | assumption) (by first | rfl | assumption) (by first | omega | rfl) ?_; refine S_op ?_; refine W_pickF (by first | rfl | assumption) (by first | rfl | assumption) ?_; refine S_nil ?_; refine CW_false (by first | rfl | assumption) ?_; refine CW_skip ?_; refine CW_seq ?_; refine CW_region rfl ?_; refine S_op ?_; refine W_moveSl (by first | rfl | assumption) ?_)
    (refine S_op ?_; refine W_call hS (by rfl) (made22_c H A c l hl (by omega)) ?_); rintro v H w hG' hn; replace hG := hG.trans hG'; replace hS := hG'.sub; replace hl := hl.mono hG'.le; clear hG'
    obtain ⟨A3, c3, rfl, hc3, hl3⟩ := hn.chgs
    clear hn
    (refine S_op ?_; refine W_assignSl (by first | rfl | assumption) ?_; refine S_nil ?_; refine CW_seq ?_; refine CW_region rfl ?_; refine S_op ?_; refine W_moveSl (by first | rfl | assumption) ?_)
    refine S_op ?_
    refine W_call hS (by rfl) (back22_c H A3 c3 l hl3 (by omega)) ?_
    rintro v H1 w1 hG1 hn
    rw [List.length_map] at hn
    obtain ⟨H2, A4, c4, _, hG2, rfl, hown⟩ := hn.thaw hG1
    clear hn hG1
    have hcap := hown.cap
    replace hown := hown.base hG.below.size
    replace hG := hG.trans hG2
    replace hS := hG.sub
    replace hl := hl.mono hG2.le
    replace hl3 := hl3.mono hG2.le
    clear hG2
    (refine S_op ?_; refine W_assignSl (by first | rfl | assumption) ?_; refine S_nil ?_; refine CW_seq ?_; refine CW_seq ?_; refine CW_region rfl ?_; refine S_op ?_; refine W_moveSl (by first | rfl | assumption) ?_; refine S_op ?_; refine W_len (by first | rfl | assumption) ?_; refine S_op ?_; refine W_moveSl (by first | rfl | assumption) ?_; refine S_op ?_; refine W_len (by first | rfl | assumption) ?_; refine S_op ?_; refine W_neqF (by first | rfl | assumption) (by first | rfl | assumption) (by first | omega | rfl) ?_; refine S_nil ?_; refine CW_false (by first | rfl | assumption) ?_; refine CW_skip ?_; refine CW_seq ?_; refine CW_seq ?_; refine CW_region rfl ?_; refine S_op ?_; refine W_moveSl (by first | rfl | assumption) ?_; refine S_op ?_; refine W_len (by first | rfl | assumption) ?_; refine S_op ?_; refine W_moveInt (by first | rfl | assumption) ?_; refine S_nil ?_; refine CW_block ?_)
    refine CW_loopM [2, 5, 6, 28, 29, 30, 31, 32, 33, 34, 35, 36, 37, 38, 39, 40, 41, 42, 43, 44, 45, 46, 47, 48, 49, 50, 51]
      (fun m u w2 => ∃ (i : Nat) (H3 : HF), u 28 = .int .i64 (i : Int) ∧ Grow H0 w0 H3 w2 ∧ ChgsAt H3 A l ∧ ChgsAt H3 A3 l ∧ Own H3 w2 w0.heap.size 29 5 A4 l.length c4 (chgs (l.map backC)) ∧ i ≤ l.length ∧ l.length - i ≤ m)
      (m := l.length) ⟨0, H2, rfl, hG, hl, hl3, hown, by omega, by omega⟩ ?_
    clear hl hl3 hown
    rintro m u w ⟨i, H, h28, hG, hl, hl3, hown, hi, hm⟩
    have hS := hG.sub
    by_cases hlt : i < l.length
    · obtain ⟨bb, off, hA, hrow⟩ := hl.some hlt
      (refine CW_seq ?_; refine CW_region rfl ?_; refine S_op ?_; refine W_lssT (by first | rfl | assumption) (by first | rfl | assumption) (by first | omega | rfl) ?_; refine S_nil ?_; refine CW_seq ?_; refine CW_true (by first | rfl | assumption) ?_; refine CW_skip ?_; refine CW_seq ?_; refine CW_block ?_; refine CW_seq ?_; refine CW_region rfl ?_; refine S_op ?_; refine W_moveInt (by first | rfl | assumption) ?_; refine S_op ?_; refine W_assignInt (by first | rfl | assumption) ?_; refine S_nil ?_; refine CW_seq ?_; refine CW_region rfl ?_; refine S_op ?_; refine W_moveSl (by first | rfl | assumption) ?_; refine S_op ?_; refine W_moveInt (by first | rfl | assumption) ?_; refine S_op ?_; refine W_index (by first | rfl | assumption) (by first | rfl | assumption) (by first | assumption | omega | decide) (by first | rfl | assumption) ?_; refine S_op ?_; refine W_loadOf (by first | rfl | assumption) (by assumption) (by first | assumption | omega) (by assumption) ?_)
      (refine S_op (W_alloc hS ?_)); intro w c6b hG' c6h c6; have n_hown_c6 := fun (a : Addr) ha => Nat.ne_of_lt (Nat.lt_of_lt_of_eq (hown.block (a := a) ha).2 c6h); replace c6h := Nat.le_trans hG.below.size (Nat.le_of_eq c6h); replace hG := hG.trans hG'; replace hS := hG'.sub; replace hown := hown.grow hG'; clear hG'
      skip
      (refine S_op0 (W_storeM (o := 0) (vs := chgC (chg l i)) (by rfl) (by rfl) c6 (by rfl) (OneCells.of_all (by rfl)) (by rfl) (Nat.le_of_ble_eq_true (by rfl)) ?_)); intro w hgb' hm'; replace hG := hG.grownBy hgb' (fun g h => by cases h; exact ⟨c6.out, c6h⟩); replace hS := hG.sub; replace c6 : Mut _ w c6b (chgC (chg l i)) := hm'; clear hm'; replace hown := hown.other hgb' (fun a ha e2 => n_hown_c6 a ha (Option.some.inj e2)); clear hgb'
      (obtain ⟨H, _, hle', hG, hm', hoth'⟩ := c6.freeze hG c6h); replace hS := hG.sub; clear c6; have c6 := hm'; clear hm'; replace hl := hl.mono hle'; replace hl3 := hl3.mono hle'; replace hown := Own.mk hown.row (fun a ha => (hoth' _ (n_hown_c6 a ha)).trans (hown.out a ha)); clear hle' hoth'
      obtain ⟨gg, cs, hA4, _, hm4, ht4, _⟩ := hown.mutL (by omega)
      have h5 := row_five (i := i) (l := l.map backC) (by rw [List.length_map]; exact ht4) (by rw [List.length_map]; exact hlt)
      rw [chg_back hlt] at h5
      have hG2 := hG
      (refine S_nil ?_; refine CW_seq ?_)
      apply CW_region_grow [_, _, _, _, _, _, _, _, _, _, _, _, _, _, _, _] [none, none, none, none, none, none, none, none, none, none, none, none, none, none, none, none] [some 35, some 36, some 37, some 38, some 39, some 40, some 41, some 42, some 43, some 44, some 45, some 46, some 47, some 48, some 49, some 50] [35, 36, 37, 38, 39, 40, 41, 42, 43, 44, 45, 46, 47, 48, 49, 50] mixed rfl rfl rfl rfl (by decide) rfl (by assumption)
      · ((apply steps_cons; case h1 => (apply A_pure; intro c u H' w' hG; have hS' := hG.sub; have hS2' := hG.subOld; (repeat (first | refine depGo_eq rfl rfl rfl ?_ | (refine depGo_fact rfl rfl rfl ?_; intro v hv) | refine depGo_skip rfl ?_ | refine depGo_none rfl ?_)); apply Pure1.mk; intro K hk; exact W_moveSl (by first | rfl | assumption) hk)); (apply steps_cons; case h1 => (apply A_pure; intro c u H' w' hG; have hS' := hG.sub; have hS2' := hG.subOld; (repeat (first | refine depGo_eq rfl rfl rfl ?_ | (refine depGo_fact rfl rfl rfl ?_; intro v hv) | refine depGo_skip rfl ?_ | refine depGo_none rfl ?_)); apply Pure1.mk; intro K hk; exact W_moveInt (by first | rfl | assumption) hk)); (apply steps_cons; case h1 => (apply A_pure; intro c u H' w' hG; have hS' := hG.sub; have hS2' := hG.subOld; (repeat (first | refine depGo_eq rfl rfl rfl ?_ | (refine depGo_fact rfl rfl rfl ?_; intro v hv) | refine depGo_skip rfl ?_ | refine depGo_none rfl ?_)); apply Pure1.mk; intro K hk; exact W_index (by first | rfl | assumption) (by first | rfl | assumption) (by first | assumption | omega | decide) (by first | rfl | assumption) hk)))
        (apply steps_cons; case h1 => (apply A_pure; intro c u H' w' hG; have hS' := hG.sub; have hS2' := hG.subOld; (repeat (first | refine depGo_eq rfl rfl rfl ?_ | (refine depGo_fact rfl rfl rfl ?_; intro v hv) | refine depGo_skip rfl ?_ | refine depGo_none rfl ?_)); apply Pure1.mk; intro K hk; exact W_loadMAgg (s := 5) (vs := chgC (backC (chg l i))) (by rfl) (hm4.grow hG) (by rfl) (by first | exact h5 | (rw [Nat.zero_add]; exact h5)) hk))
        ((apply steps_cons; case h1 => (apply A_pure; intro c u H' w' hG; have hS' := hG.sub; have hS2' := hG.subOld; (repeat (first | refine depGo_eq rfl rfl rfl ?_ | (refine depGo_fact rfl rfl rfl ?_; intro v hv) | refine depGo_skip rfl ?_ | refine depGo_none rfl ?_)); apply Pure1.mk; intro K hk; exact W_field (by first | rfl | assumption) hk)); (apply steps_cons; case h1 => (apply A_pure; intro c u H' w' hG; have hS' := hG.sub; have hS2' := hG.subOld; (repeat (first | refine depGo_eq rfl rfl rfl ?_ | (refine depGo_fact rfl rfl rfl ?_; intro v hv) | refine depGo_skip rfl ?_ | refine depGo_none rfl ?_)); apply Pure1.mk; intro K hk; exact W_loadHL (by first | rfl | assumption) (by assumption) (by rfl) (by assumption) hk)); (apply steps_cons; case h1 => (apply A_pure; intro c u H' w' hG; have hS' := hG.sub; have hS2' := hG.subOld; (repeat (first | refine depGo_eq rfl rfl rfl ?_ | (refine depGo_fact rfl rfl rfl ?_; intro v hv) | refine depGo_skip rfl ?_ | refine depGo_none rfl ?_)); apply Pure1.mk; intro K hk; exact W_field (by first | rfl | assumption) hk)); (apply steps_cons; case h1 => (apply A_pure; intro c u H' w' hG; have hS' := hG.sub; have hS2' := hG.subOld; (repeat (first | refine depGo_eq rfl rfl rfl ?_ | (refine depGo_fact rfl rfl rfl ?_; intro v hv) | refine depGo_skip rfl ?_ | refine depGo_none rfl ?_)); apply Pure1.mk; intro K hk; exact W_loadHL (by first | rfl | assumption) (by assumption) (by rfl) (by assumption) hk)); (apply steps_cons; case h1 => (apply A_pure; intro c u H' w' hG; have hS' := hG.sub; have hS2' := hG.subOld; (repeat (first | refine depGo_eq rfl rfl rfl ?_ | (refine depGo_fact rfl rfl rfl ?_; intro v hv) | refine depGo_skip rfl ?_ | refine depGo_none rfl ?_)); apply Pure1.mk; intro K hk; exact W_field (by first | rfl | assumption) hk)); (apply steps_cons; case h1 => (apply A_pure; intro c u H' w' hG; have hS' := hG.sub; have hS2' := hG.subOld; (repeat (first | refine depGo_eq rfl rfl rfl ?_ | (refine depGo_fact rfl rfl rfl ?_; intro v hv) | refine depGo_skip rfl ?_ | refine depGo_none rfl ?_)); apply Pure1.mk; intro K hk; exact W_loadHL (by first | rfl | assumption) (by assumption) (by rfl) (by assumption) hk)); (apply steps_cons; case h1 => (apply A_pure; intro c u H' w' hG; have hS' := hG.sub; have hS2' := hG.subOld; (repeat (first | refine depGo_eq rfl rfl rfl ?_ | (refine depGo_fact rfl rfl rfl ?_; intro v hv) | refine depGo_skip rfl ?_ | refine depGo_none rfl ?_)); apply Pure1.mk; intro K hk; exact W_field (by first | rfl | assumption) hk)); (apply steps_cons; case h1 => (apply A_pure; intro c u H' w' hG; have hS' := hG.sub; have hS2' := hG.subOld; (repeat (first | refine depGo_eq rfl rfl rfl ?_ | (refine depGo_fact rfl rfl rfl ?_; intro v hv) | refine depGo_skip rfl ?_ | refine depGo_none rfl ?_)); apply Pure1.mk; intro K hk; exact W_loadHL (by first | rfl | assumption) (by assumption) (by rfl) (by assumption) hk)); (apply steps_cons; case h1 => (apply A_pure; intro c u H' w' hG; have hS' := hG.sub; have hS2' := hG.subOld; (repeat (first | refine depGo_eq rfl rfl rfl ?_ | (refine depGo_fact rfl rfl rfl ?_; intro v hv) | refine depGo_skip rfl ?_ | refine depGo_none rfl ?_)); apply Pure1.mk; intro K hk; exact W_field (by first | rfl | assumption) hk)); (apply steps_cons; case h1 => (apply A_pure; intro c u H' w' hG; have hS' := hG.sub; have hS2' := hG.subOld; (repeat (first | refine depGo_eq rfl rfl rfl ?_ | (refine depGo_fact rfl rfl rfl ?_; intro v hv) | refine depGo_skip rfl ?_ | refine depGo_none rfl ?_)); apply Pure1.mk; intro K hk; exact W_loadHL (by first | rfl | assumption) (by assumption) (by rfl) (by assumption) hk)))
        (apply steps_cons; case h1 => (apply A_pure; intro c u H' w' hG'; (repeat (first | refine depGo_eq rfl rfl rfl ?_ | (refine depGo_fact rfl rfl rfl ?_; intro v hv) | refine depGo_skip rfl ?_ | refine depGo_none rfl ?_)); refine depGo_nil ?_; apply Pure1.mk; intro K hk; exact W_build (cs := chgC (backC (chg l i))) (by rfl) hk))
        (apply steps_cons; case h1 => (apply A_pure; intro c u H' w' hG; have hS' := hG.sub; have hS2' := hG.subOld; (repeat (first | refine depGo_eq rfl rfl rfl ?_ | (refine depGo_fact rfl rfl rfl ?_; intro v hv) | refine depGo_skip rfl ?_ | refine depGo_none rfl ?_)); apply Pure1.mk; intro K hk; exact W_chgNeqB (a := backC (chg l i)) (c := backC (chg l i)) (q := false) (by simp) (by rfl) (by rfl) hk))
        (exact trivial)
      · (intro H' w' hG; (repeat (first | refine fin_eq rfl rfl ?_ | (refine fin_fact rfl ?_; intro v hv) | refine fin_none rfl ?_)); refine fin_nil ?_)
        (refine CW_false (by first | rfl | assumption) ?_; refine CW_skip ?_; refine CW_region rfl ?_; refine S_op ?_; refine W_add1 (by first | rfl | assumption) (by omega) ?_; refine S_op ?_; refine W_moveInt (by first | rfl | assumption) ?_; refine S_nil ?_)
        exact ⟨(by repeat (first | exact AgreeOff.over | refine AgreeOff.upd rfl ?_ | refine AgreeOff.over2 rfl ?_)), m - 1, by omega, i + 1, _, rfl, hG2.trans hG, hl.mono hG.le, hl3.mono hG.le, hown.grow hG, by omega, by omega⟩
    · (refine CW_seq ?_; refine CW_region rfl ?_; refine S_op ?_; refine W_lssF (by first | rfl | assumption) (by first | rfl | assumption) (by first | omega | rfl) ?_; refine S_nil ?_; refine CW_seq ?_; refine CW_false (by first | rfl | assumption) ?_; refine CW_exit ?_; refine CW_seq ?_; refine CW_region rfl ?_; refine S_op ?_; refine W_moveSl (by first | rfl | assumption) ?_)
      refine S_op ?_
      refine W_callW (by rfl) ((CallW.lentOwn hS hown (args := [.slice A4 l.length c4]) (R := fun H1 v H3 => IsNew H1 29 5 v l.length (chgs l) H3) ?_).mono ?_)
      · intro H1 _ h1
        have := back22_c H1 A4 c4 (l.map backC) h1 (by rw [List.length_map]; omega)
        rw [back_back, List.length_map] at this
        exact this
      · rintro v w ⟨H1, H3, H4, q1, q2, q3, hG4, hn, q4⟩
        replace hn := hn.lent q1 q4
        obtain ⟨A7, c7, rfl, hc7, hl7⟩ := hn.chgs
        clear hn
        replace hG := hG.trans hG4
        replace hS := hG.sub
        replace hl := hl.mono hG4.le
        replace hl3 := hl3.mono hG4.le
        replace hown := hown.grow hG4
        clear hG4
        (refine S_op ?_; refine W_assignSl (by first | rfl | assumption) ?_; refine S_nil ?_; refine CW_seq ?_; refine CW_seq ?_; refine CW_region rfl ?_; refine S_op ?_; refine W_moveSl (by first | rfl | assumption) ?_; refine S_op ?_; refine W_len (by first | rfl | assumption) ?_; refine S_op ?_; refine W_moveInt (by first | rfl | assumption) ?_; refine S_nil ?_; refine CW_block ?_)
        refine CW_loopM [8, 56, 57, 58, 59, 60, 61, 62, 63]
          (fun m u w2 => ∃ (i : Nat) (H5 : HF), u 56 = .int .i64 (i : Int) ∧ Grow H0 w0 H5 w2 ∧ ChgsAt H5 A l ∧ ChgsAt H5 A3 l ∧ ChgsAt H5 A7 l ∧ (0 < l.length → ∃ g cs, A4 = some ⟨g, 0, none⟩ ∧ w0.heap.size ≤ g ∧ Mut H5 w2 g cs ∧ l.length * 5 ≤ cs.length) ∧ i ≤ l.length ∧ l.length - i ≤ m)
          (m := l.length) ⟨0, H4, rfl, hG, hl, hl3, hl7, fun h0 => (by
            obtain ⟨g, cs, e1, e2, e3, e4, e5⟩ := hown.mutL h0
            exact ⟨g, cs, e1, e2, e3, by omega⟩), by omega, by omega⟩ ?_
        clear hl hl3 hown hl7
        rintro m u w ⟨i, H, h56, hG, hl, hl3, hl7, hmu, hi, hm⟩
        have hS := hG.sub
        by_cases hlt : i < l.length
        · obtain ⟨gg, cs, hA4, hgb, hm4, hcs⟩ := hmu (by omega)
          (refine CW_seq ?_; refine CW_region rfl ?_; refine S_op ?_; refine W_lssT (by first | rfl | assumption) (by first | rfl | assumption) (by first | omega | rfl) ?_; refine S_nil ?_; refine CW_seq ?_; refine CW_true (by first | rfl | assumption) ?_; refine CW_skip ?_; refine CW_seq ?_; refine CW_block ?_; refine CW_seq ?_; refine CW_region rfl ?_; refine S_op ?_; refine W_moveInt (by first | rfl | assumption) ?_; refine S_op ?_; refine W_assignInt (by first | rfl | assumption) ?_; refine S_nil ?_; refine CW_region rfl ?_; refine S_op ?_; refine W_moveSl (by first | rfl | assumption) ?_; refine S_op ?_; refine W_moveInt (by first | rfl | assumption) ?_; refine S_op ?_; refine W_index (by first | rfl | assumption) (by first | rfl | assumption) (by first | assumption | omega | decide) (by first | rfl | assumption) ?_; refine S_op ?_; refine W_field (by first | rfl | assumption) ?_)
          refine S_op0 (W_storeM (o := 0 + i * 5 + 0) (vs := [.string ⟨#[111, 116, 104, 101, 114]⟩]) (by rfl) (by rfl) hm4 (by rfl) (OneCells.of_all (by rfl)) (by rfl) (by simp; omega) ?_)
          intro w hgb' hm'
          replace hG := hG.grownBy hgb' (fun g h => by cases h; exact ⟨hm4.out, hgb⟩)
          replace hS := hG.sub
          (refine S_nil ?_; refine CW_region rfl ?_; refine S_op ?_; refine W_add1 (by first | rfl | assumption) (by omega) ?_; refine S_op ?_; refine W_moveInt (by first | rfl | assumption) ?_; refine S_nil ?_)
          exact ⟨(by repeat (first | exact AgreeOff.over | refine AgreeOff.upd rfl ?_ | refine AgreeOff.over2 rfl ?_)), m - 1, by omega, i + 1, H, rfl, hG, hl, hl3, hl7, fun _ => ⟨gg, _, hA4, hgb, hm', by simp [splice]; omega⟩, by omega, by omega⟩
        · (refine CW_seq ?_; refine CW_region rfl ?_; refine S_op ?_; refine W_lssF (by first | rfl | assumption) (by first | rfl | assumption) (by first | omega | rfl) ?_; refine S_nil ?_; refine CW_seq ?_; refine CW_false (by first | rfl | assumption) ?_; refine CW_exit ?_; refine CW_seq ?_; refine CW_region rfl ?_; refine S_op ?_; refine W_moveSl (by first | rfl | assumption) ?_)
          (refine S_op ?_; refine W_call hS (by rfl) (list22_c H A7 c7 l hl7 (by omega)) ?_); rintro v H w hG' hn; replace hG := hG.trans hG'; replace hS := hG'.sub; replace hl := hl.mono hG'.le; replace hl3 := hl3.mono hG'.le; clear hG'
          obtain ⟨A8, c8, rfl, _, hl8⟩ := hn.chgs
          clear hn
          (refine S_op ?_; refine W_moveSl (by first | rfl | assumption) ?_)
          (refine S_op ?_; refine W_call hS (by rfl) (same22_c H A8 A c8 c l l hl8 hl (by omega)) ?_); rintro v H w hG' rfl; replace hG := hG.trans hG'; replace hS := hG'.sub; replace hl := hl.mono hG'.le; replace hl3 := hl3.mono hG'.le; clear hG'
          rw [decide_eq_true (rfl : l = l)]
          (refine S_op ?_; refine W_moveBool (by first | rfl | assumption) ?_; refine S_want (by rfl) ?_; refine W_moveSl (by first | rfl | assumption) ?_)
          (refine S_want (by rfl) ?_; refine W_call hS (by rfl) (list22_c H A3 c3 l hl3 (by omega)) ?_); rintro v H w hG' hn; replace hG := hG.trans hG'; replace hS := hG'.sub; replace hl := hl.mono hG'.le; clear hG'
          obtain ⟨A9, c9, rfl, _, hl9⟩ := hn.chgs
          clear hn
          (refine S_want (by rfl) ?_; refine W_moveSl (by first | rfl | assumption) ?_)
          (refine S_want (by rfl) ?_; refine W_call hS (by rfl) (same22_c H A9 A c9 c l l hl9 hl (by omega)) ?_); rintro v H w hG' rfl; replace hG := hG.trans hG'; replace hS := hG'.sub; replace hl := hl.mono hG'.le; clear hG'
          rw [decide_eq_true (rfl : l = l)]
          (refine S_op ?_; refine W_pickT (by first | rfl | assumption) (by first | rfl | assumption) ?_; refine S_op ?_; refine W_assignBool (by first | rfl | assumption) ?_; refine S_nil ?_; refine CW_ret ?_)
          exact ⟨_, ResW_one (v := .bool _) rfl, H, hG, rfl⟩
end Go.Proofs.Ytnjeoobcejlojaa
