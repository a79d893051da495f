/- Key, Value and Rise of layer 3 and of its reference. Conditions: sizes. -/
import Derived.Test.YtgaabmoknpifnaaPair1
import Derived.Test.YtgaabmoknpifnaaMut
namespace Go.Proofs.Ytgaabmoknpifnaa
open Go.Proofs Go.RowKit
set_option linter.unusedVariables false
attribute [local irreducible] CW SeqW OpW
set_option maxHeartbeats 4000000
def riseB : List Ent → Bool
  | a :: b :: l => slt a.key b.key && riseB (b :: l)
  | _ => true
def rKey (s : ByteArray) : Nat := if s = ⟨#[]⟩ then 1 else if 24 < s.size then 4 else 0
def rValue (s : ByteArray) : Nat := if 400 < s.size then 4 else 0
theorem key_c (H : HF) (s : ByteArray) : Fn Try.prog 59 [.string s] H fun v _ => v = .int .i64 (rKey s : Nat) := by
  refine Fn_of_CW Try.func59 rfl Try.ntmps59 Try.results59 rfl fun w hS => ?_
  by_cases h1 : s = ⟨#[]⟩
  · (refine CW_seq ?_; refine CW_region rfl ?_; refine S_op ?_; refine W_assignInt (by first | rfl | assumption) ?_; refine S_nil ?_; refine CW_seq ?_; refine CW_block ?_; refine CW_seq ?_; refine CW_region rfl ?_; refine S_op ?_; refine W_moveStr (by first | rfl | assumption) ?_; refine S_op ?_; refine W_seqlT (by first | rfl | assumption) (by first | rfl | assumption) (by first | assumption | rfl) ?_; refine S_op ?_; refine W_assignBool (by first | rfl | assumption) ?_; refine S_nil ?_; refine CW_true (by first | rfl | assumption) ?_; refine CW_seq ?_; refine CW_region rfl ?_; refine S_op ?_; refine W_assignInt (by first | rfl | assumption) ?_; refine S_nil ?_; refine CW_ret ?_)
    exact ⟨_, ResW_one (v := .int _ _) rfl, H, Grow.refl hS, by simp [rKey, h1]⟩
  · by_cases h2 : 24 < s.size
    · (refine CW_seq ?_; refine CW_region rfl ?_; refine S_op ?_; refine W_assignInt (by first | rfl | assumption) ?_; refine S_nil ?_; refine CW_seq ?_; refine CW_block ?_; refine CW_seq ?_; refine CW_region rfl ?_; refine S_op ?_; refine W_moveStr (by first | rfl | assumption) ?_; refine S_op ?_; refine W_seqlF (by first | rfl | assumption) (by first | rfl | assumption) (by assumption) ?_; refine S_op ?_; refine W_assignBool (by first | rfl | assumption) ?_; refine S_nil ?_; refine CW_false (by first | rfl | assumption) ?_; refine CW_seq ?_; refine CW_region rfl ?_; refine S_op ?_; refine W_moveStr (by first | rfl | assumption) ?_; refine S_op ?_; refine W_lenS (by first | rfl | assumption) ?_; refine S_op ?_; refine W_gtrT (by first | rfl | assumption) (by first | rfl | assumption) (by first | omega | rfl) ?_; refine S_op ?_; refine W_assignBool (by first | rfl | assumption) ?_; refine S_nil ?_; refine CW_true (by first | rfl | assumption) ?_; refine CW_seq ?_; refine CW_region rfl ?_; refine S_op ?_; refine W_assignInt (by first | rfl | assumption) ?_; refine S_nil ?_; refine CW_ret ?_)
      exact ⟨_, ResW_one (v := .int _ _) rfl, H, Grow.refl hS, by simp [rKey, h1, h2]⟩
    · (refine CW_seq ?_; refine CW_region rfl ?_; refine S_op ?_; refine W_assignInt (by first | rfl | assumption) ?_; refine S_nil ?_; refine CW_seq ?_; refine CW_block ?_; refine CW_seq ?_; refine CW_region rfl ?_; refine S_op ?_; refine W_moveStr (by first | rfl | assumption) ?_; refine S_op ?_; refine W_seqlF (by first | rfl | assumption) (by first | rfl | assumption) (by assumption) ?_; refine S_op ?_; refine W_assignBool (by first | rfl | assumption) ?_; refine S_nil ?_; refine CW_false (by first | rfl | assumption) ?_; refine CW_seq ?_; refine CW_region rfl ?_; refine S_op ?_; refine W_moveStr (by first | rfl | assumption) ?_; refine S_op ?_; refine W_lenS (by first | rfl | assumption) ?_; refine S_op ?_; refine W_gtrF (by first | rfl | assumption) (by first | rfl | assumption) (by first | omega | rfl) ?_; refine S_op ?_; refine W_assignBool (by first | rfl | assumption) ?_; refine S_nil ?_; refine CW_false (by first | rfl | assumption) ?_; refine CW_skip ?_; refine CW_seq ?_; refine CW_region rfl ?_; refine S_op ?_; refine W_assignInt (by first | rfl | assumption) ?_; refine S_nil ?_; refine CW_ret ?_)
      exact ⟨_, ResW_one (v := .int _ _) rfl, H, Grow.refl hS, by simp [rKey, h1, h2]⟩
theorem value_c (H : HF) (s : ByteArray) : Fn Try.prog 60 [.string s] H fun v _ => v = .int .i64 (rValue s : Nat) := by
  refine Fn_of_CW Try.func60 rfl Try.ntmps60 Try.results60 rfl fun w hS => ?_
  by_cases h2 : 400 < s.size
  · (refine CW_seq ?_; refine CW_region rfl ?_; refine S_op ?_; refine W_assignInt (by first | rfl | assumption) ?_; refine S_nil ?_; refine CW_seq ?_; refine CW_seq ?_; refine CW_region rfl ?_; refine S_op ?_; refine W_moveStr (by first | rfl | assumption) ?_; refine S_op ?_; refine W_lenS (by first | rfl | assumption) ?_; refine S_op ?_; refine W_gtrT (by first | rfl | assumption) (by first | rfl | assumption) (by first | omega | rfl) ?_; refine S_nil ?_; refine CW_true (by first | rfl | assumption) ?_; refine CW_seq ?_; refine CW_region rfl ?_; refine S_op ?_; refine W_assignInt (by first | rfl | assumption) ?_; refine S_nil ?_; refine CW_ret ?_)
    exact ⟨_, ResW_one (v := .int _ _) rfl, H, Grow.refl hS, by simp [rValue, h2]⟩
  · (refine CW_seq ?_; refine CW_region rfl ?_; refine S_op ?_; refine W_assignInt (by first | rfl | assumption) ?_; refine S_nil ?_; refine CW_seq ?_; refine CW_seq ?_; refine CW_region rfl ?_; refine S_op ?_; refine W_moveStr (by first | rfl | assumption) ?_; refine S_op ?_; refine W_lenS (by first | rfl | assumption) ?_; refine S_op ?_; refine W_gtrF (by first | rfl | assumption) (by first | rfl | assumption) (by first | omega | rfl) ?_; refine S_nil ?_; refine CW_false (by first | rfl | assumption) ?_; refine CW_skip ?_; refine CW_seq ?_; refine CW_region rfl ?_; refine S_op ?_; refine W_assignInt (by first | rfl | assumption) ?_; refine S_nil ?_; refine CW_ret ?_)
    exact ⟨_, ResW_one (v := .int _ _) rfl, H, Grow.refl hS, by simp [rValue, h2]⟩
theorem ent_drop {l : List Ent} {i : Nat} (h : i < l.length) : l.drop i = ent l i :: l.drop (i + 1) := by
  rw [List.drop_eq_getElem_cons h]; simp [ent, h]
theorem riseB_drop {l : List Ent} {i : Nat} (h : i + 1 < l.length) : riseB (l.drop i) = (slt (ent l i).key (ent l (i + 1)).key && riseB (l.drop (i + 1))) := by
  rw [ent_drop (by omega : i < l.length), ent_drop h, riseB]
theorem riseB_last {l : List Ent} {i : Nat} (h : l.length ≤ i + 1) : riseB (l.drop i) = true := by
  by_cases h1 : i < l.length
  · rw [ent_drop h1, List.drop_eq_nil_of_le h]; rfl
  · rw [List.drop_eq_nil_of_le (by omega)]; rfl
theorem rise_c (H : HF) (A : Option Addr) (c : Nat) (l : List Ent) (hl : EntsAt H A l) (hc : l.length ≤ c) (hb : l.length ≤ 1000000) :
    Fn Try.prog 92 [.slice A l.length c] H fun v _ => v = .bool (riseB l) := by
  refine Fn_of_CW Try.func92 rfl Try.ntmps92 Try.results92 rfl fun w hS => ?_
  obtain ⟨q, hq, hq1, hq2⟩ : ∃ q : Nat, min (1 : Int) (l.length : Int) = (q : Int) ∧ q ≤ l.length ∧ (q = 1 ∨ l.length = 0) := by
    by_cases h : l.length = 0
    · exact ⟨0, by omega, by omega, .inr h⟩
    · exact ⟨1, by omega, by omega, .inl rfl⟩
  (refine CW_seq ?_; refine CW_region rfl ?_; refine S_op ?_; refine W_assignBool (by first | rfl | assumption) ?_; refine S_nil ?_; refine CW_seq ?_; refine CW_seq ?_; refine CW_region rfl ?_; refine S_op ?_; refine W_moveSl (by first | rfl | assumption) ?_; refine S_op ?_; refine W_moveSl (by first | rfl | assumption) ?_; refine S_op ?_; refine W_len (by first | rfl | assumption) ?_)
  refine S_op ?_
  refine W_min2 (by rfl) (by rfl) hq ?_
  (refine S_op ?_; refine W_sliceLo (by first | rfl | assumption) (by first | rfl | assumption) (by omega) ?_; refine S_op ?_; refine W_len (by first | rfl | assumption) ?_; refine S_op ?_; refine W_moveInt (by first | rfl | assumption) ?_; refine S_nil ?_; refine CW_block ?_)
  have hD := hl.slDrop (k := q) (by omega) hc
  have hq3 : l.length - q = l.length - 1 := by omega
  refine CW_loopM [2, 3, 4, 11, 12, 13, 14, 15, 16, 17, 18, 19, 20, 21, 22, 23, 24]
    (fun m u w2 => ∃ (i : Nat) (H2 : HF), u 11 = .int .i64 (i : Int) ∧ Grow H w H2 w2 ∧ i ≤ l.length ∧ l.length - i ≤ m ∧ riseB (l.drop i) = riseB l)
    (m := l.length) ⟨0, H, rfl, Grow.refl hS, by omega, by omega, rfl⟩ ?_
  rintro m u w2 ⟨i, H2, h11, hG2, hi, hm, hf⟩
  have hS2 := hG2.sub
  have hl2 := hl.mono hG2.le
  have hD2 := hD.mono hG2.le
  by_cases hlt : i + 1 < l.length
  · have hq4 : q = 1 := by omega
    subst hq4
    clear hq2 hq3 hq hq1
    obtain ⟨b, off, hA, hrow⟩ := hl2.some hlt
    have hlt' : i < l.length := by omega
    obtain ⟨A', c', eA, _, hs2, _⟩ := hD2
    cases eA
    have hs2 : EntsAt H2 (slAddr A c 1 2) (l.drop 1) := hs2
    have hi1 : i < (l.drop 1).length := by simp; omega
    obtain ⟨b2, off2, hA2, hrow2⟩ := hs2.some hi1
    have hen : ent (l.drop 1) i = ent l (i + 1) := by simp [ent, Nat.add_comm]
    rw [riseB_drop hlt] at hf
    (refine CW_seq ?_; refine CW_region rfl ?_; refine S_op ?_; refine W_lssT (by first | rfl | assumption) (by first | rfl | assumption) (by first | omega | rfl) ?_; refine S_nil ?_; refine CW_seq ?_; refine CW_true (by first | rfl | assumption) ?_; refine CW_skip ?_; refine CW_seq ?_; refine CW_block ?_; refine CW_seq ?_; refine CW_region rfl ?_; refine S_op ?_; refine W_moveInt (by first | rfl | assumption) ?_; refine S_op ?_; refine W_index (by first | rfl | assumption) (by first | rfl | assumption) (by first | assumption | omega | decide) (by first | rfl | assumption) ?_; refine S_op ?_; refine W_loadEnt (by first | rfl | assumption) (by assumption) (by first | assumption | omega) (by assumption) ?_)
    rw [hen]
    refine S_op (W_alloc hS2 ?_)
    intro w3 bx hG3 hbx hm3
    (refine S_op ?_; refine W_assignInt (by first | rfl | assumption) ?_)
    refine S_op0 ?_
    refine W_storeM (b := bx) (o := 0) (vs := [.string (ent l (i + 1)).key, .string (ent l (i + 1)).val]) (by rfl) (by rfl) hm3 (by rfl) (by simp [OneCells]; exact ⟨rfl, rfl⟩) rfl (by show 0 + 2 ≤ _; decide) ?_
    intro w4 hg4 hm4
    have hG4 := (hG2.trans hG3).grownBy hg4 (fun g h => by cases h; exact ⟨hm3.out, by have := hG2.below.size; omega⟩)
    obtain ⟨H5, T5, hle5, hG5, hb5, _⟩ := hm4.freeze hG4 (by have := hG2.below.size; omega)
    have hS5 := hG5.sub
    have hrow5 := hrow.mono hle5
    clear hs2 hrow2 hA2 hG4 hm4 hm3 hl2
    cases hs : slt (ent l i).key (ent l (i + 1)).key with
    | true =>
      rw [hs] at hf
      (refine S_nil ?_; refine CW_seq ?_)
      apply CW_region_grow [_, _, _, _, _, _, _, _] [none, none, none, none, none, none, none, none] [some 16, some 17, some 18, some 19, some 20, some 21, some 22, some 23] [16, 17, 18, 19, 20, 21, 22, 23] mixed rfl rfl rfl rfl (by decide) rfl (by assumption)
      · ((apply steps_cons; case h1 => (apply A_pure; intro c u H' w' hG; have hS' := hG.sub; have hS2' := hG.subOld; (repeat (first | refine depGo_eq rfl rfl rfl ?_ | (refine depGo_fact rfl rfl rfl ?_; intro v hv) | refine depGo_skip rfl ?_ | refine depGo_none rfl ?_)); apply Pure1.mk; intro K hk; exact W_moveSl (by first | rfl | assumption) hk)); (apply steps_cons; case h1 => (apply A_pure; intro c u H' w' hG; have hS' := hG.sub; have hS2' := hG.subOld; (repeat (first | refine depGo_eq rfl rfl rfl ?_ | (refine depGo_fact rfl rfl rfl ?_; intro v hv) | refine depGo_skip rfl ?_ | refine depGo_none rfl ?_)); apply Pure1.mk; intro K hk; exact W_moveInt (by first | rfl | assumption) hk)); (apply steps_cons; case h1 => (apply A_pure; intro c u H' w' hG; have hS' := hG.sub; have hS2' := hG.subOld; (repeat (first | refine depGo_eq rfl rfl rfl ?_ | (refine depGo_fact rfl rfl rfl ?_; intro v hv) | refine depGo_skip rfl ?_ | refine depGo_none rfl ?_)); apply Pure1.mk; intro K hk; exact W_index (by first | rfl | assumption) (by first | rfl | assumption) (by first | assumption | omega | decide) (by first | rfl | assumption) hk)); (apply steps_cons; case h1 => (apply A_pure; intro c u H' w' hG; have hS' := hG.sub; have hS2' := hG.subOld; (repeat (first | refine depGo_eq rfl rfl rfl ?_ | (refine depGo_fact rfl rfl rfl ?_; intro v hv) | refine depGo_skip rfl ?_ | refine depGo_none rfl ?_)); apply Pure1.mk; intro K hk; exact W_field (by first | rfl | assumption) hk)); (apply steps_cons; case h1 => (apply A_pure; intro c u H' w' hG; have hS' := hG.sub; have hS2' := hG.subOld; (repeat (first | refine depGo_eq rfl rfl rfl ?_ | (refine depGo_fact rfl rfl rfl ?_; intro v hv) | refine depGo_skip rfl ?_ | refine depGo_none rfl ?_)); apply Pure1.mk; intro K hk; exact W_loadKey (by first | rfl | assumption) (by assumption) (by first | assumption | omega) (by assumption) hk)); (apply steps_cons; case h1 => (apply A_pure; intro c u H' w' hG; have hS' := hG.sub; have hS2' := hG.subOld; (repeat (first | refine depGo_eq rfl rfl rfl ?_ | (refine depGo_fact rfl rfl rfl ?_; intro v hv) | refine depGo_skip rfl ?_ | refine depGo_none rfl ?_)); apply Pure1.mk; intro K hk; exact W_field (by first | rfl | assumption) hk)); (apply steps_cons; case h1 => (apply A_pure; intro c u H' w' hG; have hS' := hG.sub; have hS2' := hG.subOld; (repeat (first | refine depGo_eq rfl rfl rfl ?_ | (refine depGo_fact rfl rfl rfl ?_; intro v hv) | refine depGo_skip rfl ?_ | refine depGo_none rfl ?_)); apply Pure1.mk; intro K hk; exact W_loadHL (by first | rfl | assumption) (by assumption) (by rfl) (by assumption) hk)); (apply steps_cons; case h1 => (apply A_pure; intro c u H' w' hG; have hS' := hG.sub; have hS2' := hG.subOld; (repeat (first | refine depGo_eq rfl rfl rfl ?_ | (refine depGo_fact rfl rfl rfl ?_; intro v hv) | refine depGo_skip rfl ?_ | refine depGo_none rfl ?_)); apply Pure1.mk; intro K hk; exact W_sgeqB (by first | rfl | assumption) (by first | rfl | assumption) (by assumption) hk)); exact trivial)
      · (intro H' w' hG; (repeat (first | refine fin_eq rfl rfl ?_ | (refine fin_fact rfl ?_; intro v hv) | refine fin_none rfl ?_)); refine fin_nil ?_)
        (refine CW_false (by first | rfl | assumption) ?_; refine CW_skip ?_; refine CW_region rfl ?_; refine S_op ?_; refine W_add1 (by first | rfl | assumption) (by omega) ?_; refine S_op ?_; refine W_moveInt (by first | rfl | assumption) ?_; refine S_nil ?_)
        exact ⟨(by repeat (first | exact AgreeOff.over | refine AgreeOff.upd rfl ?_ | refine AgreeOff.over2 rfl ?_)), m - 1, by omega, i + 1, _, rfl, hG5.trans (by assumption), by omega, by omega, hf⟩
    | false =>
      rw [hs] at hf
      (refine S_nil ?_; refine CW_seq ?_)
      apply CW_region_grow [_, _, _, _, _, _, _, _] [none, none, none, none, none, none, none, none] [some 16, some 17, some 18, some 19, some 20, some 21, some 22, some 23] [16, 17, 18, 19, 20, 21, 22, 23] mixed rfl rfl rfl rfl (by decide) rfl (by assumption)
      · ((apply steps_cons; case h1 => (apply A_pure; intro c u H' w' hG; have hS' := hG.sub; have hS2' := hG.subOld; (repeat (first | refine depGo_eq rfl rfl rfl ?_ | (refine depGo_fact rfl rfl rfl ?_; intro v hv) | refine depGo_skip rfl ?_ | refine depGo_none rfl ?_)); apply Pure1.mk; intro K hk; exact W_moveSl (by first | rfl | assumption) hk)); (apply steps_cons; case h1 => (apply A_pure; intro c u H' w' hG; have hS' := hG.sub; have hS2' := hG.subOld; (repeat (first | refine depGo_eq rfl rfl rfl ?_ | (refine depGo_fact rfl rfl rfl ?_; intro v hv) | refine depGo_skip rfl ?_ | refine depGo_none rfl ?_)); apply Pure1.mk; intro K hk; exact W_moveInt (by first | rfl | assumption) hk)); (apply steps_cons; case h1 => (apply A_pure; intro c u H' w' hG; have hS' := hG.sub; have hS2' := hG.subOld; (repeat (first | refine depGo_eq rfl rfl rfl ?_ | (refine depGo_fact rfl rfl rfl ?_; intro v hv) | refine depGo_skip rfl ?_ | refine depGo_none rfl ?_)); apply Pure1.mk; intro K hk; exact W_index (by first | rfl | assumption) (by first | rfl | assumption) (by first | assumption | omega | decide) (by first | rfl | assumption) hk)); (apply steps_cons; case h1 => (apply A_pure; intro c u H' w' hG; have hS' := hG.sub; have hS2' := hG.subOld; (repeat (first | refine depGo_eq rfl rfl rfl ?_ | (refine depGo_fact rfl rfl rfl ?_; intro v hv) | refine depGo_skip rfl ?_ | refine depGo_none rfl ?_)); apply Pure1.mk; intro K hk; exact W_field (by first | rfl | assumption) hk)); (apply steps_cons; case h1 => (apply A_pure; intro c u H' w' hG; have hS' := hG.sub; have hS2' := hG.subOld; (repeat (first | refine depGo_eq rfl rfl rfl ?_ | (refine depGo_fact rfl rfl rfl ?_; intro v hv) | refine depGo_skip rfl ?_ | refine depGo_none rfl ?_)); apply Pure1.mk; intro K hk; exact W_loadKey (by first | rfl | assumption) (by assumption) (by first | assumption | omega) (by assumption) hk)); (apply steps_cons; case h1 => (apply A_pure; intro c u H' w' hG; have hS' := hG.sub; have hS2' := hG.subOld; (repeat (first | refine depGo_eq rfl rfl rfl ?_ | (refine depGo_fact rfl rfl rfl ?_; intro v hv) | refine depGo_skip rfl ?_ | refine depGo_none rfl ?_)); apply Pure1.mk; intro K hk; exact W_field (by first | rfl | assumption) hk)); (apply steps_cons; case h1 => (apply A_pure; intro c u H' w' hG; have hS' := hG.sub; have hS2' := hG.subOld; (repeat (first | refine depGo_eq rfl rfl rfl ?_ | (refine depGo_fact rfl rfl rfl ?_; intro v hv) | refine depGo_skip rfl ?_ | refine depGo_none rfl ?_)); apply Pure1.mk; intro K hk; exact W_loadHL (by first | rfl | assumption) (by assumption) (by rfl) (by assumption) hk)); (apply steps_cons; case h1 => (apply A_pure; intro c u H' w' hG; have hS' := hG.sub; have hS2' := hG.subOld; (repeat (first | refine depGo_eq rfl rfl rfl ?_ | (refine depGo_fact rfl rfl rfl ?_; intro v hv) | refine depGo_skip rfl ?_ | refine depGo_none rfl ?_)); apply Pure1.mk; intro K hk; exact W_sgeqB (by first | rfl | assumption) (by first | rfl | assumption) (by assumption) hk)); exact trivial)
      · (intro H' w' hG; (repeat (first | refine fin_eq rfl rfl ?_ | (refine fin_fact rfl ?_; intro v hv) | refine fin_none rfl ?_)); refine fin_nil ?_)
        (refine CW_true (by first | rfl | assumption) ?_; refine CW_seq ?_; refine CW_region rfl ?_; refine S_op ?_; refine W_assignBool (by first | rfl | assumption) ?_; refine S_nil ?_; refine CW_ret ?_)
        exact ⟨_, ResW_one (v := .bool _) rfl, _, hG5.trans (by assumption), by rw [← hf]; rfl⟩
  · rw [riseB_last (by omega)] at hf
    (refine CW_seq ?_; refine CW_region rfl ?_; refine S_op ?_; refine W_lssF (by first | rfl | assumption) (by first | rfl | assumption) (by first | omega | rfl) ?_; refine S_nil ?_; refine CW_seq ?_; refine CW_false (by first | rfl | assumption) ?_; refine CW_exit ?_; refine CW_seq ?_; refine CW_region rfl ?_; refine S_op ?_; refine W_assignBool (by first | rfl | assumption) ?_; refine S_nil ?_; refine CW_ret ?_)
    exact ⟨_, ResW_one (v := .bool _) rfl, H2, hG2, by rw [← hf]⟩
end Go.Proofs.Ytgaabmoknpifnaa
