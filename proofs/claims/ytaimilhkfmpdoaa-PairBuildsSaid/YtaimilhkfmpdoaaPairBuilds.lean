/- PairBuilds: it answers true. Conditions: sizes. -/
import Derived.Test.YtaimilhkfmpdoaaBuilt
namespace Go.Proofs.Ytaimilhkfmpdoaa
open Go.Proofs Go.RowKit
set_option linter.unusedVariables false
attribute [local irreducible] CW SeqW OpW
set_option maxHeartbeats 4000000
theorem lastGo_append (k : ByteArray) : ∀ (a b : List Ent) (o : Option Ent), lastGo k (a ++ b) o = lastGo k b (lastGo k a o)
  | [], _, _ => rfl
  | x :: a, b, o => by simp only [List.cons_append, lastGo]; exact lastGo_append k a b _
theorem last_at {l : List Ent} {i : Nat} (h : i < l.length) : lastGo (ent l i).key l none = lastGo (ent l i).key (l.drop (i + 1)) (some (ent l i)) := by
  have e := at_split h
  have : lastGo (ent l i).key l none = lastGo (ent l i).key (l.take i ++ ent l i :: l.drop (i + 1)) none := by rw [← e]
  rw [this, lastGo_append]
  simp [lastGo]
theorem pairBuilds_c (H : HF) (A : Option Addr) (c : Nat) (l : List Ent) (hl : EntsAt H A l) (hc : l.length ≤ c) (hb : l.length ≤ 100000000000000) (hs : Small l) :
    Fn Try.prog 8 [.slice A l.length c] H fun v _ => v = .bool true := by
  refine Fn_of_CW Try.func8 rfl Try.ntmps8 Try.results8 rfl fun w hS => ?_
  (refine CW_seq ?_; refine CW_region rfl ?_; refine S_op ?_; refine W_assignBool (by first | rfl | assumption) ?_; refine S_nil ?_; refine CW_seq ?_; refine CW_seq ?_; refine CW_region rfl ?_)
  refine S_op ?_
  refine W_call hS (by rfl) (awake_c H) ?_
  rintro v H1 w1 hG1 rfl
  have hl1 := hl.mono hG1.le
  (refine S_op ?_; refine W_not (by first | rfl | assumption) ?_; refine S_op ?_; refine W_moveBool (by first | rfl | assumption) ?_; refine S_want (by rfl) ?_; refine W_moveSl (by first | rfl | assumption) ?_)
  refine S_want (by rfl) ?_
  refine W_call hG1.sub (by rfl) (few_c H1 A c l hl1 hb hs) ?_
  rintro v H2 w2 hG2 rfl
  have hG02 := hG1.trans hG2
  have hS2 := hG2.sub
  have hl2 := hl1.mono hG2.le
  clear hl1 hG1
  cases hf : fewB l with
  | false =>
    (refine S_want (by rfl) ?_; refine W_not (by first | rfl | assumption) ?_; refine S_op ?_; refine W_pickF (by first | rfl | assumption) (by first | rfl | assumption) ?_; refine S_nil ?_; refine CW_true (by first | rfl | assumption) ?_; refine CW_seq ?_; refine CW_region rfl ?_)
    refine S_op ?_
    refine W_call hG2.sub (by rfl) (awake_c H2) ?_
    rintro v H3 w3 hG3 rfl
    (refine S_op ?_; refine W_assignBool (by first | rfl | assumption) ?_; refine S_nil ?_; refine CW_ret ?_)
    exact ⟨_, ResW_one (v := .bool _) rfl, H3, hG02.trans hG3, rfl⟩
  | true =>
    have hlen := fewB_le hf
    (refine S_want (by rfl) ?_; refine W_not (by first | rfl | assumption) ?_; refine S_op ?_; refine W_pickF (by first | rfl | assumption) (by first | rfl | assumption) ?_; refine S_nil ?_; refine CW_false (by first | rfl | assumption) ?_; refine CW_skip ?_; refine CW_seq ?_; refine CW_region rfl ?_; refine S_op ?_; refine W_moveSl (by first | rfl | assumption) ?_)
    refine S_op ?_
    refine W_call hS2 (by rfl) (built_c H2 A c l hl2 (by omega)) ?_
    rintro v H3 w3 hG3 ⟨A3, c3, rfl, hc3, hm3⟩
    have hr := built_rise l
    have hbl := built_length l
    have hlk := built_look l
    generalize builtL l = a at *
    have hG03 := hG02.trans hG3
    have hS3 := hG3.sub
    have hl3 := hl2.mono hG3.le
    clear hl2 hG02 hG2 hG3 hS2 hl
    (refine S_op ?_; refine W_assignSl (by first | rfl | assumption) ?_; refine S_nil ?_; refine CW_seq ?_; refine CW_seq ?_; refine CW_region rfl ?_; refine S_op ?_; refine W_moveSl (by first | rfl | assumption) ?_)
    refine S_op ?_
    refine W_call hS3 (by rfl) (rise_c H3 A3 c3 a hm3 hc3 (by omega)) ?_
    rintro v H4 w4 hG4 rfl
    have hG04 := hG03.trans hG4
    have hm4 := hm3.mono hG4.le
    have hl4 := hl3.mono hG4.le
    clear hG03 hG4 hS3 hm3 hl3
    rw [hr]
    (refine S_op ?_; refine W_not (by first | rfl | assumption) ?_; refine S_op ?_; refine W_moveBool (by first | rfl | assumption) ?_; refine S_want (by rfl) ?_; refine W_moveSl (by first | rfl | assumption) ?_; refine S_want (by rfl) ?_; refine W_len (by first | rfl | assumption) ?_; refine S_want (by rfl) ?_; refine W_moveSl (by first | rfl | assumption) ?_; refine S_want (by rfl) ?_; refine W_len (by first | rfl | assumption) ?_; refine S_want (by rfl) ?_; refine W_gtrF (by first | rfl | assumption) (by first | rfl | assumption) (by omega) ?_; refine S_op ?_; refine W_pickF (by first | rfl | assumption) (by first | rfl | assumption) ?_; refine S_nil ?_; refine CW_false (by first | rfl | assumption) ?_; refine CW_skip ?_; refine CW_seq ?_; refine CW_seq ?_; refine CW_region rfl ?_; refine S_op ?_; refine W_moveSl (by first | rfl | assumption) ?_; refine S_op ?_; refine W_len (by first | rfl | assumption) ?_; refine S_op ?_; refine W_moveInt (by first | rfl | assumption) ?_; refine S_nil ?_; refine CW_block ?_)
    refine CW_loopM [2, 4, 5, 6, 7, 8, 31, 32, 33, 34, 35, 36, 37, 38, 39, 40, 41, 42, 43, 44, 45, 46, 47, 48, 49, 50, 51, 52, 53, 54, 55, 56, 57, 58, 59, 60, 61, 62, 63, 64, 65, 66, 67, 68, 69, 70, 71, 72, 73, 74, 75, 76, 77, 78, 79, 80, 81, 82, 83, 84]
      (fun m u w2 => ∃ (i : Nat) (H2 : HF), u 31 = .int .i64 (i : Int) ∧ HLe H4 H2 ∧ Grow H w H2 w2 ∧ i ≤ l.length ∧ l.length - i ≤ m)
      (m := l.length) ⟨0, H4, rfl, HLe.refl _, hG04, by omega, by omega⟩ ?_
    rintro m u w5 ⟨i, H5, h31, hle5, hG05, hi, hm⟩
    have hm5 := hm4.mono hle5
    have hl5 := hl4.mono hle5
    have hS5 := hG05.sub
    clear hG04
    by_cases hlt : i < l.length
    · obtain ⟨b, off, hA, hrow⟩ := hl5.some hlt
      have hla := (hlk (ent l i).key).trans (last_at hlt)
      (refine CW_seq ?_; refine CW_region rfl ?_; refine S_op ?_; refine W_lssT (by first | rfl | assumption) (by first | rfl | assumption) (by omega) ?_; refine S_nil ?_; refine CW_seq ?_; refine CW_true (by first | rfl | assumption) ?_; refine CW_skip ?_; refine CW_seq ?_; refine CW_block ?_; refine CW_seq ?_; refine CW_region rfl ?_; refine S_op ?_; refine W_moveInt (by first | rfl | assumption) ?_; refine S_op ?_; refine W_assignInt (by first | rfl | assumption) ?_; refine S_nil ?_; refine CW_seq ?_; refine CW_region rfl ?_; refine S_op ?_; refine W_moveSl (by first | rfl | assumption) ?_; refine S_op ?_; refine W_moveInt (by first | rfl | assumption) ?_; refine S_op ?_; refine W_index (by first | rfl | assumption) (by first | rfl | assumption) (by first | assumption | omega) (by assumption) ?_; refine S_op ?_; refine W_loadEnt (by first | rfl | assumption) (by assumption) (by first | assumption | omega) (by assumption) ?_)
      refine S_op (W_alloc hS5 ?_)
      intro w6 bx hG6 hbx hm6
      skip
      refine S_op0 ?_
      refine W_storeM (b := bx) (o := 0) (vs := [.string (ent l i).key, .string (ent l i).val]) (by rfl) (by rfl) hm6 (by rfl) (by simp [OneCells]; exact ⟨rfl, rfl⟩) rfl (by show 0 + 2 ≤ _; decide) ?_
      intro w7 hg7 hm7
      have hbx0 : w.heap.size ≤ bx := by have := hG05.below.size; omega
      have hG07 := (hG05.trans hG6).grownBy hg7 (fun g h => by cases h; exact ⟨hm6.out, hbx0⟩)
      clear hG6 hm6 hg7 hG05 hS5 hbx
      have hm7 : Mut H5 w7 bx [.string (ent l i).key, .string (ent l i).val] := hm7
      (refine S_nil ?_; refine CW_seq ?_; refine CW_seq ?_; refine CW_region rfl ?_; refine S_op ?_; refine W_moveInt (by first | rfl | assumption) ?_; refine S_op ?_; refine W_add1 (by first | rfl | assumption) (by omega) ?_; refine S_op ?_; refine W_assignInt (by first | rfl | assumption) ?_; refine S_nil ?_; refine CW_block ?_)
      refine CW_loopM [6, 40, 41, 42, 43, 44, 45, 46, 47, 48, 49, 50, 51, 52, 53, 54, 55, 56, 57]
        (fun m u w2 => ∃ (j : Nat) (x : Ent) (H2 : HF), u 6 = .int .i64 (j : Int) ∧ HLe H4 H2 ∧ Grow H w H2 w2 ∧ j ≤ l.length ∧ l.length - j ≤ m ∧ Mut H2 w2 bx [.string x.key, .string x.val] ∧ x.key = (ent l i).key ∧ look a (ent l i).key = lastGo (ent l i).key (l.drop j) (some x))
        (m := l.length) ⟨i + 1, ent l i, H5, rfl, hle5, hG07, by omega, by omega, hm7, rfl, hla⟩ ?_
      rintro k u2 w8 ⟨j, x, H8, h6, hle8, hG08, hj, hk, hm8, hx, hlast⟩
      have hS8 := hG08.sub
      have hl8 := hl4.mono hle8
      clear hG07 hm7 hl5 hm5 hrow hA hle5 hla
      by_cases hjl : j < l.length
      · obtain ⟨b8, off8, hA8, hrow8⟩ := hl8.some hjl
        rw [ent_drop hjl, lastGo] at hlast
        by_cases hkey : (ent l j).key = x.key
        · rw [if_pos (hkey.trans hx)] at hlast
          (refine CW_seq ?_; refine CW_seq ?_; refine CW_region rfl ?_; refine S_op ?_; refine W_moveInt (by first | rfl | assumption) ?_; refine S_op ?_; refine W_moveSl (by first | rfl | assumption) ?_; refine S_op ?_; refine W_len (by first | rfl | assumption) ?_; refine S_op ?_; refine W_lssT (by first | rfl | assumption) (by first | rfl | assumption) (by omega) ?_; refine S_nil ?_; refine CW_true (by first | rfl | assumption) ?_; refine CW_skip ?_; refine CW_seq ?_; refine CW_block ?_; refine CW_seq ?_)
          apply CW_region_grow [_, _, _, _, _, _, _, _] [none, none, none, none, none, none, none, none] [some 46, some 47, some 48, some 49, some 50, some 51, some 52, some 53] [46, 47, 48, 49, 50, 51, 52, 53] mixed rfl rfl rfl rfl (by decide) rfl (by assumption)
          · ((apply steps_cons; case h1 => (apply A_pure; intro c u H' w' hG; have hS' := hG.sub; have hS2' := hG.subOld; have hM0 := (hm8).grow hG; (repeat (first | rintro _ rfl | intro v hv)); apply Pure1.mk; intro K hk; exact W_moveSl (by first | rfl | assumption) hk)); (apply steps_cons; case h1 => (apply A_pure; intro c u H' w' hG; have hS' := hG.sub; have hS2' := hG.subOld; have hM0 := (hm8).grow hG; (repeat (first | rintro _ rfl | intro v hv)); apply Pure1.mk; intro K hk; exact W_moveInt (by first | rfl | assumption) hk)); (apply steps_cons; case h1 => (apply A_pure; intro c u H' w' hG; have hS' := hG.sub; have hS2' := hG.subOld; have hM0 := (hm8).grow hG; (repeat (first | rintro _ rfl | intro v hv)); apply Pure1.mk; intro K hk; exact W_index (by first | rfl | assumption) (by first | rfl | assumption) (by first | assumption | omega) (by assumption) hk)); (apply steps_cons; case h1 => (apply A_pure; intro c u H' w' hG; have hS' := hG.sub; have hS2' := hG.subOld; have hM0 := (hm8).grow hG; (repeat (first | rintro _ rfl | intro v hv)); apply Pure1.mk; intro K hk; exact W_field (by first | rfl | assumption) hk)); (apply steps_cons; case h1 => (apply A_pure; intro c u H' w' hG; have hS' := hG.sub; have hS2' := hG.subOld; have hM0 := (hm8).grow hG; (repeat (first | rintro _ rfl | intro v hv)); apply Pure1.mk; intro K hk; exact W_loadKey (by first | rfl | assumption) (by assumption) (by first | assumption | omega) (by assumption) hk)); (apply steps_cons; case h1 => (apply A_pure; intro c u H' w' hG; have hS' := hG.sub; have hS2' := hG.subOld; have hM0 := (hm8).grow hG; (repeat (first | rintro _ rfl | intro v hv)); apply Pure1.mk; intro K hk; exact W_field (by first | rfl | assumption) hk)); (apply steps_cons; case h1 => (apply A_pure; intro c u H' w' hG; have hS' := hG.sub; have hS2' := hG.subOld; have hM0 := (hm8).grow hG; (repeat (first | rintro _ rfl | intro v hv)); apply Pure1.mk; intro K hk; exact W_loadM (by first | rfl | assumption) (by assumption) (by rfl) hk)); (apply steps_cons; case h1 => (apply A_pure; intro c u H' w' hG; have hS' := hG.sub; have hS2' := hG.subOld; have hM0 := (hm8).grow hG; (repeat (first | rintro _ rfl | intro v hv)); apply Pure1.mk; intro K hk; exact W_seqlT (by first | rfl | assumption) (by first | rfl | assumption) (by assumption) hk)); exact trivial)
          · intro H9 w9 hG9
            (repeat (first | rintro _ rfl | intro v hv))
            have hm9 := hm8.grow hG9
            have hrow9 := hrow8.mono hG9.le
            have hS9 := hG9.sub
            (refine CW_true (by first | rfl | assumption) ?_; refine CW_region rfl ?_; refine S_op ?_; refine W_moveSl (by first | rfl | assumption) ?_; refine S_op ?_; refine W_moveInt (by first | rfl | assumption) ?_; refine S_op ?_; refine W_index (by first | rfl | assumption) (by first | rfl | assumption) (by first | assumption | omega) (by assumption) ?_; refine S_op ?_; refine W_loadEnt (by first | rfl | assumption) (by assumption) (by first | assumption | omega) (by assumption) ?_)
            refine S_op0 ?_
            refine W_storeM (b := bx) (o := 0) (vs := [.string (ent l j).key, .string (ent l j).val]) (by rfl) (by rfl) hm9 (by rfl) (by simp [OneCells]; exact ⟨rfl, rfl⟩) rfl (by show 0 + 2 ≤ 2; decide) ?_
            intro w10 hg10 hm10
            have hG10 := (hG08.trans hG9).grownBy hg10 (fun g h => by cases h; exact ⟨hm9.out, hbx0⟩)
            have hm10 : Mut H9 w10 bx [.string (ent l j).key, .string (ent l j).val] := hm10
            (refine S_nil ?_; refine CW_region rfl ?_; refine S_op ?_; refine W_moveInt (by first | rfl | assumption) ?_; refine S_op ?_; refine W_add1 (by first | rfl | assumption) (by omega) ?_; refine S_op ?_; refine W_assignInt (by first | rfl | assumption) ?_; refine S_nil ?_)
            exact ⟨(by repeat (first | exact AgreeOff.over | refine AgreeOff.upd rfl ?_ | refine AgreeOff.over2 rfl ?_)), k - 1, by omega, j + 1, ent l j, H9, rfl, hle8.trans hG9.le, hG10, by omega, by omega, hm10, hkey.trans hx, hlast⟩
        · rw [if_neg (fun h => hkey (h.trans hx.symm))] at hlast
          (refine CW_seq ?_; refine CW_seq ?_; refine CW_region rfl ?_; refine S_op ?_; refine W_moveInt (by first | rfl | assumption) ?_; refine S_op ?_; refine W_moveSl (by first | rfl | assumption) ?_; refine S_op ?_; refine W_len (by first | rfl | assumption) ?_; refine S_op ?_; refine W_lssT (by first | rfl | assumption) (by first | rfl | assumption) (by omega) ?_; refine S_nil ?_; refine CW_true (by first | rfl | assumption) ?_; refine CW_skip ?_; refine CW_seq ?_; refine CW_block ?_; refine CW_seq ?_)
          apply CW_region_grow [_, _, _, _, _, _, _, _] [none, none, none, none, none, none, none, none] [some 46, some 47, some 48, some 49, some 50, some 51, some 52, some 53] [46, 47, 48, 49, 50, 51, 52, 53] mixed rfl rfl rfl rfl (by decide) rfl (by assumption)
          · ((apply steps_cons; case h1 => (apply A_pure; intro c u H' w' hG; have hS' := hG.sub; have hS2' := hG.subOld; have hM0 := (hm8).grow hG; (repeat (first | rintro _ rfl | intro v hv)); apply Pure1.mk; intro K hk; exact W_moveSl (by first | rfl | assumption) hk)); (apply steps_cons; case h1 => (apply A_pure; intro c u H' w' hG; have hS' := hG.sub; have hS2' := hG.subOld; have hM0 := (hm8).grow hG; (repeat (first | rintro _ rfl | intro v hv)); apply Pure1.mk; intro K hk; exact W_moveInt (by first | rfl | assumption) hk)); (apply steps_cons; case h1 => (apply A_pure; intro c u H' w' hG; have hS' := hG.sub; have hS2' := hG.subOld; have hM0 := (hm8).grow hG; (repeat (first | rintro _ rfl | intro v hv)); apply Pure1.mk; intro K hk; exact W_index (by first | rfl | assumption) (by first | rfl | assumption) (by first | assumption | omega) (by assumption) hk)); (apply steps_cons; case h1 => (apply A_pure; intro c u H' w' hG; have hS' := hG.sub; have hS2' := hG.subOld; have hM0 := (hm8).grow hG; (repeat (first | rintro _ rfl | intro v hv)); apply Pure1.mk; intro K hk; exact W_field (by first | rfl | assumption) hk)); (apply steps_cons; case h1 => (apply A_pure; intro c u H' w' hG; have hS' := hG.sub; have hS2' := hG.subOld; have hM0 := (hm8).grow hG; (repeat (first | rintro _ rfl | intro v hv)); apply Pure1.mk; intro K hk; exact W_loadKey (by first | rfl | assumption) (by assumption) (by first | assumption | omega) (by assumption) hk)); (apply steps_cons; case h1 => (apply A_pure; intro c u H' w' hG; have hS' := hG.sub; have hS2' := hG.subOld; have hM0 := (hm8).grow hG; (repeat (first | rintro _ rfl | intro v hv)); apply Pure1.mk; intro K hk; exact W_field (by first | rfl | assumption) hk)); (apply steps_cons; case h1 => (apply A_pure; intro c u H' w' hG; have hS' := hG.sub; have hS2' := hG.subOld; have hM0 := (hm8).grow hG; (repeat (first | rintro _ rfl | intro v hv)); apply Pure1.mk; intro K hk; exact W_loadM (by first | rfl | assumption) (by assumption) (by rfl) hk)); (apply steps_cons; case h1 => (apply A_pure; intro c u H' w' hG; have hS' := hG.sub; have hS2' := hG.subOld; have hM0 := (hm8).grow hG; (repeat (first | rintro _ rfl | intro v hv)); apply Pure1.mk; intro K hk; exact W_seqlF (by first | rfl | assumption) (by first | rfl | assumption) (by assumption) hk)); exact trivial)
          · intro H9 w9 hG9
            (repeat (first | rintro _ rfl | intro v hv))
            have hm9 := hm8.grow hG9
            (refine CW_false (by first | rfl | assumption) ?_; refine CW_skip ?_; refine CW_region rfl ?_; refine S_op ?_; refine W_moveInt (by first | rfl | assumption) ?_; refine S_op ?_; refine W_add1 (by first | rfl | assumption) (by omega) ?_; refine S_op ?_; refine W_assignInt (by first | rfl | assumption) ?_; refine S_nil ?_)
            exact ⟨(by repeat (first | exact AgreeOff.over | refine AgreeOff.upd rfl ?_ | refine AgreeOff.over2 rfl ?_)), k - 1, by omega, j + 1, x, H9, rfl, hle8.trans hG9.le, hG08.trans hG9, by omega, by omega, hm9, hx, hlast⟩
      · rw [List.drop_eq_nil_of_le (by omega), lastGo] at hlast
        obtain ⟨hq1, hq2, hq3, hq4⟩ := look_at hlast
        obtain ⟨H9, T9, hle9, hG09, hb9, _⟩ := hm8.freeze hG08 hbx0
        have hl9 := hl8.mono hle9
        have hm39 := hm4.mono (hle8.trans hle9)
        have hS9 := hG09.sub
        obtain ⟨b9, off9, hA9, hrow9⟩ := hl9.some hlt
        clear hG08 hm8 hl8
        (refine CW_seq ?_; refine CW_seq ?_; refine CW_region rfl ?_; refine S_op ?_; refine W_moveInt (by first | rfl | assumption) ?_; refine S_op ?_; refine W_moveSl (by first | rfl | assumption) ?_; refine S_op ?_; refine W_len (by first | rfl | assumption) ?_; refine S_op ?_; refine W_lssF (by first | rfl | assumption) (by first | rfl | assumption) (by omega) ?_; refine S_nil ?_; refine CW_false (by first | rfl | assumption) ?_; refine CW_exit ?_; refine CW_seq ?_; refine CW_region rfl ?_; refine S_op ?_; refine W_moveSl (by first | rfl | assumption) ?_; refine S_op ?_; refine W_moveSl (by first | rfl | assumption) ?_; refine S_op ?_; refine W_moveInt (by first | rfl | assumption) ?_; refine S_op ?_; refine W_index (by first | rfl | assumption) (by first | rfl | assumption) (by first | assumption | omega) (by assumption) ?_; refine S_op ?_; refine W_field (by first | rfl | assumption) ?_; refine S_op ?_; refine W_loadKey (by first | rfl | assumption) (by assumption) (by first | assumption | omega) (by assumption) ?_)
        refine S_op ?_
        refine W_call hS9 (by rfl) (find_c H9 A3 c3 a (ent l i).key hm39 (by omega)) ?_
        rintro v H10 w10 hG10 rfl
        have hG010 := hG09.trans hG10
        have hS10 := hG10.sub
        have hb10 := hG10.le _ _ hb9
        have hm10 := hm39.mono hG10.le
        obtain ⟨b10, off10, hA10, hrow10⟩ := hm10.some hq2
        have hle10 := (hle8.trans hle9).trans hG10.le
        clear hG09 hb9 hm39 hl9 hG10 hS9 hrow9 hA9
        rw [hq1]
        have hst : (ent a (findAt a (ent l i).key)).key = x.key ∧ (ent a (findAt a (ent l i).key)).val = x.val := by rw [hq3]; exact ⟨rfl, rfl⟩
        (refine S_op ?_; refine W_moveTup (by first | rfl | assumption) ?_; refine S_op ?_; refine W_extract (by first | rfl | assumption) (by rfl) ?_; refine S_op ?_; refine W_extract (by first | rfl | assumption) (by rfl) ?_; refine S_op ?_; refine W_assignInt (by first | rfl | assumption) ?_; refine S_op ?_; refine W_assignBool (by first | rfl | assumption) ?_; refine S_nil ?_; refine CW_seq ?_)
        apply CW_region_grow [_, _, _, _, _, _, _, _, _, _, _, _, _, _, _, _] [none, none, none, none, none, none, none, none, none, none, none, none, none, none, none, none] [some 68, some 69, some 70, some 71, some 72, some 73, some 74, some 75, some 76, some 77, some 78, some 79, some 80, some 81, some 82, some 83] [68, 69, 70, 71, 72, 73, 74, 75, 76, 77, 78, 79, 80, 81, 82, 83] mixed rfl rfl rfl rfl (by decide) rfl (by assumption)
        · ((apply steps_cons; case h1 => (apply A_pure; intro c u H' w' hG; have hS' := hG.sub; have hS2' := hG.subOld; (repeat (first | rintro _ rfl | intro v hv)); apply Pure1.mk; intro K hk; exact W_moveBool (by first | rfl | assumption) hk)); (apply steps_cons; case h1 => (apply A_pure; intro c u H' w' hG; have hS' := hG.sub; have hS2' := hG.subOld; (repeat (first | rintro _ rfl | intro v hv)); apply Pure1.mk; intro K hk; exact W_not (by first | rfl | assumption) hk)); (apply steps_cons; case h1 => (apply A_pure; intro c u H' w' hG; have hS' := hG.sub; have hS2' := hG.subOld; (repeat (first | rintro _ rfl | intro v hv)); apply Pure1.mk; intro K hk; exact W_moveBool (by first | rfl | assumption) hk)); (apply steps_cons; case h1 => (apply A_want; intro c u H' w' hG; have hS' := hG.sub; have hS2' := hG.subOld; (repeat (first | rintro _ rfl | intro v hv)); apply Pure2.mk; (case want => rfl); intro K hk; exact W_moveInt (by first | rfl | assumption) hk)); (apply steps_cons; case h1 => (apply A_want; intro c u H' w' hG; have hS' := hG.sub; have hS2' := hG.subOld; (repeat (first | rintro _ rfl | intro v hv)); apply Pure2.mk; (case want => rfl); intro K hk; exact W_moveSl (by first | rfl | assumption) hk)); (apply steps_cons; case h1 => (apply A_want; intro c u H' w' hG; have hS' := hG.sub; have hS2' := hG.subOld; (repeat (first | rintro _ rfl | intro v hv)); apply Pure2.mk; (case want => rfl); intro K hk; exact W_len (by first | rfl | assumption) hk)); (apply steps_cons; case h1 => (apply A_want; intro c u H' w' hG; have hS' := hG.sub; have hS2' := hG.subOld; (repeat (first | rintro _ rfl | intro v hv)); apply Pure2.mk; (case want => rfl); intro K hk; exact W_geqF (by first | rfl | assumption) (by first | rfl | assumption) (by omega) hk)); (apply steps_cons; case h1 => (apply A_pure; intro c u H' w' hG; have hS' := hG.sub; have hS2' := hG.subOld; (repeat (first | rintro _ rfl | intro v hv)); apply Pure1.mk; intro K hk; exact W_pickF (by first | rfl | assumption) (by first | rfl | assumption) hk)); (apply steps_cons; case h1 => (apply A_pure; intro c u H' w' hG; have hS' := hG.sub; have hS2' := hG.subOld; (repeat (first | rintro _ rfl | intro v hv)); apply Pure1.mk; intro K hk; exact W_moveBool (by first | rfl | assumption) hk)); (apply steps_cons; case h1 => (apply A_want; intro c u H' w' hG; have hS' := hG.sub; have hS2' := hG.subOld; (repeat (first | rintro _ rfl | intro v hv)); apply Pure2.mk; (case want => rfl); intro K hk; exact W_moveSl (by first | rfl | assumption) hk)); (apply steps_cons; case h1 => (apply A_want; intro c u H' w' hG; have hS' := hG.sub; have hS2' := hG.subOld; (repeat (first | rintro _ rfl | intro v hv)); apply Pure2.mk; (case want => rfl); intro K hk; exact W_moveInt (by first | rfl | assumption) hk)); (apply steps_cons; case h1 => (apply A_want; intro c u H' w' hG; have hS' := hG.sub; have hS2' := hG.subOld; (repeat (first | rintro _ rfl | intro v hv)); apply Pure2.mk; (case want => rfl); intro K hk; exact W_index (by first | rfl | assumption) (by first | rfl | assumption) (by first | assumption | omega) (by assumption) hk)); (apply steps_cons; case h1 => (apply A_want; intro c u H' w' hG; have hS' := hG.sub; have hS2' := hG.subOld; (repeat (first | rintro _ rfl | intro v hv)); apply Pure2.mk; (case want => rfl); intro K hk; exact W_loadEnt (by first | rfl | assumption) (by assumption) (by first | assumption | omega) (by assumption) hk)); (apply steps_cons; case h1 => (apply A_want; intro c u H' w' hG; have hS' := hG.sub; have hS2' := hG.subOld; (repeat (first | rintro _ rfl | intro v hv)); apply Pure2.mk; (case want => rfl); intro K hk; exact W_loadWhole (by first | rfl | assumption) (by assumption) (by rfl) (by assumption) hk)); (apply steps_cons; case h1 => (apply A_want; intro c u H' w' hG; have hS' := hG.sub; have hS2' := hG.subOld; (repeat (first | rintro _ rfl | intro v hv)); apply Pure2.mk; (case want => rfl); intro K hk; exact W_eneqF (by first | rfl | assumption) (by first | rfl | assumption) (by assumption) hk)); (apply steps_cons; case h1 => (apply A_pure; intro c u H' w' hG; have hS' := hG.sub; have hS2' := hG.subOld; (repeat (first | rintro _ rfl | intro v hv)); apply Pure1.mk; intro K hk; exact W_pickF (by first | rfl | assumption) (by first | rfl | assumption) hk)); exact trivial)
        · intro H11 w11 hG11
          (repeat (first | rintro _ rfl | intro v hv))
          (refine CW_false (by first | rfl | assumption) ?_; refine CW_skip ?_; refine CW_region rfl ?_; refine S_op ?_; refine W_add1 (by first | rfl | assumption) (by omega) ?_; refine S_op ?_; refine W_moveInt (by first | rfl | assumption) ?_; refine S_nil ?_)
          exact ⟨(by repeat (first | exact AgreeOff.over | refine AgreeOff.upd rfl ?_ | refine AgreeOff.over2 rfl ?_)), m - 1, by omega, i + 1, H11, rfl, hle10.trans hG11.le, hG010.trans hG11, by omega, by omega⟩
    · (refine CW_seq ?_; refine CW_region rfl ?_; refine S_op ?_; refine W_lssF (by first | rfl | assumption) (by first | rfl | assumption) (by omega) ?_; refine S_nil ?_; refine CW_seq ?_; refine CW_false (by first | rfl | assumption) ?_; refine CW_exit ?_; refine CW_seq ?_; refine CW_region rfl ?_; refine S_op ?_; refine W_assignBool (by first | rfl | assumption) ?_; refine S_nil ?_; refine CW_ret ?_)
      exact ⟨_, ResW_one (v := .bool _) rfl, H5, hG05, rfl⟩
end Go.Proofs.Ytaimilhkfmpdoaa
