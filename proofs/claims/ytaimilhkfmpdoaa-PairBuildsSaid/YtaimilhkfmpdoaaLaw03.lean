/- The laws of layer 3: awake, few. Conditions: sizes. -/
import Derived.Test.YtaimilhkfmpdoaaPair2
import Derived.Test.YtaimilhkfmpdoaaKey
import Derived.Test.YtaimilhkfmpdoaaOpenEnt
namespace Go.Proofs.Ytaimilhkfmpdoaa
open Go.Proofs Go.RowKit
set_option linter.unusedVariables false
attribute [local irreducible] CW SeqW OpW
set_option maxHeartbeats 4000000
theorem slt_mk (a b : Array UInt8) : slt ⟨a⟩ ⟨b⟩ = Op.bytesLess a.toList b.toList := by simp [slt, ba_toList]
theorem awake_w : withL [⟨⟨#[99]⟩, ⟨#[]⟩⟩] ⟨⟨#[97]⟩, ⟨#[]⟩⟩ = [⟨⟨#[97]⟩, ⟨#[]⟩⟩, ⟨⟨#[99]⟩, ⟨#[]⟩⟩] := by
  have h : slt ⟨#[99]⟩ ⟨#[97]⟩ = false := by rw [slt_mk]; rfl
  have h1 : findAt [⟨⟨#[99]⟩, ⟨#[]⟩⟩] ⟨#[97]⟩ = 0 := by simp [findAt, findLoop, ent, h]
  have h2 : findIs [⟨⟨#[99]⟩, ⟨#[]⟩⟩] ⟨#[97]⟩ = false := by rw [findIs, h1]; simp [ent]
  simp [withL, h1, h2]
theorem awake_f1 : findAt [⟨⟨#[97]⟩, ⟨#[]⟩⟩, ⟨⟨#[99]⟩, ⟨#[]⟩⟩] ⟨#[98]⟩ = 1 := by
  have h : slt ⟨#[99]⟩ ⟨#[98]⟩ = false := by rw [slt_mk]; rfl
  have h2 : slt ⟨#[97]⟩ ⟨#[98]⟩ = true := by rw [slt_mk]; rfl
  simp [findAt, findLoop, ent, h, h2]
theorem awake_f2 : findIs [⟨⟨#[97]⟩, ⟨#[]⟩⟩, ⟨⟨#[99]⟩, ⟨#[]⟩⟩] ⟨#[98]⟩ = false := by
  rw [findIs, awake_f1]; simp [ent]
theorem awake_c (H : HF) : Fn Try.prog 31 [] H fun v _ => v = .bool true := by
  refine Fn_of_CW Try.func31 rfl Try.ntmps31 Try.results31 rfl fun w hS => ?_
  (refine CW_seq ?_; refine CW_region rfl ?_; refine S_op ?_; refine W_assignBool (by first | rfl | assumption) ?_; refine S_nil ?_; refine CW_seq ?_; refine CW_region rfl ?_; refine S_op ?_; refine W_build (by rfl) ?_)
  refine S_op ?_
  refine W_build1 (sz := 2) (v := .agg #[.string ⟨#[99]⟩, .string ⟨#[]⟩]) hS (by omega) (by rfl) (by rfl) ?_
  intro H1 w1 b1 hG1 hb1 _ _
  (refine S_op ?_; refine W_build (by rfl) ?_)
  refine S_op ?_
  refine W_call (vs := [.slice (some ⟨b1, 0, none⟩) 1 1, .agg #[.string ⟨#[97]⟩, .string ⟨#[]⟩]]) hG1.sub (by rfl) (with_c H1 _ _ [⟨⟨#[99]⟩, ⟨#[]⟩⟩] ⟨⟨#[97]⟩, ⟨#[]⟩⟩ (SlAt.of_row hb1) (by simp) (by simp)) ?_
  rintro v H2 w2 hG2 ⟨A, c, rfl, hc, hl⟩
  rw [awake_w] at hl hc ⊢
  obtain ⟨b, off, hA, hrow⟩ := hl.some (by simp : 0 < 2)
  (refine S_op ?_; refine W_assignSl (by first | rfl | assumption) ?_; refine S_nil ?_; refine CW_seq ?_; refine CW_region rfl ?_; refine S_op ?_; refine W_moveSl (by first | rfl | assumption) ?_)
  refine S_op ?_
  refine W_call hG2.sub (by rfl) (find_c H2 _ _ [⟨⟨#[97]⟩, ⟨#[]⟩⟩, ⟨⟨#[99]⟩, ⟨#[]⟩⟩] ⟨#[98]⟩ hl (by simp)) ?_
  rintro v H3 w3 hG3 rfl
  rw [awake_f1, awake_f2]
  have hrow3 := hrow.mono hG3.le
  have hS3 := hG3.sub
  have hq : 0 < [(⟨⟨#[97]⟩, ⟨#[]⟩⟩ : Ent), ⟨⟨#[99]⟩, ⟨#[]⟩⟩].length := by simp
  (refine S_op ?_; refine W_moveTup (by first | rfl | assumption) ?_; refine S_op ?_; refine W_extract (by first | rfl | assumption) (by rfl) ?_; refine S_op ?_; refine W_extract (by first | rfl | assumption) (by rfl) ?_; refine S_op ?_; refine W_assignInt (by first | rfl | assumption) ?_; refine S_op ?_; refine W_assignBool (by first | rfl | assumption) ?_; refine S_nil ?_; refine CW_seq ?_; refine CW_region rfl ?_; refine S_op ?_; refine W_moveSl (by first | rfl | assumption) ?_; refine S_op ?_; refine W_len (by first | rfl | assumption) ?_; refine S_op ?_; refine W_eqlC (by first | rfl | assumption) ?_; refine S_op ?_; refine W_moveBool (by first | rfl | assumption) ?_; refine S_want (by rfl) ?_; refine W_moveSl (by first | rfl | assumption) ?_; refine S_want (by rfl) ?_; refine W_index (by first | rfl | assumption) (by first | rfl | assumption) (by first | assumption | omega) (by assumption) ?_; refine S_want (by rfl) ?_; refine W_field (by first | rfl | assumption) ?_)
  refine S_want (by rfl) ?_
  refine W_loadKey (q := 0) (by rfl) hrow3 hq hS3 ?_
  (refine S_want (by rfl) ?_; refine W_seql (by first | rfl | assumption) (by first | rfl | assumption) ?_; refine S_op ?_; refine W_pickT (by first | rfl | assumption) (by first | rfl | assumption) ?_; refine S_op ?_; refine W_moveBool (by first | rfl | assumption) ?_; refine S_want (by rfl) ?_; refine W_moveInt (by first | rfl | assumption) ?_; refine S_want (by rfl) ?_; refine W_eqlT (by first | rfl | assumption) (by first | rfl | assumption) (by omega) ?_; refine S_op ?_; refine W_pickT (by first | rfl | assumption) (by first | rfl | assumption) ?_; refine S_op ?_; refine W_moveBool (by first | rfl | assumption) ?_; refine S_want (by rfl) ?_; refine W_moveBool (by first | rfl | assumption) ?_; refine S_want (by rfl) ?_; refine W_not (by first | rfl | assumption) ?_; refine S_op ?_; refine W_pickT (by first | rfl | assumption) (by first | rfl | assumption) ?_; refine S_op ?_; refine W_moveBool (by first | rfl | assumption) ?_)
  refine S_want (by rfl) ?_
  refine W_call hS3 (by rfl) (key_c H3 ⟨#[]⟩) ?_
  rintro v H4 w4 hG4 rfl
  (refine S_want (by rfl) ?_; refine W_eqlC (by first | rfl | assumption) ?_; refine S_op ?_; refine W_pickT (by first | rfl | assumption) (by first | rfl | assumption) ?_; refine S_op ?_; refine W_assignBool (by first | rfl | assumption) ?_; refine S_nil ?_; refine CW_ret ?_)
  exact ⟨_, ResW_one (v := .bool _) rfl, H4, ((hG1.trans hG2).trans hG3).trans hG4, rfl⟩
def sizeOk (e : Ent) : Bool := decide (e.key.size + e.val.size ≤ 2000)
def fewB (l : List Ent) : Bool := decide (l.length ≤ 300) && l.all sizeOk

theorem ent_mem {l : List Ent} {i : Nat} (h : i < l.length) : ent l i ∈ l := by simp [ent, h]
theorem few_c (H : HF) (A : Option Addr) (c : Nat) (l : List Ent) (hl : EntsAt H A l) (hb : l.length ≤ 100000000000000) (hs : Small l) :
    Fn Try.prog 32 [.slice A l.length c] H fun v _ => v = .bool (fewB l) := by
  refine Fn_of_CW Try.func32 rfl Try.ntmps32 Try.results32 rfl fun w hS => ?_
  by_cases h3 : 300 < l.length
  · (refine CW_seq ?_; refine CW_region rfl ?_; refine S_op ?_; refine W_assignBool (by first | rfl | assumption) ?_; refine S_nil ?_; refine CW_seq ?_; refine CW_seq ?_; refine CW_region rfl ?_; refine S_op ?_; refine W_moveSl (by first | rfl | assumption) ?_; refine S_op ?_; refine W_len (by first | rfl | assumption) ?_; refine S_op ?_; refine W_gtrT (by first | rfl | assumption) (by first | rfl | assumption) (by omega) ?_; refine S_nil ?_; refine CW_true (by first | rfl | assumption) ?_; refine CW_seq ?_; refine CW_region rfl ?_; refine S_op ?_; refine W_assignBool (by first | rfl | assumption) ?_; refine S_nil ?_; refine CW_ret ?_)
    exact ⟨_, ResW_one (v := .bool _) rfl, H, Grow.refl hS, by simp [fewB]; omega⟩
  · have hf0 : fewB l = (l.drop 0).all sizeOk := by simp [fewB]; omega
    (refine CW_seq ?_; refine CW_region rfl ?_; refine S_op ?_; refine W_assignBool (by first | rfl | assumption) ?_; refine S_nil ?_; refine CW_seq ?_; refine CW_seq ?_; refine CW_region rfl ?_; refine S_op ?_; refine W_moveSl (by first | rfl | assumption) ?_; refine S_op ?_; refine W_len (by first | rfl | assumption) ?_; refine S_op ?_; refine W_gtrF (by first | rfl | assumption) (by first | rfl | assumption) (by omega) ?_; refine S_nil ?_; refine CW_false (by first | rfl | assumption) ?_; refine CW_skip ?_; refine CW_seq ?_; refine CW_seq ?_; refine CW_region rfl ?_; refine S_op ?_; refine W_moveSl (by first | rfl | assumption) ?_; refine S_op ?_; refine W_len (by first | rfl | assumption) ?_; refine S_op ?_; refine W_moveInt (by first | rfl | assumption) ?_; refine S_nil ?_; refine CW_block ?_)
    refine CW_loopM [2, 3, 9, 10, 11, 12, 13, 14, 15, 16, 17, 18, 19, 20, 21, 22, 23, 24, 25, 26]
      (fun m u w2 => ∃ (i : Nat) (H2 : HF), u 9 = .int .i64 (i : Int) ∧ Grow H w H2 w2 ∧ i ≤ l.length ∧ l.length - i ≤ m ∧ fewB l = (l.drop i).all sizeOk)
      (m := l.length) ⟨0, H, rfl, Grow.refl hS, by omega, by omega, hf0⟩ ?_
    rintro m u w2 ⟨i, H2, h9, hG2, hi, hm, hf⟩
    have hS2 := hG2.sub
    have hl2 := hl.mono hG2.le
    clear hf0
    by_cases hlt : i < l.length
    · obtain ⟨b, off, hA, hrow⟩ := hl2.some hlt
      rw [ent_drop hlt, List.all_cons] at hf
      obtain ⟨hs1, hs2⟩ := hs _ (ent_mem hlt)
      simp only [reachBytes] at hs1 hs2
      by_cases hbig : 2000 < (ent l i).key.size + (ent l i).val.size
      · have hz : sizeOk (ent l i) = false := by simp [sizeOk]; omega
        rw [hz, Bool.false_and] at hf
        (refine CW_seq ?_; refine CW_region rfl ?_; refine S_op ?_; refine W_lssT (by first | rfl | assumption) (by first | rfl | assumption) (by omega) ?_; refine S_nil ?_; refine CW_seq ?_; refine CW_true (by first | rfl | assumption) ?_; refine CW_skip ?_; refine CW_seq ?_; refine CW_block ?_; refine CW_seq ?_; refine CW_region rfl ?_; refine S_op ?_; refine W_moveInt (by first | rfl | assumption) ?_; refine S_op ?_; refine W_assignInt (by first | rfl | assumption) ?_; refine S_nil ?_; refine CW_seq ?_)
        apply CW_region_grow [_, _, _, _, _, _, _, _, _, _, _, _, _, _] [none, none, none, none, none, none, none, none, none, none, none, none, none, none] [some 12, some 13, some 14, some 15, some 16, some 17, some 18, some 19, some 20, some 21, some 22, some 23, some 24, some 25] [12, 13, 14, 15, 16, 17, 18, 19, 20, 21, 22, 23, 24, 25] mixed rfl rfl rfl rfl (by decide) rfl (by assumption)
        · ((apply steps_cons; case h1 => (apply A_pure; intro c u H' w' hG; have hS' := hG.sub; have hS2' := hG.subOld; (repeat (first | rintro _ rfl | intro v hv)); apply Pure1.mk; intro K hk; exact W_moveSl (by first | rfl | assumption) hk)); (apply steps_cons; case h1 => (apply A_pure; intro c u H' w' hG; have hS' := hG.sub; have hS2' := hG.subOld; (repeat (first | rintro _ rfl | intro v hv)); apply Pure1.mk; intro K hk; exact W_moveInt (by first | rfl | assumption) hk)); (apply steps_cons; case h1 => (apply A_pure; intro c u H' w' hG; have hS' := hG.sub; have hS2' := hG.subOld; (repeat (first | rintro _ rfl | intro v hv)); apply Pure1.mk; intro K hk; exact W_index (by first | rfl | assumption) (by first | rfl | assumption) (by first | assumption | omega) (by assumption) hk)); (apply steps_cons; case h1 => (apply A_pure; intro c u H' w' hG; have hS' := hG.sub; have hS2' := hG.subOld; (repeat (first | rintro _ rfl | intro v hv)); apply Pure1.mk; intro K hk; exact W_field (by first | rfl | assumption) hk)); (apply steps_cons; case h1 => (apply A_pure; intro c u H' w' hG; have hS' := hG.sub; have hS2' := hG.subOld; (repeat (first | rintro _ rfl | intro v hv)); apply Pure1.mk; intro K hk; exact W_loadKey (by first | rfl | assumption) (by assumption) (by first | assumption | omega) (by assumption) hk)); (apply steps_cons; case h1 => (apply A_pure; intro c u H' w' hG; have hS' := hG.sub; have hS2' := hG.subOld; (repeat (first | rintro _ rfl | intro v hv)); apply Pure1.mk; intro K hk; exact W_lenS (by first | rfl | assumption) hk)); (apply steps_cons; case h1 => (apply A_pure; intro c u H' w' hG; have hS' := hG.sub; have hS2' := hG.subOld; (repeat (first | rintro _ rfl | intro v hv)); apply Pure1.mk; intro K hk; exact W_moveSl (by first | rfl | assumption) hk)); (apply steps_cons; case h1 => (apply A_pure; intro c u H' w' hG; have hS' := hG.sub; have hS2' := hG.subOld; (repeat (first | rintro _ rfl | intro v hv)); apply Pure1.mk; intro K hk; exact W_moveInt (by first | rfl | assumption) hk)); (apply steps_cons; case h1 => (apply A_pure; intro c u H' w' hG; have hS' := hG.sub; have hS2' := hG.subOld; (repeat (first | rintro _ rfl | intro v hv)); apply Pure1.mk; intro K hk; exact W_index (by first | rfl | assumption) (by first | rfl | assumption) (by first | assumption | omega) (by assumption) hk)); (apply steps_cons; case h1 => (apply A_pure; intro c u H' w' hG; have hS' := hG.sub; have hS2' := hG.subOld; (repeat (first | rintro _ rfl | intro v hv)); apply Pure1.mk; intro K hk; exact W_field (by first | rfl | assumption) hk)); (apply steps_cons; case h1 => (apply A_pure; intro c u H' w' hG; have hS' := hG.sub; have hS2' := hG.subOld; (repeat (first | rintro _ rfl | intro v hv)); apply Pure1.mk; intro K hk; exact W_loadVal (by first | rfl | assumption) (by assumption) (by first | assumption | omega) (by assumption) hk)); (apply steps_cons; case h1 => (apply A_pure; intro c u H' w' hG; have hS' := hG.sub; have hS2' := hG.subOld; (repeat (first | rintro _ rfl | intro v hv)); apply Pure1.mk; intro K hk; exact W_lenS (by first | rfl | assumption) hk)); (apply steps_cons; case h1 => (apply A_pure; intro c u H' w' hG; have hS' := hG.sub; have hS2' := hG.subOld; (repeat (first | rintro _ rfl | intro v hv)); apply Pure1.mk; intro K hk; exact W_addN (by first | rfl | assumption) (by first | rfl | assumption) (by omega) hk)); (apply steps_cons; case h1 => (apply A_pure; intro c u H' w' hG; have hS' := hG.sub; have hS2' := hG.subOld; (repeat (first | rintro _ rfl | intro v hv)); apply Pure1.mk; intro K hk; exact W_gtrT (by first | rfl | assumption) (by first | rfl | assumption) (by omega) hk)); exact trivial)
        · (intro H' w' hG; (repeat (rintro _ rfl)))
          (refine CW_true (by first | rfl | assumption) ?_; refine CW_seq ?_; refine CW_region rfl ?_; refine S_op ?_; refine W_assignBool (by first | rfl | assumption) ?_; refine S_nil ?_; refine CW_ret ?_)
          exact ⟨_, ResW_one (v := .bool _) rfl, _, hG2.trans (by assumption), by rw [hf]⟩
      · have hz : sizeOk (ent l i) = true := by simp [sizeOk]; omega
        rw [hz, Bool.true_and] at hf
        (refine CW_seq ?_; refine CW_region rfl ?_; refine S_op ?_; refine W_lssT (by first | rfl | assumption) (by first | rfl | assumption) (by omega) ?_; refine S_nil ?_; refine CW_seq ?_; refine CW_true (by first | rfl | assumption) ?_; refine CW_skip ?_; refine CW_seq ?_; refine CW_block ?_; refine CW_seq ?_; refine CW_region rfl ?_; refine S_op ?_; refine W_moveInt (by first | rfl | assumption) ?_; refine S_op ?_; refine W_assignInt (by first | rfl | assumption) ?_; refine S_nil ?_; refine CW_seq ?_)
        apply CW_region_grow [_, _, _, _, _, _, _, _, _, _, _, _, _, _] [none, none, none, none, none, none, none, none, none, none, none, none, none, none] [some 12, some 13, some 14, some 15, some 16, some 17, some 18, some 19, some 20, some 21, some 22, some 23, some 24, some 25] [12, 13, 14, 15, 16, 17, 18, 19, 20, 21, 22, 23, 24, 25] mixed rfl rfl rfl rfl (by decide) rfl (by assumption)
        · ((apply steps_cons; case h1 => (apply A_pure; intro c u H' w' hG; have hS' := hG.sub; have hS2' := hG.subOld; (repeat (first | rintro _ rfl | intro v hv)); apply Pure1.mk; intro K hk; exact W_moveSl (by first | rfl | assumption) hk)); (apply steps_cons; case h1 => (apply A_pure; intro c u H' w' hG; have hS' := hG.sub; have hS2' := hG.subOld; (repeat (first | rintro _ rfl | intro v hv)); apply Pure1.mk; intro K hk; exact W_moveInt (by first | rfl | assumption) hk)); (apply steps_cons; case h1 => (apply A_pure; intro c u H' w' hG; have hS' := hG.sub; have hS2' := hG.subOld; (repeat (first | rintro _ rfl | intro v hv)); apply Pure1.mk; intro K hk; exact W_index (by first | rfl | assumption) (by first | rfl | assumption) (by first | assumption | omega) (by assumption) hk)); (apply steps_cons; case h1 => (apply A_pure; intro c u H' w' hG; have hS' := hG.sub; have hS2' := hG.subOld; (repeat (first | rintro _ rfl | intro v hv)); apply Pure1.mk; intro K hk; exact W_field (by first | rfl | assumption) hk)); (apply steps_cons; case h1 => (apply A_pure; intro c u H' w' hG; have hS' := hG.sub; have hS2' := hG.subOld; (repeat (first | rintro _ rfl | intro v hv)); apply Pure1.mk; intro K hk; exact W_loadKey (by first | rfl | assumption) (by assumption) (by first | assumption | omega) (by assumption) hk)); (apply steps_cons; case h1 => (apply A_pure; intro c u H' w' hG; have hS' := hG.sub; have hS2' := hG.subOld; (repeat (first | rintro _ rfl | intro v hv)); apply Pure1.mk; intro K hk; exact W_lenS (by first | rfl | assumption) hk)); (apply steps_cons; case h1 => (apply A_pure; intro c u H' w' hG; have hS' := hG.sub; have hS2' := hG.subOld; (repeat (first | rintro _ rfl | intro v hv)); apply Pure1.mk; intro K hk; exact W_moveSl (by first | rfl | assumption) hk)); (apply steps_cons; case h1 => (apply A_pure; intro c u H' w' hG; have hS' := hG.sub; have hS2' := hG.subOld; (repeat (first | rintro _ rfl | intro v hv)); apply Pure1.mk; intro K hk; exact W_moveInt (by first | rfl | assumption) hk)); (apply steps_cons; case h1 => (apply A_pure; intro c u H' w' hG; have hS' := hG.sub; have hS2' := hG.subOld; (repeat (first | rintro _ rfl | intro v hv)); apply Pure1.mk; intro K hk; exact W_index (by first | rfl | assumption) (by first | rfl | assumption) (by first | assumption | omega) (by assumption) hk)); (apply steps_cons; case h1 => (apply A_pure; intro c u H' w' hG; have hS' := hG.sub; have hS2' := hG.subOld; (repeat (first | rintro _ rfl | intro v hv)); apply Pure1.mk; intro K hk; exact W_field (by first | rfl | assumption) hk)); (apply steps_cons; case h1 => (apply A_pure; intro c u H' w' hG; have hS' := hG.sub; have hS2' := hG.subOld; (repeat (first | rintro _ rfl | intro v hv)); apply Pure1.mk; intro K hk; exact W_loadVal (by first | rfl | assumption) (by assumption) (by first | assumption | omega) (by assumption) hk)); (apply steps_cons; case h1 => (apply A_pure; intro c u H' w' hG; have hS' := hG.sub; have hS2' := hG.subOld; (repeat (first | rintro _ rfl | intro v hv)); apply Pure1.mk; intro K hk; exact W_lenS (by first | rfl | assumption) hk)); (apply steps_cons; case h1 => (apply A_pure; intro c u H' w' hG; have hS' := hG.sub; have hS2' := hG.subOld; (repeat (first | rintro _ rfl | intro v hv)); apply Pure1.mk; intro K hk; exact W_addN (by first | rfl | assumption) (by first | rfl | assumption) (by omega) hk)); (apply steps_cons; case h1 => (apply A_pure; intro c u H' w' hG; have hS' := hG.sub; have hS2' := hG.subOld; (repeat (first | rintro _ rfl | intro v hv)); apply Pure1.mk; intro K hk; exact W_gtrF (by first | rfl | assumption) (by first | rfl | assumption) (by omega) hk)); exact trivial)
        · (intro H' w' hG; (repeat (rintro _ rfl)))
          (refine CW_false (by first | rfl | assumption) ?_; refine CW_skip ?_; refine CW_region rfl ?_; refine S_op ?_; refine W_add1 (by first | rfl | assumption) (by omega) ?_; refine S_op ?_; refine W_moveInt (by first | rfl | assumption) ?_; refine S_nil ?_)
          exact ⟨(by repeat (first | exact AgreeOff.over | refine AgreeOff.upd rfl ?_ | refine AgreeOff.over2 rfl ?_)), m - 1, by omega, i + 1, _, rfl, hG2.trans (by assumption), by omega, by omega, hf⟩
    · rw [List.drop_eq_nil_of_le (by omega), List.all_nil] at hf
      (refine CW_seq ?_; refine CW_region rfl ?_; refine S_op ?_; refine W_lssF (by first | rfl | assumption) (by first | rfl | assumption) (by omega) ?_; refine S_nil ?_; refine CW_seq ?_; refine CW_false (by first | rfl | assumption) ?_; refine CW_exit ?_; refine CW_seq ?_; refine CW_region rfl ?_; refine S_op ?_; refine W_assignBool (by first | rfl | assumption) ?_; refine S_nil ?_; refine CW_ret ?_)
      exact ⟨_, ResW_one (v := .bool _) rfl, H2, hG2, by rw [hf]⟩
end Go.Proofs.Ytaimilhkfmpdoaa
