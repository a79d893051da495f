/- The methods of a node, walked. Conditions: sizes. -/
import Derived.Test.YtgaabmoknpifnaaNode
import Derived.Test.YtgaabmoknpifnaaLibNode
import Derived.Test.YtgaabmoknpifnaaLibEnt
import Derived.Test.YtgaabmoknpifnaaSame
import Derived.Test.YtgaabmoknpifnaaMemBase
namespace Go.Proofs.Ytgaabmoknpifnaa
open Go.Proofs Go.RowKit
set_option linter.unusedVariables false
attribute [local irreducible] CW SeqW OpW
set_option maxHeartbeats 4000000
section
variable {H : HF} {b : Nat} {A : Option Addr} {n c : Nat} {B : Option Addr} {m d ht : Nat} {lo hi : ByteArray}
theorem height_raw (hr : Raw H b A n c B m d ht lo hi) : Fn Try.prog 71 [.pointer (some ⟨b, 0, none⟩)] H fun v _ => v = .int .i64 (ht : Int) := by
  refine Fn_of_CW Try.func71 rfl Try.ntmps71 Try.results71 rfl fun w hS => ?_; have hG := Grow.refl hS; have hS0 := hS
  obtain ⟨E, hb⟩ := hr
  (refine CW_seq ?_; refine CW_region rfl ?_; refine S_op ?_; refine W_assignInt (by first | rfl | assumption) ?_; refine S_nil ?_; refine CW_seq ?_; refine CW_seq ?_; refine CW_region rfl ?_; refine S_op ?_; refine W_movePtr (by first | rfl | assumption) ?_; refine S_op ?_; refine W_peqnil (by first | rfl | assumption) (by first | rfl | assumption) ?_; refine S_nil ?_; refine CW_false (by first | rfl | assumption) ?_; refine CW_skip ?_; refine CW_seq ?_; refine CW_region rfl ?_; refine S_op ?_; refine W_movePtr (by first | rfl | assumption) ?_; refine S_op ?_; refine W_nilCheck (by first | rfl | assumption) ?_; refine S_op ?_; refine W_field (by first | rfl | assumption) ?_; refine S_op ?_; refine W_loadHL (by first | rfl | assumption) (by assumption) (by rfl) (by assumption) ?_; refine S_op ?_; refine W_assignInt (by first | rfl | assumption) ?_; refine S_nil ?_; refine CW_ret ?_)
  exact ⟨_, ResW_one (v := .int _ _) rfl, H, hG, rfl⟩
theorem height_nil : Fn Try.prog 71 [.pointer none] H fun v _ => v = .int .i64 0 := by
  refine Fn_of_CW Try.func71 rfl Try.ntmps71 Try.results71 rfl fun w hS => ?_; have hG := Grow.refl hS; have hS0 := hS
  (refine CW_seq ?_; refine CW_region rfl ?_; refine S_op ?_; refine W_assignInt (by first | rfl | assumption) ?_; refine S_nil ?_; refine CW_seq ?_; refine CW_seq ?_; refine CW_region rfl ?_; refine S_op ?_; refine W_movePtr (by first | rfl | assumption) ?_; refine S_op ?_; refine W_peqnil (by first | rfl | assumption) (by first | rfl | assumption) ?_; refine S_nil ?_; refine CW_true (by first | rfl | assumption) ?_; refine CW_seq ?_; refine CW_region rfl ?_; refine S_op ?_; refine W_assignInt (by first | rfl | assumption) ?_; refine S_nil ?_; refine CW_ret ?_)
  exact ⟨_, ResW_one (v := .int _ _) rfl, H, hG, rfl⟩
theorem ends_raw (hr : Raw H b A n c B m d ht lo hi) : Fn Try.prog 64 [.pointer (some ⟨b, 0, none⟩)] H fun v _ => v = .tuple #[.string lo, .string hi] := by
  refine Fn_of_CW Try.func64 rfl Try.ntmps64 Try.results64 rfl fun w hS => ?_; have hG := Grow.refl hS; have hS0 := hS
  obtain ⟨E, hb⟩ := hr
  (refine CW_seq ?_; refine CW_region rfl ?_; refine S_op ?_; refine W_assignStr (by first | rfl | assumption) ?_; refine S_op ?_; refine W_assignStr (by first | rfl | assumption) ?_; refine S_nil ?_; refine CW_seq ?_; refine CW_seq ?_; refine CW_region rfl ?_; refine S_op ?_; refine W_movePtr (by first | rfl | assumption) ?_; refine S_op ?_; refine W_peqnil (by first | rfl | assumption) (by first | rfl | assumption) ?_; refine S_nil ?_; refine CW_false (by first | rfl | assumption) ?_; refine CW_skip ?_; refine CW_seq ?_)
  apply CW_region_grow [_, _, _, _, _, _, _, _, _, _] [none, none, none, none, none, none, none, none, none, none] [some 6, some 7, some 8, some 9, some 10, some 11, some 12, some 13, some 2, some 3] [6, 7, 8, 9, 10, 11, 12, 13, 2, 3] mixed rfl rfl rfl rfl (by decide) rfl (by assumption)
  · ((apply steps_cons; case h1 => (apply A_pure; intro c u H' w' hG; have hS' := hG.sub; have hS2' := hG.subOld; (repeat (first | refine depGo_eq rfl rfl rfl ?_ | (refine depGo_fact rfl rfl rfl ?_; intro v hv) | refine depGo_skip rfl ?_ | refine depGo_none rfl ?_)); apply Pure1.mk; intro K hk; exact W_movePtr (by first | rfl | assumption) hk)); (apply steps_cons; case h1 => (apply A_pure; intro c u H' w' hG; have hS' := hG.sub; have hS2' := hG.subOld; (repeat (first | refine depGo_eq rfl rfl rfl ?_ | (refine depGo_fact rfl rfl rfl ?_; intro v hv) | refine depGo_skip rfl ?_ | refine depGo_none rfl ?_)); apply Pure1.mk; intro K hk; exact W_nilCheck (by first | rfl | assumption) hk)); (apply steps_cons; case h1 => (apply A_pure; intro c u H' w' hG; have hS' := hG.sub; have hS2' := hG.subOld; (repeat (first | refine depGo_eq rfl rfl rfl ?_ | (refine depGo_fact rfl rfl rfl ?_; intro v hv) | refine depGo_skip rfl ?_ | refine depGo_none rfl ?_)); apply Pure1.mk; intro K hk; exact W_field (by first | rfl | assumption) hk)); (apply steps_cons; case h1 => (apply A_pure; intro c u H' w' hG; have hS' := hG.sub; have hS2' := hG.subOld; (repeat (first | refine depGo_eq rfl rfl rfl ?_ | (refine depGo_fact rfl rfl rfl ?_; intro v hv) | refine depGo_skip rfl ?_ | refine depGo_none rfl ?_)); apply Pure1.mk; intro K hk; exact W_loadHL (by first | rfl | assumption) (by assumption) (by rfl) (by assumption) hk)); (apply steps_cons; case h1 => (apply A_pure; intro c u H' w' hG; have hS' := hG.sub; have hS2' := hG.subOld; (repeat (first | refine depGo_eq rfl rfl rfl ?_ | (refine depGo_fact rfl rfl rfl ?_; intro v hv) | refine depGo_skip rfl ?_ | refine depGo_none rfl ?_)); apply Pure1.mk; intro K hk; exact W_movePtr (by first | rfl | assumption) hk)); (apply steps_cons; case h1 => (apply A_pure; intro c u H' w' hG; have hS' := hG.sub; have hS2' := hG.subOld; (repeat (first | refine depGo_eq rfl rfl rfl ?_ | (refine depGo_fact rfl rfl rfl ?_; intro v hv) | refine depGo_skip rfl ?_ | refine depGo_none rfl ?_)); apply Pure1.mk; intro K hk; exact W_nilCheck (by first | rfl | assumption) hk)); (apply steps_cons; case h1 => (apply A_pure; intro c u H' w' hG; have hS' := hG.sub; have hS2' := hG.subOld; (repeat (first | refine depGo_eq rfl rfl rfl ?_ | (refine depGo_fact rfl rfl rfl ?_; intro v hv) | refine depGo_skip rfl ?_ | refine depGo_none rfl ?_)); apply Pure1.mk; intro K hk; exact W_field (by first | rfl | assumption) hk)); (apply steps_cons; case h1 => (apply A_pure; intro c u H' w' hG; have hS' := hG.sub; have hS2' := hG.subOld; (repeat (first | refine depGo_eq rfl rfl rfl ?_ | (refine depGo_fact rfl rfl rfl ?_; intro v hv) | refine depGo_skip rfl ?_ | refine depGo_none rfl ?_)); apply Pure1.mk; intro K hk; exact W_loadHL (by first | rfl | assumption) (by assumption) (by rfl) (by assumption) hk)); (apply steps_cons; case h1 => (apply A_pure; intro c u H' w' hG; have hS' := hG.sub; have hS2' := hG.subOld; (repeat (first | refine depGo_eq rfl rfl rfl ?_ | (refine depGo_fact rfl rfl rfl ?_; intro v hv) | refine depGo_skip rfl ?_ | refine depGo_none rfl ?_)); apply Pure1.mk; intro K hk; exact W_assignStr (by first | rfl | assumption) hk)); (apply steps_cons; case h1 => (apply A_pure; intro c u H' w' hG; have hS' := hG.sub; have hS2' := hG.subOld; (repeat (first | refine depGo_eq rfl rfl rfl ?_ | (refine depGo_fact rfl rfl rfl ?_; intro v hv) | refine depGo_skip rfl ?_ | refine depGo_none rfl ?_)); apply Pure1.mk; intro K hk; exact W_assignStr (by first | rfl | assumption) hk)); exact trivial)
  · (intro H' w' hG; (repeat (first | refine fin_eq rfl rfl ?_ | (refine fin_fact rfl ?_; intro v hv) | refine fin_none rfl ?_)); refine fin_nil ?_)
    (refine CW_ret ?_)
    exact ⟨_, ResW_two (v1 := .string _) (v2 := .string _) rfl rfl, _, by assumption, rfl⟩
theorem ends_nil : Fn Try.prog 64 [.pointer none] H fun v _ => v = .tuple #[.string ⟨#[]⟩, .string ⟨#[]⟩] := by
  refine Fn_of_CW Try.func64 rfl Try.ntmps64 Try.results64 rfl fun w hS => ?_; have hG := Grow.refl hS; have hS0 := hS
  (refine CW_seq ?_; refine CW_region rfl ?_; refine S_op ?_; refine W_assignStr (by first | rfl | assumption) ?_; refine S_op ?_; refine W_assignStr (by first | rfl | assumption) ?_; refine S_nil ?_; refine CW_seq ?_; refine CW_seq ?_; refine CW_region rfl ?_; refine S_op ?_; refine W_movePtr (by first | rfl | assumption) ?_; refine S_op ?_; refine W_peqnil (by first | rfl | assumption) (by first | rfl | assumption) ?_; refine S_nil ?_; refine CW_true (by first | rfl | assumption) ?_; refine CW_seq ?_; refine CW_region rfl ?_; refine S_op ?_; refine W_assignStr (by first | rfl | assumption) ?_; refine S_op ?_; refine W_assignStr (by first | rfl | assumption) ?_; refine S_nil ?_; refine CW_ret ?_)
  exact ⟨_, ResW_two (v1 := .string _) (v2 := .string _) rfl rfl, H, hG, rfl⟩
theorem entriesN_raw {l : List Ent} (hr : Raw H b A l.length c B m d ht lo hi) (hc : l.length ≤ c) (hl : EntsAt H A l) (hn : l.length ≤ 1000000) : Fn Try.prog 65 [.pointer (some ⟨b, 0, none⟩)] H fun v H' => IsNew H 32 2 v l.length (entCells l) H' := by
  refine Fn_of_CW Try.func65 rfl Try.ntmps65 Try.results65 rfl fun w hS => ?_; have hG := Grow.refl hS; have hS0 := hS
  obtain ⟨E, hb⟩ := hr
  (refine CW_seq ?_; refine CW_region rfl ?_; refine S_op ?_; refine W_assignSl (by first | rfl | assumption) ?_; refine S_nil ?_; refine CW_seq ?_; refine CW_seq ?_; refine CW_region rfl ?_; refine S_op ?_; refine W_movePtr (by first | rfl | assumption) ?_; refine S_op ?_; refine W_peqnil (by first | rfl | assumption) (by first | rfl | assumption) ?_; refine S_nil ?_; refine CW_false (by first | rfl | assumption) ?_; refine CW_skip ?_; refine CW_seq ?_; refine CW_region rfl ?_; refine S_op ?_; refine W_movePtr (by first | rfl | assumption) ?_; refine S_op ?_; refine W_nilCheck (by first | rfl | assumption) ?_; refine S_op ?_; refine W_field (by first | rfl | assumption) ?_; refine S_op ?_; refine W_loadHL (by first | rfl | assumption) (by assumption) (by rfl) (by assumption) ?_)
  have hle := hG.le
  (refine S_op ?_; refine W_call hS (by rfl) (cloneN_Ent H A l.length c (entCells l) hl (entCells_length l) (entCells_one l) (by omega) hc) ?_); rintro v H w hG' hv; replace hG := hG.trans hG'; replace hS := hG'.sub; clear hG'
  replace hv := hv.old hle
  obtain ⟨A', c', rfl, hr⟩ := id hv
  (refine S_op ?_; refine W_assignSl (by first | rfl | assumption) ?_; refine S_nil ?_; refine CW_ret ?_)
  exact ⟨_, ResW_one (v := .slice _ _ _) rfl, H, hG, hv⟩
theorem entries_raw {l : List Ent} (hr : Raw H b A l.length c B m d ht lo hi) (hc : l.length ≤ c) (hl : EntsAt H A l) (hn : l.length ≤ 1000000) : Fn Try.prog 65 [.pointer (some ⟨b, 0, none⟩)] H fun v H' => IsEnts v l H' :=
  (entriesN_raw hr hc hl hn).mono fun v H' _ h => h.sl.ents
theorem entries_nil : Fn Try.prog 65 [.pointer none] H fun v H' => v = .slice none 0 0 := by
  refine Fn_of_CW Try.func65 rfl Try.ntmps65 Try.results65 rfl fun w hS => ?_; have hG := Grow.refl hS; have hS0 := hS
  (refine CW_seq ?_; refine CW_region rfl ?_; refine S_op ?_; refine W_assignSl (by first | rfl | assumption) ?_; refine S_nil ?_; refine CW_seq ?_; refine CW_seq ?_; refine CW_region rfl ?_; refine S_op ?_; refine W_movePtr (by first | rfl | assumption) ?_; refine S_op ?_; refine W_peqnil (by first | rfl | assumption) (by first | rfl | assumption) ?_; refine S_nil ?_; refine CW_true (by first | rfl | assumption) ?_; refine CW_seq ?_; refine CW_region rfl ?_; refine S_op ?_; refine W_assignSl (by first | rfl | assumption) ?_; refine S_nil ?_; refine CW_ret ?_)
  exact ⟨_, ResW_one (v := .slice _ _ _) rfl, H, hG, rfl⟩
theorem kidsN_raw {vs : List Value} (hr : Raw H b A n c B vs.length d ht lo hi) (hd : vs.length ≤ d) (hl : SlAt H B vs) (h1 : OneCells vs) (hn : vs.length ≤ 1000000) : Fn Try.prog 66 [.pointer (some ⟨b, 0, none⟩)] H fun v H' => IsNew H 24 1 v vs.length vs H' := by
  refine Fn_of_CW Try.func66 rfl Try.ntmps66 Try.results66 rfl fun w hS => ?_; have hG := Grow.refl hS; have hS0 := hS
  obtain ⟨E, hb⟩ := hr
  (refine CW_seq ?_; refine CW_region rfl ?_; refine S_op ?_; refine W_assignSl (by first | rfl | assumption) ?_; refine S_nil ?_; refine CW_seq ?_; refine CW_seq ?_; refine CW_region rfl ?_; refine S_op ?_; refine W_movePtr (by first | rfl | assumption) ?_; refine S_op ?_; refine W_peqnil (by first | rfl | assumption) (by first | rfl | assumption) ?_; refine S_nil ?_; refine CW_false (by first | rfl | assumption) ?_; refine CW_skip ?_; refine CW_seq ?_; refine CW_region rfl ?_; refine S_op ?_; refine W_movePtr (by first | rfl | assumption) ?_; refine S_op ?_; refine W_nilCheck (by first | rfl | assumption) ?_; refine S_op ?_; refine W_field (by first | rfl | assumption) ?_; refine S_op ?_; refine W_loadHL (by first | rfl | assumption) (by assumption) (by rfl) (by assumption) ?_)
  have hle := hG.le
  (refine S_op ?_; refine W_call hS (by rfl) (cloneN_Node H B vs.length d vs hl (by omega) h1 (by omega) hd) ?_); rintro v H w hG' hv; replace hG := hG.trans hG'; replace hS := hG'.sub; clear hG'
  replace hv := hv.old hle
  obtain ⟨A', c', rfl, hr⟩ := id hv
  (refine S_op ?_; refine W_assignSl (by first | rfl | assumption) ?_; refine S_nil ?_; refine CW_ret ?_)
  exact ⟨_, ResW_one (v := .slice _ _ _) rfl, H, hG, hv⟩
theorem kids_raw {vs : List Value} (hr : Raw H b A n c B vs.length d ht lo hi) (hd : vs.length ≤ d) (hl : SlAt H B vs) (h1 : OneCells vs) (hn : vs.length ≤ 1000000) : Fn Try.prog 66 [.pointer (some ⟨b, 0, none⟩)] H fun v H' => IsSl 1 v vs.length vs H' :=
  (kidsN_raw hr hd hl h1 hn).mono fun v H' _ h => h.sl
theorem kids_nil : Fn Try.prog 66 [.pointer none] H fun v H' => v = .slice none 0 0 := by
  refine Fn_of_CW Try.func66 rfl Try.ntmps66 Try.results66 rfl fun w hS => ?_; have hG := Grow.refl hS; have hS0 := hS
  (refine CW_seq ?_; refine CW_region rfl ?_; refine S_op ?_; refine W_assignSl (by first | rfl | assumption) ?_; refine S_nil ?_; refine CW_seq ?_; refine CW_seq ?_; refine CW_region rfl ?_; refine S_op ?_; refine W_movePtr (by first | rfl | assumption) ?_; refine S_op ?_; refine W_peqnil (by first | rfl | assumption) (by first | rfl | assumption) ?_; refine S_nil ?_; refine CW_true (by first | rfl | assumption) ?_; refine CW_seq ?_; refine CW_region rfl ?_; refine S_op ?_; refine W_assignSl (by first | rfl | assumption) ?_; refine S_nil ?_; refine CW_ret ?_)
  exact ⟨_, ResW_one (v := .slice _ _ _) rfl, H, hG, rfl⟩
end
/-! ### slices.IndexFunc, slices.ContainsFunc -/
theorem indexFunc_Ent {k : FuncId} [FnCall Try.prog k] (p : Ent → Bool) (H : HF) (A : Option Addr) (c : Nat) (l : List Ent) (hl : EntsAt H A l) (hb : l.length ≤ 1000000)
    (hk : ∀ H', HLe H H' → ∀ e, Fn Try.prog k [.agg #[.string e.key, .string e.val]] H' fun v _ => v = .bool (p e)) :
    Fn Try.prog 96 [.slice A l.length c, .func (.func k) #[] #[]] H fun v _ => ∃ q : Int, v = .int .i64 q ∧ (l.any p = true ↔ 0 ≤ q) := by
  refine Fn_of_CW Try.func96 rfl Try.ntmps96 Try.results96 rfl fun w hS => ?_; have hG := Grow.refl hS; have hS0 := hS
  (refine CW_seq ?_; refine CW_region rfl ?_; refine S_op ?_; refine W_assignInt (by first | rfl | assumption) ?_; refine S_nil ?_; refine CW_seq ?_; refine CW_seq ?_; refine CW_region rfl ?_; refine S_op ?_; refine W_moveSl (by first | rfl | assumption) ?_; refine S_op ?_; refine W_len (by first | rfl | assumption) ?_; refine S_op ?_; refine W_moveInt (by first | rfl | assumption) ?_; refine S_nil ?_; refine CW_block ?_)
  refine CW_loopM [4, 5, 8, 9, 10, 11, 12, 13, 14, 15, 16, 17, 18]
    (fun m u w2 => ∃ (i : Nat) (H2 : HF), u 8 = .int .i64 (i : Int) ∧ Grow H w H2 w2 ∧ i ≤ l.length ∧ l.length - i ≤ m ∧ (l.take i).any p = false)
    (m := l.length) ⟨0, H, rfl, hG, by omega, by omega, rfl⟩ ?_
  rintro m u w2 ⟨i, H2, h8, hG2, hi, hm, hf⟩
  have hS2 := hG2.sub
  have hl2 := hl.mono hG2.le
  by_cases hlt : i < l.length
  · obtain ⟨b, off, hA, hrow⟩ := hl2.some hlt
    have htk : (l.take (i + 1)).any p = p (ent l i) := by
      rw [take_succ' hlt, List.any_append, hf]
      simp [ent, hlt]
    (refine CW_seq ?_; refine CW_region rfl ?_; refine S_op ?_; refine W_lssT (by first | rfl | assumption) (by first | rfl | assumption) (by first | omega | rfl) ?_; refine S_nil ?_; refine CW_seq ?_; refine CW_true (by first | rfl | assumption) ?_; refine CW_skip ?_; refine CW_seq ?_; refine CW_block ?_; refine CW_seq ?_; refine CW_region rfl ?_; refine S_op ?_; refine W_moveInt (by first | rfl | assumption) ?_; refine S_op ?_; refine W_assignInt (by first | rfl | assumption) ?_; refine S_nil ?_; refine CW_seq ?_; refine CW_region rfl ?_; refine S_op ?_; refine W_moveFun (by first | rfl | assumption) ?_; refine S_op ?_; refine W_moveSl (by first | rfl | assumption) ?_; refine S_op ?_; refine W_moveInt (by first | rfl | assumption) ?_; refine S_op ?_; refine W_index (by first | rfl | assumption) (by first | rfl | assumption) (by first | assumption | omega | decide) (by first | rfl | assumption) ?_; refine S_op ?_; refine W_loadEnt (by first | rfl | assumption) (by assumption) (by first | assumption | omega) (by assumption) ?_)
    refine S_op ?_
    refine W_callV (by rfl) (by rfl) ((hk H2 hG2.le (ent l i) w2 hS2).mono ?_)
    rintro v w3 ⟨H3, hG3, rfl⟩
    have hG3 := hG2.trans hG3
    cases hp : p (ent l i) with
    | true =>
      (refine S_nil ?_; refine CW_true (by first | rfl | assumption) ?_; refine CW_seq ?_; refine CW_region rfl ?_; refine S_op ?_; refine W_moveInt (by first | rfl | assumption) ?_; refine S_op ?_; refine W_assignInt (by first | rfl | assumption) ?_; refine S_nil ?_; refine CW_ret ?_)
      exact ⟨_, ResW_one (v := .int _ _) rfl, H3, hG3, _, rfl, by
        have : l.any p = true := by
          rw [← List.take_append_drop (i + 1) l, List.any_append, htk, hp]; rfl
        simp [this]⟩
    | false =>
      (refine S_nil ?_; refine CW_false (by first | rfl | assumption) ?_; refine CW_skip ?_; refine CW_region rfl ?_; refine S_op ?_; refine W_add1 (by first | rfl | assumption) (by omega) ?_; refine S_op ?_; refine W_moveInt (by first | rfl | assumption) ?_; refine S_nil ?_)
      exact ⟨(by repeat (first | exact AgreeOff.over | refine AgreeOff.upd rfl ?_ | refine AgreeOff.over2 rfl ?_)), m - 1, by omega, i + 1, H3, rfl, hG3, by omega, by omega, by rw [htk, hp]⟩
  · have hin : i = l.length := by omega
    subst hin
    rw [List.take_length] at hf
    (refine CW_seq ?_; refine CW_region rfl ?_; refine S_op ?_; refine W_lssF (by first | rfl | assumption) (by first | rfl | assumption) (by first | omega | rfl) ?_; refine S_nil ?_; refine CW_seq ?_; refine CW_false (by first | rfl | assumption) ?_; refine CW_exit ?_; refine CW_seq ?_; refine CW_region rfl ?_; refine S_op ?_; refine W_assignInt (by first | rfl | assumption) ?_; refine S_nil ?_; refine CW_ret ?_)
    exact ⟨_, ResW_one (v := .int _ _) rfl, H2, hG2, _, rfl, by simp [hf]⟩
theorem containsFunc_Ent {k : FuncId} [FnCall Try.prog k] (p : Ent → Bool) (H : HF) (A : Option Addr) (c : Nat) (l : List Ent) (hl : EntsAt H A l) (hb : l.length ≤ 1000000)
    (hk : ∀ H', HLe H H' → ∀ e, Fn Try.prog k [.agg #[.string e.key, .string e.val]] H' fun v _ => v = .bool (p e)) :
    Fn Try.prog 93 [.slice A l.length c, .func (.func k) #[] #[]] H fun v _ => v = .bool (l.any p) := by
  refine Fn_of_CW Try.func93 rfl Try.ntmps93 Try.results93 rfl fun w hS => ?_; have hG := Grow.refl hS; have hS0 := hS
  (refine CW_seq ?_; refine CW_region rfl ?_; refine S_op ?_; refine W_assignBool (by first | rfl | assumption) ?_; refine S_nil ?_; refine CW_seq ?_; refine CW_region rfl ?_; refine S_op ?_; refine W_moveSl (by first | rfl | assumption) ?_; refine S_op ?_; refine W_moveFun (by first | rfl | assumption) ?_)
  (refine S_op ?_; refine W_call hS (by rfl) (indexFunc_Ent p H A c l hl hb hk) ?_); rintro v H w hG' hv; replace hG := hG.trans hG'; replace hS := hG'.sub; clear hG'
  obtain ⟨q, rfl, hq⟩ := hv
  by_cases h0 : 0 ≤ q
  · rw [hq.2 h0]
    (refine S_op ?_; refine W_geqT (by first | rfl | assumption) (by first | rfl | assumption) (by first | omega | rfl) ?_; refine S_op ?_; refine W_assignBool (by first | rfl | assumption) ?_; refine S_nil ?_; refine CW_ret ?_)
    exact ⟨_, ResW_one (v := .bool _) rfl, H, hG, rfl⟩
  · rw [show l.any p = false by cases hh : l.any p; rfl; exact absurd (hq.1 hh) h0]
    (refine S_op ?_; refine W_geqF (by first | rfl | assumption) (by first | rfl | assumption) (by first | omega | rfl) ?_; refine S_op ?_; refine W_assignBool (by first | rfl | assumption) ?_; refine S_nil ?_; refine CW_ret ?_)
    exact ⟨_, ResW_one (v := .bool _) rfl, H, hG, rfl⟩
end Go.Proofs.Ytgaabmoknpifnaa
