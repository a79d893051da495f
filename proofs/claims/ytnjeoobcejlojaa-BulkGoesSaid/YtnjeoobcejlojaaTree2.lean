/- tree: halves, leaves, branches: walked. Conditions: sizes. -/
import Derived.Test.YtnjeoobcejlojaaTree1
namespace Go.Proofs.Ytnjeoobcejlojaa
open Go.Proofs Go.RowKit
set_option linter.unusedVariables false
attribute [local irreducible] CW SeqW OpW
set_option maxHeartbeats 4000000
theorem halves_Ent (H : HF) (A : Option Addr) (n c : Nat) (hc : n ≤ c) (hb : n ≤ 1000000) :
    Fn Try.prog 109 [.slice A n c] H fun v _ => v = .tuple #[.slice A ((n + 1) / 2) c, .slice (slAddr A c ((n + 1) / 2) 2) (n - (n + 1) / 2) (c - (n + 1) / 2)] := by
  refine Fn_of_CW Try.func109 rfl Try.ntmps109 Try.results109 rfl fun w hS => ?_; have hG := Grow.refl hS; have hS0 := hS
  (refine CW_seq ?_; refine CW_region rfl ?_; refine S_op ?_; refine W_assignSl (by first | rfl | assumption) ?_; refine S_op ?_; refine W_assignSl (by first | rfl | assumption) ?_; refine S_nil ?_; refine CW_seq ?_; refine CW_region rfl ?_; refine S_op ?_; refine W_moveSl (by first | rfl | assumption) ?_; refine S_op ?_; refine W_len (by first | rfl | assumption) ?_; refine S_op ?_; refine W_add1 (by first | rfl | assumption) (by omega) ?_; refine S_op ?_; refine W_quo2 (by first | rfl | assumption) (by omega) ?_; refine S_op ?_; refine W_assignInt (by first | rfl | assumption) ?_; refine S_nil ?_; refine CW_seq ?_)
  apply CW_region_grow [_, _, _, _, _, _, _, _] [none, none, none, none, none, none, none, none] [some 9, some 10, some 11, some 12, some 13, some 14, some 2, some 3] [9, 10, 11, 12, 13, 14, 2, 3] mixed rfl rfl rfl rfl (by decide) rfl (by assumption)
  · ((apply steps_cons; case h1 => (apply A_pure; intro c u H' w' hG; have hS' := hG.sub; have hS2' := hG.subOld; (repeat (first | refine depGo_eq rfl rfl rfl ?_ | (refine depGo_fact rfl rfl rfl ?_; intro v hv) | refine depGo_skip rfl ?_ | refine depGo_none rfl ?_)); apply Pure1.mk; intro K hk; exact W_moveSl (by first | rfl | assumption) hk)); (apply steps_cons; case h1 => (apply A_pure; intro c u H' w' hG; have hS' := hG.sub; have hS2' := hG.subOld; (repeat (first | refine depGo_eq rfl rfl rfl ?_ | (refine depGo_fact rfl rfl rfl ?_; intro v hv) | refine depGo_skip rfl ?_ | refine depGo_none rfl ?_)); apply Pure1.mk; intro K hk; exact W_moveInt (by first | rfl | assumption) hk)); (apply steps_cons; case h1 => (apply A_pure; intro c u H' w' hG; have hS' := hG.sub; have hS2' := hG.subOld; (repeat (first | refine depGo_eq rfl rfl rfl ?_ | (refine depGo_fact rfl rfl rfl ?_; intro v hv) | refine depGo_skip rfl ?_ | refine depGo_none rfl ?_)); apply Pure1.mk; intro K hk; exact W_sliceHi (by first | rfl | assumption) (by first | rfl | assumption) (by omega) hk)); (apply steps_cons; case h1 => (apply A_pure; intro c u H' w' hG; have hS' := hG.sub; have hS2' := hG.subOld; (repeat (first | refine depGo_eq rfl rfl rfl ?_ | (refine depGo_fact rfl rfl rfl ?_; intro v hv) | refine depGo_skip rfl ?_ | refine depGo_none rfl ?_)); apply Pure1.mk; intro K hk; exact W_moveSl (by first | rfl | assumption) hk)); (apply steps_cons; case h1 => (apply A_pure; intro c u H' w' hG; have hS' := hG.sub; have hS2' := hG.subOld; (repeat (first | refine depGo_eq rfl rfl rfl ?_ | (refine depGo_fact rfl rfl rfl ?_; intro v hv) | refine depGo_skip rfl ?_ | refine depGo_none rfl ?_)); apply Pure1.mk; intro K hk; exact W_moveInt (by first | rfl | assumption) hk)); (apply steps_cons; case h1 => (apply A_pure; intro c u H' w' hG; have hS' := hG.sub; have hS2' := hG.subOld; (repeat (first | refine depGo_eq rfl rfl rfl ?_ | (refine depGo_fact rfl rfl rfl ?_; intro v hv) | refine depGo_skip rfl ?_ | refine depGo_none rfl ?_)); apply Pure1.mk; intro K hk; exact W_sliceLo (by first | rfl | assumption) (by first | rfl | assumption) (by omega) hk)); (apply steps_cons; case h1 => (apply A_pure; intro c u H' w' hG; have hS' := hG.sub; have hS2' := hG.subOld; (repeat (first | refine depGo_eq rfl rfl rfl ?_ | (refine depGo_fact rfl rfl rfl ?_; intro v hv) | refine depGo_skip rfl ?_ | refine depGo_none rfl ?_)); apply Pure1.mk; intro K hk; exact W_assignSl (by first | rfl | assumption) hk)); (apply steps_cons; case h1 => (apply A_pure; intro c u H' w' hG; have hS' := hG.sub; have hS2' := hG.subOld; (repeat (first | refine depGo_eq rfl rfl rfl ?_ | (refine depGo_fact rfl rfl rfl ?_; intro v hv) | refine depGo_skip rfl ?_ | refine depGo_none rfl ?_)); apply Pure1.mk; intro K hk; exact W_assignSl (by first | rfl | assumption) hk)); exact trivial)
  · (intro H' w' hG; (repeat (first | refine fin_eq rfl rfl ?_ | (refine fin_fact rfl ?_; intro v hv) | refine fin_none rfl ?_)); refine fin_nil ?_)
    (refine CW_ret ?_)
    exact ⟨_, ResW_two (v1 := .slice _ _ _) (v2 := .slice _ _ _) rfl rfl, _, by assumption, rfl⟩
theorem halves_Node (H : HF) (A : Option Addr) (n c : Nat) (hc : n ≤ c) (hb : n ≤ 1000000) :
    Fn Try.prog 92 [.slice A n c] H fun v _ => v = .tuple #[.slice A ((n + 1) / 2) c, .slice (slAddr A c ((n + 1) / 2) 1) (n - (n + 1) / 2) (c - (n + 1) / 2)] := by
  refine Fn_of_CW Try.func92 rfl Try.ntmps92 Try.results92 rfl fun w hS => ?_; have hG := Grow.refl hS; have hS0 := hS
  (refine CW_seq ?_; refine CW_region rfl ?_; refine S_op ?_; refine W_assignSl (by first | rfl | assumption) ?_; refine S_op ?_; refine W_assignSl (by first | rfl | assumption) ?_; refine S_nil ?_; refine CW_seq ?_; refine CW_region rfl ?_; refine S_op ?_; refine W_moveSl (by first | rfl | assumption) ?_; refine S_op ?_; refine W_len (by first | rfl | assumption) ?_; refine S_op ?_; refine W_add1 (by first | rfl | assumption) (by omega) ?_; refine S_op ?_; refine W_quo2 (by first | rfl | assumption) (by omega) ?_; refine S_op ?_; refine W_assignInt (by first | rfl | assumption) ?_; refine S_nil ?_; refine CW_seq ?_)
  apply CW_region_grow [_, _, _, _, _, _, _, _] [none, none, none, none, none, none, none, none] [some 9, some 10, some 11, some 12, some 13, some 14, some 2, some 3] [9, 10, 11, 12, 13, 14, 2, 3] mixed rfl rfl rfl rfl (by decide) rfl (by assumption)
  · ((apply steps_cons; case h1 => (apply A_pure; intro c u H' w' hG; have hS' := hG.sub; have hS2' := hG.subOld; (repeat (first | refine depGo_eq rfl rfl rfl ?_ | (refine depGo_fact rfl rfl rfl ?_; intro v hv) | refine depGo_skip rfl ?_ | refine depGo_none rfl ?_)); apply Pure1.mk; intro K hk; exact W_moveSl (by first | rfl | assumption) hk)); (apply steps_cons; case h1 => (apply A_pure; intro c u H' w' hG; have hS' := hG.sub; have hS2' := hG.subOld; (repeat (first | refine depGo_eq rfl rfl rfl ?_ | (refine depGo_fact rfl rfl rfl ?_; intro v hv) | refine depGo_skip rfl ?_ | refine depGo_none rfl ?_)); apply Pure1.mk; intro K hk; exact W_moveInt (by first | rfl | assumption) hk)); (apply steps_cons; case h1 => (apply A_pure; intro c u H' w' hG; have hS' := hG.sub; have hS2' := hG.subOld; (repeat (first | refine depGo_eq rfl rfl rfl ?_ | (refine depGo_fact rfl rfl rfl ?_; intro v hv) | refine depGo_skip rfl ?_ | refine depGo_none rfl ?_)); apply Pure1.mk; intro K hk; exact W_sliceHi (by first | rfl | assumption) (by first | rfl | assumption) (by omega) hk)); (apply steps_cons; case h1 => (apply A_pure; intro c u H' w' hG; have hS' := hG.sub; have hS2' := hG.subOld; (repeat (first | refine depGo_eq rfl rfl rfl ?_ | (refine depGo_fact rfl rfl rfl ?_; intro v hv) | refine depGo_skip rfl ?_ | refine depGo_none rfl ?_)); apply Pure1.mk; intro K hk; exact W_moveSl (by first | rfl | assumption) hk)); (apply steps_cons; case h1 => (apply A_pure; intro c u H' w' hG; have hS' := hG.sub; have hS2' := hG.subOld; (repeat (first | refine depGo_eq rfl rfl rfl ?_ | (refine depGo_fact rfl rfl rfl ?_; intro v hv) | refine depGo_skip rfl ?_ | refine depGo_none rfl ?_)); apply Pure1.mk; intro K hk; exact W_moveInt (by first | rfl | assumption) hk)); (apply steps_cons; case h1 => (apply A_pure; intro c u H' w' hG; have hS' := hG.sub; have hS2' := hG.subOld; (repeat (first | refine depGo_eq rfl rfl rfl ?_ | (refine depGo_fact rfl rfl rfl ?_; intro v hv) | refine depGo_skip rfl ?_ | refine depGo_none rfl ?_)); apply Pure1.mk; intro K hk; exact W_sliceLo (by first | rfl | assumption) (by first | rfl | assumption) (by omega) hk)); (apply steps_cons; case h1 => (apply A_pure; intro c u H' w' hG; have hS' := hG.sub; have hS2' := hG.subOld; (repeat (first | refine depGo_eq rfl rfl rfl ?_ | (refine depGo_fact rfl rfl rfl ?_; intro v hv) | refine depGo_skip rfl ?_ | refine depGo_none rfl ?_)); apply Pure1.mk; intro K hk; exact W_assignSl (by first | rfl | assumption) hk)); (apply steps_cons; case h1 => (apply A_pure; intro c u H' w' hG; have hS' := hG.sub; have hS2' := hG.subOld; (repeat (first | refine depGo_eq rfl rfl rfl ?_ | (refine depGo_fact rfl rfl rfl ?_; intro v hv) | refine depGo_skip rfl ?_ | refine depGo_none rfl ?_)); apply Pure1.mk; intro K hk; exact W_assignSl (by first | rfl | assumption) hk)); exact trivial)
  · (intro H' w' hG; (repeat (first | refine fin_eq rfl rfl ?_ | (refine fin_fact rfl ?_; intro v hv) | refine fin_none rfl ?_)); refine fin_nil ?_)
    (refine CW_ret ?_)
    exact ⟨_, ResW_two (v1 := .slice _ _ _) (v2 := .slice _ _ _) rfl rfl, _, by assumption, rfl⟩
theorem HLe.none {H H' : HF} (h : HLe H H') {b : Nat} (hb : H' b = none) : H b = none := by
  cases e : H b with
  | none => rfl
  | some o => rw [h b o e] at hb; cases hb
/-- A slice of nodes. -/
def NdsAt (H : HF) (h : Nat) (v : Value) (ks : List (Nd h)) : Prop := ∃ B d, v = .slice B ks.length d ∧ ks.length ≤ d ∧ SlAt H B (ks.map Nd.ptr) ∧ AllAt H h ks
theorem NdsAt.mono {H H' : HF} {h : Nat} {v : Value} {ks : List (Nd h)} (hk : NdsAt H h v ks) (hle : HLe H H') : NdsAt H' h v ks := by
  obtain ⟨B, d, h1, h2, h3, h4⟩ := hk
  exact ⟨B, d, h1, h2, h3.mono hle, h4.mono hle⟩
def half (n : Nat) : Nat := (n + 1) / 2
/-- One node, in a row without room. -/
def OneAt (H0 H : HF) (h : Nat) (v : Value) (x : Nd h) : Prop := ∃ g E, v = .slice (some ⟨g, 0, none⟩) 1 1 ∧ H g = some (.cells #[x.ptr] E (0, 0)) ∧ NodeAt H h x ∧ H0 x.blk = none
theorem OneAt.mono {H0 H H' : HF} {h : Nat} {v : Value} {x : Nd h} (hk : OneAt H0 H h v x) (hle : HLe H H') : OneAt H0 H' h v x := by
  obtain ⟨g, E, h1, h2, h3, h4⟩ := hk
  exact ⟨g, E, h1, hle _ _ h2, h3.mono hle, h4⟩
theorem OneAt.nds {H0 H : HF} {h : Nat} {v : Value} {x : Nd h} (hk : OneAt H0 H h v x) : NdsAt H h v [x] := by
  obtain ⟨g, E, rfl, h2, h3, h4⟩ := hk
  refine ⟨_, 1, rfl, Nat.le_refl _, SlAt.of_row h2, fun k hk => ?_⟩
  simp at hk
  subst hk; exact h3
/-- What leaves makes. -/
def leavesOut (l : List Ent) (out : List (Nd 0)) : Prop :=
  (l.length = 0 ∧ out = []) ∨ (1 ≤ l.length ∧ l.length ≤ 4 ∧ ∃ b, out = [.leaf b l]) ∨ (4 < l.length ∧ ∃ b1 b2, out = [.leaf b1 (l.take (half l.length)), .leaf b2 (l.drop (half l.length))])
theorem leaves1_c (H : HF) (A : Option Addr) (c : Nat) (l : List Ent) (hl : EntsAt H A l) (hc : l.length ≤ c) (hb : leafB l = true) :
    Fn Try.prog 93 [.slice A l.length c] H fun v H' => ∃ b, OneAt H H' 0 v (.leaf b l) := by
  have h1 : 1 ≤ l.length ∧ l.length ≤ 4 := by simp only [leafB, Bool.and_eq_true, decide_eq_true_eq] at hb; omega
  obtain ⟨h1, h4⟩ := h1
  refine Fn_of_CW Try.func93 rfl Try.ntmps93 Try.results93 rfl fun w hS => ?_; have hG := Grow.refl hS; have hS0 := hS
  (refine CW_seq ?_; refine CW_region rfl ?_; refine S_op ?_; refine W_assignSl (by first | rfl | assumption) ?_; refine S_nil ?_; refine CW_seq ?_; refine CW_seq ?_; refine CW_region rfl ?_; refine S_op ?_; refine W_moveSl (by first | rfl | assumption) ?_; refine S_op ?_; refine W_len (by first | rfl | assumption) ?_; refine S_op ?_; refine W_eqlF (by first | rfl | assumption) (by first | rfl | assumption) (by first | omega | rfl) ?_; refine S_nil ?_; refine CW_false (by first | rfl | assumption) ?_; refine CW_skip ?_; refine CW_seq ?_; refine CW_seq ?_; refine CW_region rfl ?_; refine S_op ?_; refine W_moveSl (by first | rfl | assumption) ?_; refine S_op ?_; refine W_len (by first | rfl | assumption) ?_; refine S_op ?_; refine W_leqT (by first | rfl | assumption) (by first | rfl | assumption) (by first | omega | rfl) ?_; refine S_nil ?_; refine CW_true (by first | rfl | assumption) ?_; refine CW_seq ?_; refine CW_region rfl ?_; refine S_op ?_; refine W_moveSl (by first | rfl | assumption) ?_)
  (refine S_op ?_; refine W_call hS (by rfl) (leaf_c H A c l hl hc (by omega)) ?_); rintro v H w hG' hv; replace hG := hG.trans hG'; replace hS := hG'.sub; clear hG'
  rcases hv with ⟨h5, _⟩ | ⟨_, b, hn, rfl, hx⟩
  · rw [hb] at h5; cases h5
  · (refine S_op ?_; refine W_moveTup (by first | rfl | assumption) ?_; refine S_op ?_; refine W_extract (by first | rfl | assumption) (by rfl) ?_; refine S_op ?_; refine W_extract (by first | rfl | assumption) (by rfl) ?_; refine S_op ?_; refine W_assignPtr (by first | rfl | assumption) ?_; refine S_op ?_; refine W_assignInt (by first | rfl | assumption) ?_; refine S_nil ?_; refine CW_seq ?_; refine CW_region rfl ?_; refine S_op ?_; refine W_movePtr (by first | rfl | assumption) ?_)
    refine S_op ?_
    refine W_build1 (sz := 1) (v := (Nd.leaf b l).ptr) hS (by omega) (by rfl) (by rfl) ?_
    intro H w g hG' hg _ _
    replace hG := hG.trans hG'
    replace hx := hx.mono hG'.le
    (refine S_op ?_; refine W_assignSl (by first | rfl | assumption) ?_; refine S_nil ?_; refine CW_ret ?_)
    exact ⟨_, ResW_one (v := .slice _ _ _) rfl, H, hG, b, g, _, rfl, hg, hx, hn⟩
theorem leaves_c (H : HF) (A : Option Addr) (c : Nat) (l : List Ent) (hl : EntsAt H A l) (hc : l.length ≤ c) (hr : riseB l = true) (ho : ∀ e ∈ l, entOk e = true) (h8 : l.length ≤ 8) :
    Fn Try.prog 93 [.slice A l.length c] H fun v H' => ∃ out, NdsAt H' 0 v out ∧ leavesOut l out ∧ ∀ k ∈ out, H k.blk = none := by
  have hleaf : ∀ m : List Ent, 1 ≤ m.length → m.length ≤ 4 → riseB m = true → (∀ e ∈ m, entOk e = true) → leafB m = true := by
    intro m h1 h2 h3 h4
    have : m.all entOk = true := List.all_eq_true.2 h4
    simp [leafB, h3, this]; omega
  by_cases h0 : l.length = 0
  · refine Fn_of_CW Try.func93 rfl Try.ntmps93 Try.results93 rfl fun w hS => ?_; have hG := Grow.refl hS; have hS0 := hS
    (refine CW_seq ?_; refine CW_region rfl ?_; refine S_op ?_; refine W_assignSl (by first | rfl | assumption) ?_; refine S_nil ?_; refine CW_seq ?_; refine CW_seq ?_; refine CW_region rfl ?_; refine S_op ?_; refine W_moveSl (by first | rfl | assumption) ?_; refine S_op ?_; refine W_len (by first | rfl | assumption) ?_; refine S_op ?_; refine W_eqlT (by first | rfl | assumption) (by first | rfl | assumption) (by first | omega | rfl) ?_; refine S_nil ?_; refine CW_true (by first | rfl | assumption) ?_; refine CW_seq ?_; refine CW_region rfl ?_; refine S_op ?_; refine W_assignSl (by first | rfl | assumption) ?_; refine S_nil ?_; refine CW_ret ?_)
    exact ⟨_, ResW_one (v := .slice _ _ _) rfl, H, hG, [], ⟨none, 0, rfl, Nat.le_refl _, .inl rfl, by intro k hk; cases hk⟩, .inl ⟨h0, rfl⟩, by intro k hk; cases hk⟩
  by_cases h4 : l.length ≤ 4
  · refine (leaves1_c H A c l hl hc (hleaf l (by omega) h4 hr ho)).mono ?_
    rintro v H' _ ⟨b, h1⟩
    refine ⟨_, h1.nds, .inr (.inl ⟨by omega, h4, b, rfl⟩), fun k hk => ?_⟩
    simp at hk
    subst hk
    obtain ⟨g, E, h1, h2, h3, h4⟩ := h1
    exact h4
  · have hkk : half l.length ≤ 4 ∧ 1 ≤ half l.length ∧ half l.length ≤ l.length ∧ l.length - half l.length ≤ 4 ∧ 1 ≤ l.length - half l.length := by unfold half; omega
    obtain ⟨k1, k2, k3, k4, k5⟩ := hkk
    have hsp := List.take_append_drop (half l.length) l
    have hr2 : riseB (l.take (half l.length)) = true ∧ riseB (l.drop (half l.length)) = true := by
      rw [← hsp, riseB_append] at hr
      exact ⟨hr.1, hr.2.1⟩
    have hlt : (l.take (half l.length)).length = half l.length := by simp; omega
    have hld : (l.drop (half l.length)).length = l.length - half l.length := by simp
    have hb1 := hleaf (l.take (half l.length)) (by omega) (by omega) hr2.1 (fun e he => ho e (List.mem_of_mem_take he))
    have hb2 := hleaf (l.drop (half l.length)) (by omega) (by omega) hr2.2 (fun e he => ho e (List.mem_of_mem_drop he))
    have ht : EntsAt H A (l.take (half l.length)) := by have := SlAt.take hl (half l.length * 2); rw [entCells_take] at this; exact this
    have hd : EntsAt H (slAddr A c (half l.length) 2) (l.drop (half l.length)) := by have := SlAt.drop (l := half l.length) hl (entCells_length l) hc; rw [entCells_drop] at this; exact this
    refine Fn_of_CW Try.func93 rfl Try.ntmps93 Try.results93 rfl fun w hS => ?_; have hG := Grow.refl hS; have hS0 := hS
    (refine CW_seq ?_; refine CW_region rfl ?_; refine S_op ?_; refine W_assignSl (by first | rfl | assumption) ?_; refine S_nil ?_; refine CW_seq ?_; refine CW_seq ?_; refine CW_region rfl ?_; refine S_op ?_; refine W_moveSl (by first | rfl | assumption) ?_; refine S_op ?_; refine W_len (by first | rfl | assumption) ?_; refine S_op ?_; refine W_eqlF (by first | rfl | assumption) (by first | rfl | assumption) (by first | omega | rfl) ?_; refine S_nil ?_; refine CW_false (by first | rfl | assumption) ?_; refine CW_skip ?_; refine CW_seq ?_; refine CW_seq ?_; refine CW_region rfl ?_; refine S_op ?_; refine W_moveSl (by first | rfl | assumption) ?_; refine S_op ?_; refine W_len (by first | rfl | assumption) ?_; refine S_op ?_; refine W_leqF (by first | rfl | assumption) (by first | rfl | assumption) (by first | omega | rfl) ?_; refine S_nil ?_; refine CW_false (by first | rfl | assumption) ?_; refine CW_skip ?_; refine CW_seq ?_; refine CW_region rfl ?_; refine S_op ?_; refine W_moveSl (by first | rfl | assumption) ?_)
    (refine S_op ?_; refine W_call hS (by rfl) (halves_Ent H A l.length c hc (by omega)) ?_); rintro v H w hG' rfl; replace hG := hG.trans hG'; replace hS := hG'.sub; replace ht := ht.mono hG'.le; replace hd := hd.mono hG'.le; clear hG'
    rw [show (l.length + 1) / 2 = half l.length from rfl]
    have hlt' := hlt
    have hld' := hld
    rw [← hlt'] at hlt
    (refine S_op ?_; refine W_moveTup (by first | rfl | assumption) ?_; refine S_op ?_; refine W_extract (by first | rfl | assumption) (by rfl) ?_; refine S_op ?_; refine W_extract (by first | rfl | assumption) (by rfl) ?_; refine S_op ?_; refine W_assignSl (by first | rfl | assumption) ?_; refine S_op ?_; refine W_assignSl (by first | rfl | assumption) ?_; refine S_nil ?_; refine CW_seq ?_; refine CW_region rfl ?_; refine S_op ?_; refine W_moveSl (by first | rfl | assumption) ?_)
    have c1 := leaves1_c H A c (l.take (half l.length)) ht (by omega) hb1
    rw [hlt'] at c1
    have hle1 := hG.le
    (refine S_op ?_; refine W_call hS (by rfl) (c1) ?_); rintro v H w hG' ⟨b1, h1⟩; replace hG := hG.trans hG'; replace hS := hG'.sub; replace hd := hd.mono hG'.le; clear hG'
    clear c1
    (refine S_op ?_; refine W_moveSl (by first | rfl | assumption) ?_)
    have c2 := leaves1_c H (slAddr A c (half l.length) 2) (c - half l.length) (l.drop (half l.length)) hd (by omega) hb2
    rw [hld'] at c2
    have hle2 := hG.le
    (refine S_op ?_; refine W_call hS (by rfl) (c2) ?_); rintro v H w hG' ⟨b2, h2⟩; replace hG := hG.trans hG'; replace hS := hG'.sub; replace h1 := h1.mono hG'.le; clear hG'
    clear c2
    skip
    refine S_op ?_
    obtain ⟨g1, E1, rfl, hg1, hx1, hf1⟩ := h1
    obtain ⟨g2, E2, rfl, hg2, hx2, hf2⟩ := h2
    refine W_append_new (xs := [Nd.ptr _]) (news := [Nd.ptr _]) (by rfl) (by rfl) hG (by simp) ((SlAt.of_row hg1).cells hS) (by rfl) ((SlAt.of_row hg2).cells hS) (by rfl) (by intro u hu; simp at hu; subst hu; rfl) (by decide) (by decide) (by decide) (by decide) (by decide) ?_
    intro A3 c3 w hG _ hown hA3
    clear hA3
    (refine S_op ?_; refine W_assignSl (by first | rfl | assumption) ?_; refine S_nil ?_; refine CW_ret ?_)
    obtain ⟨H3, hle3, hG3, hsl3, _⟩ := hown.freeze hG
    refine ⟨_, ResW_one (v := .slice _ _ _) rfl, H3, hG3, [.leaf b1 (l.take (half l.length)), .leaf b2 (l.drop (half l.length))], ⟨A3, c3, rfl, by have := hown.cap; exact this, hsl3, fun k hk => ?_⟩, .inr (.inr ⟨by omega, b1, b2, rfl⟩), fun k hk => ?_⟩
    · simp at hk
      rcases hk with rfl | rfl
      · exact hx1.mono hle3
      · exact hx2.mono hle3
    · simp at hk
      rcases hk with rfl | rfl
      · exact hle1.none hf1
      · exact hle2.none hf2
/-! ### branches -/
theorem trOf_inj {h h' : Nat} {x : Nd h} {y : Nd h'} (e : trOf x = trOf y) : ∃ e : h = h', e ▸ x = y := by
  simp only [trOf, Option.some.injEq, Sigma.mk.injEq] at e
  obtain ⟨rfl, h2⟩ := e
  exact ⟨rfl, eq_of_heq h2⟩
theorem map_trOf_inj {h : Nat} : ∀ {l m : List (Nd h)}, l.map trOf = m.map trOf → l = m
  | [], [], _ => rfl
  | [], _ :: _, e => by simp at e
  | _ :: _, [], e => by simp at e
  | x :: l, y :: m, e => by
    simp only [List.map_cons, List.cons.injEq] at e
    obtain ⟨_, h1⟩ := trOf_inj e.1
    have h1 : x = y := h1
    rw [h1, map_trOf_inj e.2]
theorem branchU_c (H : HF) (A : Option Addr) (c h : Nat) (ks : List (Nd h)) (hl : SlAt H A (ks.map Nd.ptr)) (hk : AllAt H h ks) (hc : ks.length ≤ c) (h2 : 2 ≤ ks.length) (h6 : ks.length ≤ 6) (hch : Nd.chain ks = true) (hh : h ≤ 900000) :
    Fn Try.prog 85 [.slice A ks.length c] H fun v H' => ∃ b, v = .tuple #[(Nd.branch b ks).ptr, .int .i64 0] ∧ NodeAt H' (h + 1) (.branch b ks) ∧ H b = none := by
  have h1 := branch_c H A c (ks.map trOf) (by rw [val_map]; exact hl) (fun t ht => by
    obtain ⟨k, hk1, rfl⟩ := List.mem_map.1 ht
    exact hk k hk1) (by simpa using hc) (by simp; omega) (by
    rw [trs_map (by omega)]
    simp only [Tr.height, trOf]
    omega)
  rw [List.length_map] at h1
  refine h1.mono ?_
  rintro v H' _ (⟨h3, _⟩ | ⟨_, h', ks', b, h3, h4, rfl, h5⟩)
  · rw [branchB_of h2 h6 hch] at h3; cases h3
  · match ks, ks', h2, h3 with
    | x :: ks, y :: ks', _, h3 =>
      simp only [List.map_cons, List.cons.injEq] at h3
      obtain ⟨rfl, h6⟩ := trOf_inj h3.1
      have h6 : x = y := h6
      have h7 := map_trOf_inj h3.2
      subst h6 h7
      exact ⟨b, rfl, h5, h4⟩
theorem branches1_c (H : HF) (A : Option Addr) (c h : Nat) (ks : List (Nd h)) (hl : SlAt H A (ks.map Nd.ptr)) (hk : AllAt H h ks) (hc : ks.length ≤ c) (h2 : 2 ≤ ks.length) (h6 : ks.length ≤ 6) (hch : Nd.chain ks = true) (hh : h ≤ 900000) :
    Fn Try.prog 71 [.slice A ks.length c] H fun v H' => ∃ b, OneAt H H' (h + 1) v (.branch b ks) := by
  refine Fn_of_CW Try.func71 rfl Try.ntmps71 Try.results71 rfl fun w hS => ?_; have hG := Grow.refl hS; have hS0 := hS
  (refine CW_seq ?_; refine CW_region rfl ?_; refine S_op ?_; refine W_assignSl (by first | rfl | assumption) ?_; refine S_nil ?_; refine CW_seq ?_; refine CW_seq ?_; refine CW_region rfl ?_; refine S_op ?_; refine W_moveSl (by first | rfl | assumption) ?_; refine S_op ?_; refine W_len (by first | rfl | assumption) ?_; refine S_op ?_; refine W_leqF (by first | rfl | assumption) (by first | rfl | assumption) (by first | omega | rfl) ?_; refine S_nil ?_; refine CW_false (by first | rfl | assumption) ?_; refine CW_skip ?_; refine CW_seq ?_; refine CW_seq ?_; refine CW_region rfl ?_; refine S_op ?_; refine W_moveSl (by first | rfl | assumption) ?_; refine S_op ?_; refine W_len (by first | rfl | assumption) ?_; refine S_op ?_; refine W_leqT (by first | rfl | assumption) (by first | rfl | assumption) (by first | omega | rfl) ?_; refine S_nil ?_; refine CW_true (by first | rfl | assumption) ?_; refine CW_seq ?_; refine CW_region rfl ?_; refine S_op ?_; refine W_moveSl (by first | rfl | assumption) ?_)
  (refine S_op ?_; refine W_call hS (by rfl) (branchU_c H A c h ks hl hk hc h2 h6 hch hh) ?_); rintro v H w hG' ⟨b, rfl, hx, hn⟩; replace hG := hG.trans hG'; replace hS := hG'.sub; clear hG'
  (refine S_op ?_; refine W_moveTup (by first | rfl | assumption) ?_; refine S_op ?_; refine W_extract (by first | rfl | assumption) (by rfl) ?_; refine S_op ?_; refine W_extract (by first | rfl | assumption) (by rfl) ?_; refine S_op ?_; refine W_assignPtr (by first | rfl | assumption) ?_; refine S_op ?_; refine W_assignInt (by first | rfl | assumption) ?_; refine S_nil ?_; refine CW_seq ?_; refine CW_region rfl ?_; refine S_op ?_; refine W_movePtr (by first | rfl | assumption) ?_)
  refine S_op ?_
  refine W_build1 (sz := 1) (v := (Nd.branch b ks).ptr) hS (by omega) (by rfl) (by rfl) ?_
  intro H w g hG' hg _ _
  replace hG := hG.trans hG'
  replace hx := hx.mono hG'.le
  (refine S_op ?_; refine W_assignSl (by first | rfl | assumption) ?_; refine S_nil ?_; refine CW_ret ?_)
  exact ⟨_, ResW_one (v := .slice _ _ _) rfl, H, hG, b, g, _, rfl, hg, hx, hn⟩
theorem branches0_c (H : HF) (A : Option Addr) (n c : Nat) (h2 : n ≤ 1) :
    Fn Try.prog 71 [.slice A n c] H fun v _ => v = .slice A n c := by
  refine Fn_of_CW Try.func71 rfl Try.ntmps71 Try.results71 rfl fun w hS => ?_; have hG := Grow.refl hS; have hS0 := hS
  (refine CW_seq ?_; refine CW_region rfl ?_; refine S_op ?_; refine W_assignSl (by first | rfl | assumption) ?_; refine S_nil ?_; refine CW_seq ?_; refine CW_seq ?_; refine CW_region rfl ?_; refine S_op ?_; refine W_moveSl (by first | rfl | assumption) ?_; refine S_op ?_; refine W_len (by first | rfl | assumption) ?_; refine S_op ?_; refine W_leqT (by first | rfl | assumption) (by first | rfl | assumption) (by first | omega | rfl) ?_; refine S_nil ?_; refine CW_true (by first | rfl | assumption) ?_; refine CW_seq ?_; refine CW_region rfl ?_; refine S_op ?_; refine W_moveSl (by first | rfl | assumption) ?_; refine S_op ?_; refine W_assignSl (by first | rfl | assumption) ?_; refine S_nil ?_; refine CW_ret ?_)
  exact ⟨_, ResW_one (v := .slice _ _ _) rfl, H, hG, rfl⟩
/-- What branches makes of two or more. -/
def branchesOut {h : Nat} (ks : List (Nd h)) (out : List (Nd (h + 1))) : Prop :=
  (2 ≤ ks.length ∧ ks.length ≤ 6 ∧ ∃ b, out = [.branch b ks]) ∨ (6 < ks.length ∧ ∃ b1 b2, out = [.branch b1 (ks.take (half ks.length)), .branch b2 (ks.drop (half ks.length))])
theorem chain_parts {h : Nat} {a b : List (Nd h)} (ho : ∀ k ∈ a ++ b, Nd.Ok h k) (hc : Nd.chain (a ++ b) = true) : Nd.chain a = true ∧ Nd.chain b = true := by
  have hr := (Nd.chain_iff ho).1 hc
  rw [List.flatMap_append, riseB_append] at hr
  exact ⟨(Nd.chain_iff (fun k hk => ho k (List.mem_append_left _ hk))).2 hr.1, (Nd.chain_iff (fun k hk => ho k (List.mem_append_right _ hk))).2 hr.2.1⟩
theorem branches_c (H : HF) (A : Option Addr) (c h : Nat) (ks : List (Nd h)) (hl : SlAt H A (ks.map Nd.ptr)) (hk : AllAt H h ks) (hc : ks.length ≤ c) (h2 : 2 ≤ ks.length) (h8 : ks.length ≤ 12) (hch : Nd.chain ks = true) (hh : h ≤ 900000) :
    Fn Try.prog 71 [.slice A ks.length c] H fun v H' => ∃ out, NdsAt H' (h + 1) v out ∧ branchesOut ks out ∧ ∀ k ∈ out, H k.blk = none := by
  by_cases h4 : ks.length ≤ 6
  · refine (branches1_c H A c h ks hl hk hc h2 h4 hch hh).mono ?_
    rintro v H' _ ⟨b, h1⟩
    refine ⟨_, h1.nds, .inl ⟨by omega, h4, b, rfl⟩, fun k hk => ?_⟩
    simp at hk
    subst hk
    obtain ⟨g, E, h1, h2, h3, h4⟩ := h1
    exact h4
  · have hkk : half ks.length ≤ 6 ∧ 2 ≤ half ks.length ∧ half ks.length ≤ ks.length ∧ ks.length - half ks.length ≤ 6 ∧ 2 ≤ ks.length - half ks.length := by unfold half; omega
    obtain ⟨k1, k2, k3, k4, k5⟩ := hkk
    have hsp := List.take_append_drop (half ks.length) ks
    have hr2 : Nd.chain (ks.take (half ks.length)) = true ∧ Nd.chain (ks.drop (half ks.length)) = true :=
      chain_parts (by rw [hsp]; exact hk.ok) (by rw [hsp]; exact hch)
    have hlt : (ks.take (half ks.length)).length = half ks.length := by simp; omega
    have hld : (ks.drop (half ks.length)).length = ks.length - half ks.length := by simp
    have ht : SlAt H A ((ks.take (half ks.length)).map Nd.ptr) := by have := SlAt.take hl (half ks.length); rw [List.map_take]; exact this
    have hd : SlAt H (slAddr A c (half ks.length) 1) ((ks.drop (half ks.length)).map Nd.ptr) := by have := SlAt.drop (l := half ks.length) (sz := 1) hl (by simp) hc; rw [List.map_drop]; simpa using this
    have hk1 := hk.take (half ks.length)
    have hk2 := hk.drop (half ks.length)
    refine Fn_of_CW Try.func71 rfl Try.ntmps71 Try.results71 rfl fun w hS => ?_; have hG := Grow.refl hS; have hS0 := hS
    (refine CW_seq ?_; refine CW_region rfl ?_; refine S_op ?_; refine W_assignSl (by first | rfl | assumption) ?_; refine S_nil ?_; refine CW_seq ?_; refine CW_seq ?_; refine CW_region rfl ?_; refine S_op ?_; refine W_moveSl (by first | rfl | assumption) ?_; refine S_op ?_; refine W_len (by first | rfl | assumption) ?_; refine S_op ?_; refine W_leqF (by first | rfl | assumption) (by first | rfl | assumption) (by first | omega | rfl) ?_; refine S_nil ?_; refine CW_false (by first | rfl | assumption) ?_; refine CW_skip ?_; refine CW_seq ?_; refine CW_seq ?_; refine CW_region rfl ?_; refine S_op ?_; refine W_moveSl (by first | rfl | assumption) ?_; refine S_op ?_; refine W_len (by first | rfl | assumption) ?_; refine S_op ?_; refine W_leqF (by first | rfl | assumption) (by first | rfl | assumption) (by first | omega | rfl) ?_; refine S_nil ?_; refine CW_false (by first | rfl | assumption) ?_; refine CW_skip ?_; refine CW_seq ?_; refine CW_region rfl ?_; refine S_op ?_; refine W_moveSl (by first | rfl | assumption) ?_)
    (refine S_op ?_; refine W_call hS (by rfl) (halves_Node H A ks.length c hc (by omega)) ?_); rintro v H w hG' rfl; replace hG := hG.trans hG'; replace hS := hG'.sub; replace ht := ht.mono hG'.le; replace hd := hd.mono hG'.le; replace hk1 := hk1.mono hG'.le; replace hk2 := hk2.mono hG'.le; clear hG'
    rw [show (ks.length + 1) / 2 = half ks.length from rfl]
    have hlt' := hlt
    have hld' := hld
    (refine S_op ?_; refine W_moveTup (by first | rfl | assumption) ?_; refine S_op ?_; refine W_extract (by first | rfl | assumption) (by rfl) ?_; refine S_op ?_; refine W_extract (by first | rfl | assumption) (by rfl) ?_; refine S_op ?_; refine W_assignSl (by first | rfl | assumption) ?_; refine S_op ?_; refine W_assignSl (by first | rfl | assumption) ?_; refine S_nil ?_; refine CW_seq ?_; refine CW_region rfl ?_; refine S_op ?_; refine W_moveSl (by first | rfl | assumption) ?_)
    have c1 := branches1_c H A c h (ks.take (half ks.length)) ht hk1 (by omega) (by omega) (by omega) hr2.1 hh
    rw [hlt'] at c1
    have hle1 := hG.le
    (refine S_op ?_; refine W_call hS (by rfl) (c1) ?_); rintro v H w hG' ⟨b1, h1⟩; replace hG := hG.trans hG'; replace hS := hG'.sub; replace hd := hd.mono hG'.le; replace hk2 := hk2.mono hG'.le; clear hG'
    clear c1
    (refine S_op ?_; refine W_moveSl (by first | rfl | assumption) ?_)
    have c2 := branches1_c H (slAddr A c (half ks.length) 1) (c - half ks.length) h (ks.drop (half ks.length)) hd hk2 (by omega) (by omega) (by omega) hr2.2 hh
    rw [hld'] at c2
    have hle2 := hG.le
    (refine S_op ?_; refine W_call hS (by rfl) (c2) ?_); rintro v H w hG' ⟨b2, h2⟩; replace hG := hG.trans hG'; replace hS := hG'.sub; replace h1 := h1.mono hG'.le; clear hG'
    clear c2
    skip
    refine S_op ?_
    obtain ⟨g1, E1, rfl, hg1, hx1, hf1⟩ := h1
    obtain ⟨g2, E2, rfl, hg2, hx2, hf2⟩ := h2
    refine W_append_new (xs := [Nd.ptr _]) (news := [Nd.ptr _]) (by rfl) (by rfl) hG (by simp) ((SlAt.of_row hg1).cells hS) (by rfl) ((SlAt.of_row hg2).cells hS) (by rfl) (by intro u hu; simp at hu; subst hu; rfl) (by decide) (by decide) (by decide) (by decide) (by decide) ?_
    intro A3 c3 w hG _ hown hA3
    clear hA3
    (refine S_op ?_; refine W_assignSl (by first | rfl | assumption) ?_; refine S_nil ?_; refine CW_ret ?_)
    obtain ⟨H3, hle3, hG3, hsl3, _⟩ := hown.freeze hG
    refine ⟨_, ResW_one (v := .slice _ _ _) rfl, H3, hG3, [.branch b1 (ks.take (half ks.length)), .branch b2 (ks.drop (half ks.length))], ⟨A3, c3, rfl, by have := hown.cap; exact this, hsl3, fun k hk => ?_⟩, .inr ⟨by omega, b1, b2, rfl⟩, fun k hk => ?_⟩
    · simp at hk
      rcases hk with rfl | rfl
      · exact hx1.mono hle3
      · exact hx2.mono hle3
    · simp at hk
      rcases hk with rfl | rfl
      · exact hle1.none hf1
      · exact hle2.none hf2
end Go.Proofs.Ytnjeoobcejlojaa
