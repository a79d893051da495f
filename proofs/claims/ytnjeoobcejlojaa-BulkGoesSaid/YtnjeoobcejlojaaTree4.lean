/- tree: what is left of a node that something was taken from: walked. Conditions: sizes. -/
import Derived.Test.YtnjeoobcejlojaaTree3
namespace Go.Proofs.Ytnjeoobcejlojaa
open Go.Proofs Go.RowKit
set_option linter.unusedVariables false
attribute [local irreducible] CW SeqW OpW
set_option maxHeartbeats 4000000
/-- Parts: entries and kids. -/
def PtAt (H : HF) (h : Nat) (v : Value) (es : List Ent) (ks : List (Nd h)) : Prop :=
  ∃ A c B d, v = .agg #[.slice A es.length c, .slice B ks.length d] ∧ es.length ≤ c ∧ ks.length ≤ d ∧ EntsAt H A es ∧ SlAt H B (ks.map Nd.ptr) ∧ AllAt H h ks
theorem PtAt.mono {H H' : HF} {h : Nat} {v : Value} {es : List Ent} {ks : List (Nd h)} (hp : PtAt H h v es ks) (hle : HLe H H') : PtAt H' h v es ks := by
  obtain ⟨A, c, B, d, h1, h2, h3, h4, h5, h6⟩ := hp
  exact ⟨A, c, B, d, h1, h2, h3, h4.mono hle, h5.mono hle, h6.mono hle⟩
theorem closedMut (b : Nat) (cs : List Value) : Closed fun H w => Mut H w b cs := fun _ _ _ _ h k => h.grow k
theorem Closed.and {M N : HF → World → Prop} (h : Closed M) (k : Closed N) : Closed fun H w => M H w ∧ N H w := fun _ _ _ _ hm hg => ⟨h _ _ _ _ hm.1 hg, k _ _ _ _ hm.2 hg⟩
/-- A variable of the call's own holds parts. -/
def MutPt (b h : Nat) (es : List Ent) (ks : List (Nd h)) (H : HF) (w : World) : Prop := ∃ u1 u2, Mut H w b [u1, u2] ∧ PtAt H h (.agg #[u1, u2]) es ks
theorem closedPt (b h : Nat) (es : List Ent) (ks : List (Nd h)) : Closed (MutPt b h es ks) := fun _ _ _ _ ⟨u1, u2, hm, hp⟩ hg => ⟨u1, u2, hm.grow hg, hp.mono hg.le⟩
section
variable {H : HF} {h : Nat} {v : Value} {es : List Ent} {ks : List (Nd h)}
theorem ptSize_c (hp : PtAt H h v es ks) (h1 : es.length ≤ 1000) (h2 : ks.length ≤ 1000) : Fn Try.prog 98 [v] H fun r _ => r = .int .i64 ((es.length + ks.length : Nat) : Int) := by
  obtain ⟨A, c, B, d, rfl, h1, h2, h4, h5, h6⟩ := hp
  refine Fn_of_CW Try.func98 rfl Try.ntmps98 Try.results98 rfl fun w hS => ?_; have hG := Grow.refl hS; have hS0 := hS
  (refine CW_seq ?_; refine CW_region rfl ?_)
  (refine S_op (W_boxAgg hS (by rfl) ?_)); intro H w _ hG' hb; replace hG := hG.trans hG'; replace hS := hG'.sub; clear hG'
  (refine S_op ?_; refine W_assignInt (by first | rfl | assumption) ?_; refine S_nil ?_; refine CW_seq ?_; refine CW_region rfl ?_; refine S_op ?_; refine W_field (by first | rfl | assumption) ?_; refine S_op ?_; refine W_loadHL (by first | rfl | assumption) (by assumption) (by rfl) (by assumption) ?_; refine S_op ?_; refine W_len (by first | rfl | assumption) ?_; refine S_op ?_; refine W_field (by first | rfl | assumption) ?_; refine S_op ?_; refine W_loadHL (by first | rfl | assumption) (by assumption) (by rfl) (by assumption) ?_; refine S_op ?_; refine W_len (by first | rfl | assumption) ?_; refine S_op ?_; refine W_addN (by first | rfl | assumption) (by first | rfl | assumption) (by omega) ?_; refine S_op ?_; refine W_assignInt (by first | rfl | assumption) ?_; refine S_nil ?_; refine CW_ret ?_)
  exact ⟨_, ResW_one (v := .int _ _) rfl, H, hG, rfl⟩
theorem least_c (H : HF) (n : Nat) : Fn Try.prog 99 [.int .i64 (n : Int)] H fun r _ => r = .int .i64 ((if n = 1 then 2 else 3 : Nat) : Int) := by
  refine Fn_of_CW Try.func99 rfl Try.ntmps99 Try.results99 rfl fun w hS => ?_; have hG := Grow.refl hS; have hS0 := hS
  by_cases h1 : n = 1
  · (refine CW_seq ?_; refine CW_region rfl ?_; refine S_op ?_; refine W_assignInt (by first | rfl | assumption) ?_; refine S_nil ?_; refine CW_seq ?_; refine CW_seq ?_; refine CW_region rfl ?_; refine S_op ?_; refine W_moveInt (by first | rfl | assumption) ?_; refine S_op ?_; refine W_eqlT (by first | rfl | assumption) (by first | rfl | assumption) (by first | omega | rfl) ?_; refine S_nil ?_; refine CW_true (by first | rfl | assumption) ?_; refine CW_seq ?_; refine CW_region rfl ?_; refine S_op ?_; refine W_assignInt (by first | rfl | assumption) ?_; refine S_nil ?_; refine CW_ret ?_)
    exact ⟨_, ResW_one (v := .int _ _) rfl, H, hG, by rw [if_pos h1]; rfl⟩
  · (refine CW_seq ?_; refine CW_region rfl ?_; refine S_op ?_; refine W_assignInt (by first | rfl | assumption) ?_; refine S_nil ?_; refine CW_seq ?_; refine CW_seq ?_; refine CW_region rfl ?_; refine S_op ?_; refine W_moveInt (by first | rfl | assumption) ?_; refine S_op ?_; refine W_eqlF (by first | rfl | assumption) (by first | rfl | assumption) (by first | omega | rfl) ?_; refine S_nil ?_; refine CW_false (by first | rfl | assumption) ?_; refine CW_skip ?_; refine CW_seq ?_; refine CW_region rfl ?_; refine S_op ?_; refine W_assignInt (by first | rfl | assumption) ?_; refine S_nil ?_; refine CW_ret ?_)
    exact ⟨_, ResW_one (v := .int _ _) rfl, H, hG, by rw [if_neg h1]; rfl⟩
theorem Grow.base {H0 H : HF} {w0 w : World} {b : Nat} (hG : Grow H0 w0 H w) (e : w.heap.size = b) : w0.heap.size ≤ b := by have := hG.below.size; omega
theorem grown_own {H0 H : HF} {w0 w w' : World} {b : Nat} {cs : List Value} (hG : Grow H0 w0 H w) (hg : w.grownBy w' (some b)) (hm : Mut H w b cs) (hb : w0.heap.size ≤ b) : Grow H0 w0 H w' :=
  hG.grownBy hg fun g h => by cases h; exact ⟨hm.out, hb⟩
theorem two_one {u1 u2 : Value} (h1 : u1.oneCell' = true) (h2 : u2.oneCell' = true) : OneCells [u1, u2] := by
  intro u hu
  simp at hu
  rcases hu with rfl | rfl
  · exact h1
  · exact h2
theorem ptWith_c {u : Value} {es2 : List Ent} {ks2 : List (Nd h)} (hp : PtAt H h v es ks) (hq : PtAt H h u es2 ks2) (h1 : es.length ≤ 1000) (h2 : ks.length ≤ 1000) (h3 : es2.length ≤ 1000) (h4 : ks2.length ≤ 1000) :
    Fn Try.prog 101 [v, u] H fun r H' => PtAt H' h r (es ++ es2) (ks ++ ks2) := by
  obtain ⟨A, c, B, d, rfl, p1, p2, p4, p5, p6⟩ := hp
  obtain ⟨A2, c2, B2, d2, rfl, q1, q2, q4, q5, q6⟩ := hq
  have e1 : (es ++ es2).length = es.length + es2.length := by simp
  have e2 : (ks ++ ks2).length = ks.length + ks2.length := by simp
  refine Fn_of_CW Try.func101 rfl Try.ntmps101 Try.results101 rfl fun w hS => ?_; have hG := Grow.refl hS; have hS0 := hS
  (refine CW_seq ?_; refine CW_region rfl ?_)
  (refine S_op (W_boxAgg hS (by rfl) ?_)); intro H w _ hG' hb2; replace hG := hG.trans hG'; replace hS := hG'.sub; replace p4 := p4.mono hG'.le; replace p5 := p5.mono hG'.le; replace p6 := p6.mono hG'.le; replace q4 := q4.mono hG'.le; replace q5 := q5.mono hG'.le; replace q6 := q6.mono hG'.le; clear hG'
  (refine S_op (W_boxAgg hS (by rfl) ?_)); intro H w _ hG' hb3; replace hG := hG.trans hG'; replace hS := hG'.sub; replace p4 := p4.mono hG'.le; replace p5 := p5.mono hG'.le; replace p6 := p6.mono hG'.le; replace q4 := q4.mono hG'.le; replace q5 := q5.mono hG'.le; replace q6 := q6.mono hG'.le; replace hb2 := hG'.le _ _ hb2; clear hG'
  refine S_op ?_
  refine W_alloc hS ?_
  intro w b hG' hbw hm
  replace hbw := hG.base hbw
  replace hG := hG.trans hG'
  replace hS := hG'.sub
  replace hm : Mut H w b [.slice none 0 0, .slice none 0 0] := hm
  clear hG'
  (refine S_nil ?_; refine CW_seq ?_)
  apply CW_region_eff (fun H w => Mut H w b [.slice none 0 0, .slice none 0 0]) (MutPt b h (es ++ es2) (ks ++ ks2)) 0 [_, _, _, _, _, _, _, _, _, _, _, _, _, _] [none, none, none, none, none, none, none, none, none, none, none, none, none, some 0] [some 5, some 6, some 7, some 8, some 9, some 10, some 11, some 12, some 13, some 14, some 15, some 16, some 17, none] [5, 6, 7, 8, 9, 10, 11, 12, 13, 14, 15, 16, 17] mixed rfl rfl rfl rfl (by decide) rfl rfl rfl (by assumption)
  · exact hm
  · exact closedMut b _
  · exact closedPt b h _ _
  · ((apply steps_cons; case h1 => (apply A_pure; intro c u H' w' hG; have hS' := hG.sub; have hS2' := hG.subOld; (repeat (first | refine depGo_eq rfl rfl rfl ?_ | (refine depGo_fact rfl rfl rfl ?_; intro v hv) | refine depGo_skip rfl ?_ | refine depGo_none rfl ?_)); apply Pure1.mk; intro K hk; exact W_field (by first | rfl | assumption) hk)); (apply steps_cons; case h1 => (apply A_pure; intro c u H' w' hG; have hS' := hG.sub; have hS2' := hG.subOld; (repeat (first | refine depGo_eq rfl rfl rfl ?_ | (refine depGo_fact rfl rfl rfl ?_; intro v hv) | refine depGo_skip rfl ?_ | refine depGo_none rfl ?_)); apply Pure1.mk; intro K hk; exact W_loadHL (by first | rfl | assumption) (by assumption) (by rfl) (by assumption) hk)); (apply steps_cons; case h1 => (apply A_pure; intro c u H' w' hG; have hS' := hG.sub; have hS2' := hG.subOld; (repeat (first | refine depGo_eq rfl rfl rfl ?_ | (refine depGo_fact rfl rfl rfl ?_; intro v hv) | refine depGo_skip rfl ?_ | refine depGo_none rfl ?_)); apply Pure1.mk; intro K hk; exact W_field (by first | rfl | assumption) hk)); (apply steps_cons; case h1 => (apply A_pure; intro c u H' w' hG; have hS' := hG.sub; have hS2' := hG.subOld; (repeat (first | refine depGo_eq rfl rfl rfl ?_ | (refine depGo_fact rfl rfl rfl ?_; intro v hv) | refine depGo_skip rfl ?_ | refine depGo_none rfl ?_)); apply Pure1.mk; intro K hk; exact W_loadHL (by first | rfl | assumption) (by assumption) (by rfl) (by assumption) hk)))
    apply steps_cons
    · refine A_fact (φ := fun v H => IsCat 2 v 2 (es.length + es2.length) (entCells es ++ entCells es2) H) ?_
      intro c' u H' w' hG'
      have hS' := hG'.sub
      (repeat (first | refine depGo_eq rfl rfl rfl ?_ | (refine depGo_fact rfl rfl rfl ?_; intro v hv) | refine depGo_skip rfl ?_ | refine depGo_none rfl ?_))
      refine depGo_nil ?_
      refine W_buildOnes hS' (by omega) (by rfl) (by rfl) ?_
      intro H3 w3 g hG3 hb3 _ _
      exact ⟨H3, hG3.le, hG'.trans hG3, fun H'' hle => (isCat2 hb3 hG3.le ⟨A, c, rfl, p1, SlAt.mono p4 hG'.le, entCells_length _⟩ ⟨A2, c2, rfl, q1, SlAt.mono q4 hG'.le, entCells_length _⟩ (entCells_one _) (entCells_one _)).mono hle⟩
    (apply steps_cons; case h1 => (refine A_fact (φ := (fun v H => IsSl 2 v (es.length + es2.length) (entCells es ++ entCells es2) H)) ?_; intro c' u H' w' hG'; have hS' := hG'.sub; (repeat (first | refine depGo_eq rfl rfl rfl ?_ | (refine depGo_fact rfl rfl rfl ?_; intro v hv) | refine depGo_skip rfl ?_ | refine depGo_none rfl ?_)); have hcat := hv; refine depGo_nil ?_; refine W_call hS' (by rfl) (cat_Ent H' _ _ _ _ hcat (by omega) (by omega)) ?_; intro v H3 w3 hG3 hr; exact ⟨H3, hG3.le, hG'.trans hG3, fun H'' hle => hr.mono hle⟩))
    ((apply steps_cons; case h1 => (apply A_pure; intro c u H' w' hG; have hS' := hG.sub; have hS2' := hG.subOld; (repeat (first | refine depGo_eq rfl rfl rfl ?_ | (refine depGo_fact rfl rfl rfl ?_; intro v hv) | refine depGo_skip rfl ?_ | refine depGo_none rfl ?_)); apply Pure1.mk; intro K hk; exact W_field (by first | rfl | assumption) hk)); (apply steps_cons; case h1 => (apply A_pure; intro c u H' w' hG; have hS' := hG.sub; have hS2' := hG.subOld; (repeat (first | refine depGo_eq rfl rfl rfl ?_ | (refine depGo_fact rfl rfl rfl ?_; intro v hv) | refine depGo_skip rfl ?_ | refine depGo_none rfl ?_)); apply Pure1.mk; intro K hk; exact W_loadHL (by first | rfl | assumption) (by assumption) (by rfl) (by assumption) hk)); (apply steps_cons; case h1 => (apply A_pure; intro c u H' w' hG; have hS' := hG.sub; have hS2' := hG.subOld; (repeat (first | refine depGo_eq rfl rfl rfl ?_ | (refine depGo_fact rfl rfl rfl ?_; intro v hv) | refine depGo_skip rfl ?_ | refine depGo_none rfl ?_)); apply Pure1.mk; intro K hk; exact W_field (by first | rfl | assumption) hk)); (apply steps_cons; case h1 => (apply A_pure; intro c u H' w' hG; have hS' := hG.sub; have hS2' := hG.subOld; (repeat (first | refine depGo_eq rfl rfl rfl ?_ | (refine depGo_fact rfl rfl rfl ?_; intro v hv) | refine depGo_skip rfl ?_ | refine depGo_none rfl ?_)); apply Pure1.mk; intro K hk; exact W_loadHL (by first | rfl | assumption) (by assumption) (by rfl) (by assumption) hk)))
    apply steps_cons
    · refine A_fact (φ := fun v H => IsCat 1 v 2 (ks.length + ks2.length) (ks.map Nd.ptr ++ ks2.map Nd.ptr) H) ?_
      intro c' u H' w' hG'
      have hS' := hG'.sub
      (repeat (first | refine depGo_eq rfl rfl rfl ?_ | (refine depGo_fact rfl rfl rfl ?_; intro v hv) | refine depGo_skip rfl ?_ | refine depGo_none rfl ?_))
      refine depGo_nil ?_
      refine W_buildOnes hS' (by omega) (by rfl) (by rfl) ?_
      intro H3 w3 g hG3 hb3 _ _
      exact ⟨H3, hG3.le, hG'.trans hG3, fun H'' hle => (isCat2 hb3 hG3.le ⟨B, d, rfl, p2, SlAt.mono p5 hG'.le, by simp⟩ ⟨B2, d2, rfl, q2, SlAt.mono q5 hG'.le, by simp⟩ (ptr_one _) (ptr_one _)).mono hle⟩
    (apply steps_cons; case h1 => (refine A_fact (φ := (fun v H => IsSl 1 v (ks.length + ks2.length) (ks.map Nd.ptr ++ ks2.map Nd.ptr) H)) ?_; intro c' u H' w' hG'; have hS' := hG'.sub; (repeat (first | refine depGo_eq rfl rfl rfl ?_ | (refine depGo_fact rfl rfl rfl ?_; intro v hv) | refine depGo_skip rfl ?_ | refine depGo_none rfl ?_)); rename_i v1 hv1; have hcat := hv1; refine depGo_nil ?_; refine W_call hS' (by rfl) (cat_Node H' _ _ _ _ hcat (by omega) (by omega)) ?_; intro v H3 w3 hG3 hr; exact ⟨H3, hG3.le, hG'.trans hG3, fun H'' hle => hr.mono hle⟩))
    apply steps_cons
    · refine A_fact (φ := fun v H => PtAt H h v (es ++ es2) (ks ++ ks2)) ?_
      intro c' u H' w' hG'
      have hS' := hG'.sub
      (repeat (first | refine depGo_eq rfl rfl rfl ?_ | (refine depGo_fact rfl rfl rfl ?_; intro v hv) | refine depGo_skip rfl ?_ | refine depGo_none rfl ?_))
      rename_i v1 hv1
      obtain ⟨A3, c3, rfl, r1, r2, _⟩ := hv1
      obtain ⟨B3, d3, rfl, s1, s2, _⟩ := hv
      refine depGo_nil ?_
      refine W_build (by rfl) ?_
      refine ⟨H', HLe.refl _, hG', fun H'' hle => ⟨A3, c3, B3, d3, by rw [e1, e2]; rfl, by omega, by omega, ?_, ?_, (p6.append q6).mono hG'.le |>.mono hle⟩⟩
      · show SlAt H'' A3 _
        rw [entCells_append]; exact r2.mono hle
      · rw [List.map_append]; exact s2.mono hle
    apply steps_cons
    · refine A_eff (φ := fun _ _ => True) ?_
      intro u' H' w' hG'
      (repeat (first | refine depGo_eq rfl rfl rfl ?_ | (refine depGo_fact rfl rfl rfl ?_; intro v hv) | refine depGo_skip rfl ?_ | refine depGo_none rfl ?_))
      obtain ⟨A3, c3, B3, d3, rfl, r1, r2, r4, r5, r6⟩ := hv
      refine depGo_nil ?_
      have hm' := hG'.m (Nat.le_refl _)
      refine W_storeM (b := b) (o := 0) (vs := [.slice A3 (es ++ es2).length c3, .slice B3 (ks ++ ks2).length d3]) (by rfl) (by rfl) hm' (by rfl) (two_one rfl rfl) (by rfl) (Nat.le_refl 2) ?_
      intro w3 hg3 hm3
      exact ⟨H', HLe.refl _, hG'.next (grown_own hG'.grow hg3 hm' hbw) ⟨_, _, hm3, A3, c3, B3, d3, rfl, r1, r2, r4, r5, r6⟩, fun _ _ => trivial⟩
    exact trivial
  · intro H' w' hG' hle' hF
    (repeat (first | refine fin_eq rfl rfl ?_ | (refine fin_fact rfl ?_; intro v hv) | refine fin_none rfl ?_)); refine fin_nil ?_
    (refine CW_ret ?_)
    obtain ⟨u1, u2, hm', hp'⟩ := hF
    exact ⟨_, ResW_cell rfl hm' rfl, H', hG', hp'⟩
theorem ofLeaf_c {x : Nd 0} (k : Nat) (hx : NodeAt H 0 x) : Fn Try.prog 100 [x.ptr] H fun r H' => PtAt H' k r x.ents ([] : List (Nd k)) := by
  refine Fn_of_CW Try.func100 rfl Try.ntmps100 Try.results100 rfl fun w hS => ?_; have hG := Grow.refl hS; have hS0 := hS
  (refine CW_seq ?_; refine CW_region rfl ?_)
  refine S_op ?_
  refine W_alloc hS ?_
  intro w b hG' hbw hm
  replace hbw := hG.base hbw
  replace hG := hG.trans hG'
  replace hS := hG'.sub
  replace hm : Mut H w b [.slice none 0 0, .slice none 0 0] := hm
  clear hG'
  (refine S_nil ?_; refine CW_seq ?_; refine CW_region rfl ?_; refine S_op ?_; refine W_movePtr (by first | rfl | assumption) ?_)
  (refine S_op ?_; refine W_call hS (by rfl) (entries_c hx) ?_); rintro v H w hG' hv; replace hG := hG.trans hG'; replace hS := hG'.sub; replace hx := hx.mono hG'.le; replace hm := hm.grow hG'; clear hG'
  obtain ⟨A, c, rfl, hc, hl⟩ := hv
  (refine S_op ?_; refine W_movePtr (by first | rfl | assumption) ?_)
  (refine S_op ?_; refine W_call hS (by rfl) (kids_leaf hx) ?_); rintro v H w hG' rfl; replace hG := hG.trans hG'; replace hS := hG'.sub; replace hx := hx.mono hG'.le; replace hl := hl.mono hG'.le; replace hm := hm.grow hG'; clear hG'
  (refine S_op ?_; refine W_build (by rfl) ?_)
  refine S_op0 ?_
  refine W_storeM (b := b) (o := 0) (vs := [.slice A x.ents.length c, .slice none 0 0]) (by rfl) (by rfl) hm (by rfl) (two_one rfl rfl) (by rfl) (Nat.le_refl 2) ?_
  intro w3 hg3 hm3
  (refine S_nil ?_; refine CW_ret ?_)
  exact ⟨_, ResW_cell rfl hm3 rfl, H, grown_own hG hg3 hm hbw, A, c, none, 0, rfl, hc, Nat.le_refl _, hl, .inl rfl, by intro k hk; cases hk⟩
theorem ofBranch_c {x : Nd (h + 1)} (hx : NodeAt H (h + 1) x) : Fn Try.prog 100 [x.ptr] H fun r H' => PtAt H' h r [] x.kids := by
  refine Fn_of_CW Try.func100 rfl Try.ntmps100 Try.results100 rfl fun w hS => ?_; have hG := Grow.refl hS; have hS0 := hS
  (refine CW_seq ?_; refine CW_region rfl ?_)
  refine S_op ?_
  refine W_alloc hS ?_
  intro w b hG' hbw hm
  replace hbw := hG.base hbw
  replace hG := hG.trans hG'
  replace hS := hG'.sub
  replace hm : Mut H w b [.slice none 0 0, .slice none 0 0] := hm
  clear hG'
  (refine S_nil ?_; refine CW_seq ?_; refine CW_region rfl ?_; refine S_op ?_; refine W_movePtr (by first | rfl | assumption) ?_)
  (refine S_op ?_; refine W_call hS (by rfl) (entries_branch hx) ?_); rintro v H w hG' rfl; replace hG := hG.trans hG'; replace hS := hG'.sub; replace hx := hx.mono hG'.le; replace hm := hm.grow hG'; clear hG'
  (refine S_op ?_; refine W_movePtr (by first | rfl | assumption) ?_)
  (refine S_op ?_; refine W_call hS (by rfl) (kids_c hx) ?_); rintro v H w hG' hv; replace hG := hG.trans hG'; replace hS := hG'.sub; replace hx := hx.mono hG'.le; replace hm := hm.grow hG'; clear hG'
  obtain ⟨B, d, rfl, hd, hsl, _⟩ := hv
  (refine S_op ?_; refine W_build (by rfl) ?_)
  refine S_op0 ?_
  refine W_storeM (b := b) (o := 0) (vs := [.slice none 0 0, .slice B x.kids.length d]) (by rfl) (by rfl) hm (by rfl) (two_one rfl rfl) (by rfl) (Nat.le_refl 2) ?_
  intro w3 hg3 hm3
  (refine S_nil ?_; refine CW_ret ?_)
  exact ⟨_, ResW_cell rfl hm3 rfl, H, grown_own hG hg3 hm hbw, none, 0, B, d, rfl, Nat.le_refl _, hd, .inl rfl, hsl, hx.kids⟩
theorem nodesLeaf_c (hp : PtAt H h v es ([] : List (Nd h))) (hr : riseB es = true) (ho : ∀ e ∈ es, entOk e = true) (h8 : es.length ≤ 8) :
    Fn Try.prog 74 [v] H fun r H' => ∃ out, NdsAt H' 0 r out ∧ leavesOut es out ∧ ∀ k ∈ out, H k.blk = none := by
  obtain ⟨A, c, B, d, rfl, h1, h2, h4, h5, h6⟩ := hp
  refine Fn_of_CW Try.func74 rfl Try.ntmps74 Try.results74 rfl fun w hS => ?_; have hG := Grow.refl hS; have hS0 := hS
  (refine CW_seq ?_; refine CW_region rfl ?_)
  (refine S_op (W_boxAgg hS (by rfl) ?_)); intro H w _ hG' hb; replace hG := hG.trans hG'; replace hS := hG'.sub; replace h4 := h4.mono hG'.le; clear hG'
  have hle := hG.le
  (refine S_op ?_; refine W_assignSl (by first | rfl | assumption) ?_; refine S_nil ?_; refine CW_seq ?_; refine CW_seq ?_; refine CW_region rfl ?_; refine S_op ?_; refine W_field (by first | rfl | assumption) ?_; refine S_op ?_; refine W_loadHL (by first | rfl | assumption) (by assumption) (by rfl) (by assumption) ?_; refine S_op ?_; refine W_len (by first | rfl | assumption) ?_; refine S_op ?_; refine W_gtrC (by first | rfl | assumption) ?_; refine S_nil ?_; refine CW_false (by first | rfl | assumption) ?_; refine CW_skip ?_; refine CW_seq ?_; refine CW_region rfl ?_; refine S_op ?_; refine W_field (by first | rfl | assumption) ?_; refine S_op ?_; refine W_loadHL (by first | rfl | assumption) (by assumption) (by rfl) (by assumption) ?_)
  (refine S_op ?_; refine W_call hS (by rfl) (leaves_c H A c es h4 h1 hr ho h8) ?_); rintro v H w hG' ⟨out, ⟨B2, d2, rfl, q1, q2, q3⟩, q4, q5⟩; replace hG := hG.trans hG'; replace hS := hG'.sub; clear hG'
  (refine S_op ?_; refine W_assignSl (by first | rfl | assumption) ?_; refine S_nil ?_; refine CW_ret ?_)
  exact ⟨_, ResW_one (v := .slice _ _ _) rfl, H, hG, out, ⟨B2, d2, rfl, q1, q2, q3⟩, q4, fun k hk => hle.none (q5 k hk)⟩
theorem nodesBranch_c (hp : PtAt H h v es ks) (h2 : 2 ≤ ks.length) (h8 : ks.length ≤ 12) (hch : Nd.chain ks = true) (hh : h ≤ 900000) :
    Fn Try.prog 74 [v] H fun r H' => ∃ out, NdsAt H' (h + 1) r out ∧ branchesOut ks out ∧ ∀ k ∈ out, H k.blk = none := by
  obtain ⟨A, c, B, d, rfl, h1, h3, h4, h5, h6⟩ := hp
  refine Fn_of_CW Try.func74 rfl Try.ntmps74 Try.results74 rfl fun w hS => ?_; have hG := Grow.refl hS; have hS0 := hS
  (refine CW_seq ?_; refine CW_region rfl ?_)
  (refine S_op (W_boxAgg hS (by rfl) ?_)); intro H w _ hG' hb; replace hG := hG.trans hG'; replace hS := hG'.sub; replace h5 := h5.mono hG'.le; replace h6 := h6.mono hG'.le; clear hG'
  have hle := hG.le
  (refine S_op ?_; refine W_assignSl (by first | rfl | assumption) ?_; refine S_nil ?_; refine CW_seq ?_; refine CW_seq ?_; refine CW_region rfl ?_; refine S_op ?_; refine W_field (by first | rfl | assumption) ?_; refine S_op ?_; refine W_loadHL (by first | rfl | assumption) (by assumption) (by rfl) (by assumption) ?_; refine S_op ?_; refine W_len (by first | rfl | assumption) ?_; refine S_op ?_; refine W_gtrT (by first | rfl | assumption) (by first | rfl | assumption) (by first | omega | rfl) ?_; refine S_nil ?_; refine CW_true (by first | rfl | assumption) ?_; refine CW_seq ?_; refine CW_region rfl ?_; refine S_op ?_; refine W_field (by first | rfl | assumption) ?_; refine S_op ?_; refine W_loadHL (by first | rfl | assumption) (by assumption) (by rfl) (by assumption) ?_)
  (refine S_op ?_; refine W_call hS (by rfl) (branches_c H B d h ks h5 h6 h3 h2 h8 hch hh) ?_); rintro v H w hG' ⟨out, ⟨B2, d2, rfl, q1, q2, q3⟩, q4, q5⟩; replace hG := hG.trans hG'; replace hS := hG'.sub; clear hG'
  (refine S_op ?_; refine W_assignSl (by first | rfl | assumption) ?_; refine S_nil ?_; refine CW_ret ?_)
  exact ⟨_, ResW_one (v := .slice _ _ _) rfl, H, hG, out, ⟨B2, d2, rfl, q1, q2, q3⟩, q4, fun k hk => hle.none (q5 k hk)⟩
theorem nodesOne_c (hp : PtAt H h v es ks) (h2 : ks.length = 1) :
    Fn Try.prog 74 [v] H fun r H' => NdsAt H' h r ks := by
  obtain ⟨A, c, B, d, rfl, h1, h3, h4, h5, h6⟩ := hp
  refine Fn_of_CW Try.func74 rfl Try.ntmps74 Try.results74 rfl fun w hS => ?_; have hG := Grow.refl hS; have hS0 := hS
  (refine CW_seq ?_; refine CW_region rfl ?_)
  (refine S_op (W_boxAgg hS (by rfl) ?_)); intro H w _ hG' hb; replace hG := hG.trans hG'; replace hS := hG'.sub; replace h5 := h5.mono hG'.le; replace h6 := h6.mono hG'.le; clear hG'
  have hq : 0 < ks.length := by omega
  (refine S_op ?_; refine W_assignSl (by first | rfl | assumption) ?_; refine S_nil ?_; refine CW_seq ?_; refine CW_seq ?_; refine CW_region rfl ?_; refine S_op ?_; refine W_field (by first | rfl | assumption) ?_; refine S_op ?_; refine W_loadHL (by first | rfl | assumption) (by assumption) (by rfl) (by assumption) ?_; refine S_op ?_; refine W_len (by first | rfl | assumption) ?_; refine S_op ?_; refine W_gtrT (by first | rfl | assumption) (by first | rfl | assumption) (by first | omega | rfl) ?_; refine S_nil ?_; refine CW_true (by first | rfl | assumption) ?_; refine CW_seq ?_; refine CW_region rfl ?_; refine S_op ?_; refine W_field (by first | rfl | assumption) ?_; refine S_op ?_; refine W_loadHL (by first | rfl | assumption) (by assumption) (by rfl) (by assumption) ?_)
  (refine S_op ?_; refine W_call hS (by rfl) (branches0_c H B ks.length d (by omega)) ?_); rintro v H w hG' rfl; replace hG := hG.trans hG'; replace hS := hG'.sub; replace h5 := h5.mono hG'.le; replace h6 := h6.mono hG'.le; clear hG'
  (refine S_op ?_; refine W_assignSl (by first | rfl | assumption) ?_; refine S_nil ?_; refine CW_ret ?_)
  exact ⟨_, ResW_one (v := .slice _ _ _) rfl, H, hG, B, d, rfl, h3, h5, h6⟩
end
end Go.Proofs.Ytnjeoobcejlojaa
