/- Texts of this proof in one file, each with its conditions ahead of it. First: tree: what is left of a node that something was taken from: walked. Conditions: sizes. -/
import Derived.Test.YtgaabmoknpifnaaBookWalkAgain1
import Derived.Test.YtgaabmoknpifnaaPtrEq
import Derived.Test.YtgaabmoknpifnaaMut
import Derived.Test.YtgaabmoknpifnaaNew
namespace Go.Proofs.Ytgaabmoknpifnaa
open Go.Proofs Go.RowKit
set_option linter.unusedVariables false
attribute [local irreducible] CW SeqW OpW
set_option maxHeartbeats 4000000
/-- Parts: entries and kids. -/
def PtAt (H : HF) (h : Nat) (v : Value) (es : List Ent) (ks : List (Nd h)) : Prop :=
  ∃ A c B d, v = .agg #[.slice A es.length c, .slice B ks.length d] ∧ es.length ≤ c ∧ ks.length ≤ d ∧ EntsAt H A es ∧ SlAt H B (ks.map Nd.ptr) ∧ AllAt H h ks
theorem PtAt.mono {H H' : HF} {h : Nat} {v : Value} {es : List Ent} {ks : List (Nd h)} (hp : PtAt H h v es ks) (hle : HLe H H') : PtAt H' h v es ks := by
  obtain ⟨A, c, B, d, h1, h2, h3, h4, h5, h6⟩ := hp
  exact ⟨A, c, B, d, h1, h2, h3, h4.mono hle, h5.mono hle, h6.mono hle⟩
theorem closedMut (b : Nat) (cs : List Value) : Closed fun H w => Mut H w b cs := fun _ _ _ _ h k => h.grow k
theorem Closed.and {M N : HF → World → Prop} (h : Closed M) (k : Closed N) : Closed fun H w => M H w ∧ N H w := fun _ _ _ _ hm hg => ⟨h _ _ _ _ hm.1 hg, k _ _ _ _ hm.2 hg⟩
/-- A variable of the call's own holds parts. -/
def MutPt (b h : Nat) (es : List Ent) (ks : List (Nd h)) (H : HF) (w : World) : Prop := ∃ u1 u2, Mut H w b [u1, u2] ∧ PtAt H h (.agg #[u1, u2]) es ks
theorem closedPt (b h : Nat) (es : List Ent) (ks : List (Nd h)) : Closed (MutPt b h es ks) := fun _ _ _ _ ⟨u1, u2, hm, hp⟩ hg => ⟨u1, u2, hm.grow hg, hp.mono hg.le⟩
section
variable {H : HF} {h : Nat} {v : Value} {es : List Ent} {ks : List (Nd h)}
theorem ptSize_c (hp : PtAt H h v es ks) (h1 : es.length ≤ 1000) (h2 : ks.length ≤ 1000) : Fn Try.prog 74 [v] H fun r _ => r = .int .i64 ((es.length + ks.length : Nat) : Int) := by
  obtain ⟨A, c, B, d, rfl, h1, h2, h4, h5, h6⟩ := hp
  refine Fn_of_CW Try.func74 rfl Try.ntmps74 Try.results74 rfl fun w hS => ?_; have hG := Grow.refl hS; have hS0 := hS
  (refine CW_seq ?_; refine CW_region rfl ?_)
  (refine S_op (W_boxAgg hS (by rfl) ?_)); intro H w _ hG' hb; replace hG := hG.trans hG'; replace hS := hG'.sub; clear hG'
  (refine S_op ?_; refine W_assignInt (by first | rfl | assumption) ?_; refine S_nil ?_; refine CW_seq ?_; refine CW_region rfl ?_; refine S_op ?_; refine W_field (by first | rfl | assumption) ?_; refine S_op ?_; refine W_loadHL (by first | rfl | assumption) (by assumption) (by rfl) (by assumption) ?_; refine S_op ?_; refine W_len (by first | rfl | assumption) ?_; refine S_op ?_; refine W_field (by first | rfl | assumption) ?_; refine S_op ?_; refine W_loadHL (by first | rfl | assumption) (by assumption) (by rfl) (by assumption) ?_; refine S_op ?_; refine W_len (by first | rfl | assumption) ?_; refine S_op ?_; refine W_addN (by first | rfl | assumption) (by first | rfl | assumption) (by omega) ?_; refine S_op ?_; refine W_assignInt (by first | rfl | assumption) ?_; refine S_nil ?_; refine CW_ret ?_)
  exact ⟨_, ResW_one (v := .int _ _) rfl, H, hG, rfl⟩
theorem least_c (H : HF) (n : Nat) : Fn Try.prog 75 [.int .i64 (n : Int)] H fun r _ => r = .int .i64 ((if n = 1 then 2 else 3 : Nat) : Int) := by
  refine Fn_of_CW Try.func75 rfl Try.ntmps75 Try.results75 rfl fun w hS => ?_; have hG := Grow.refl hS; have hS0 := hS
  by_cases h1 : n = 1
  · (refine CW_seq ?_; refine CW_region rfl ?_; refine S_op ?_; refine W_assignInt (by first | rfl | assumption) ?_; refine S_nil ?_; refine CW_seq ?_; refine CW_seq ?_; refine CW_region rfl ?_; refine S_op ?_; refine W_moveInt (by first | rfl | assumption) ?_; refine S_op ?_; refine W_eqlT (by first | rfl | assumption) (by first | rfl | assumption) (by first | omega | rfl) ?_; refine S_nil ?_; refine CW_true (by first | rfl | assumption) ?_; refine CW_seq ?_; refine CW_region rfl ?_; refine S_op ?_; refine W_assignInt (by first | rfl | assumption) ?_; refine S_nil ?_; refine CW_ret ?_)
    exact ⟨_, ResW_one (v := .int _ _) rfl, H, hG, by rw [if_pos h1]; rfl⟩
  · (refine CW_seq ?_; refine CW_region rfl ?_; refine S_op ?_; refine W_assignInt (by first | rfl | assumption) ?_; refine S_nil ?_; refine CW_seq ?_; refine CW_seq ?_; refine CW_region rfl ?_; refine S_op ?_; refine W_moveInt (by first | rfl | assumption) ?_; refine S_op ?_; refine W_eqlF (by first | rfl | assumption) (by first | rfl | assumption) (by first | omega | rfl) ?_; refine S_nil ?_; refine CW_false (by first | rfl | assumption) ?_; refine CW_skip ?_; refine CW_seq ?_; refine CW_region rfl ?_; refine S_op ?_; refine W_assignInt (by first | rfl | assumption) ?_; refine S_nil ?_; refine CW_ret ?_)
    exact ⟨_, ResW_one (v := .int _ _) rfl, H, hG, by rw [if_neg h1]; rfl⟩
theorem Grow.base {H0 H : HF} {w0 w : World} {b : Nat} (hG : Grow H0 w0 H w) (e : w.heap.size = b) : w0.heap.size ≤ b := by have := hG.below.size; omega
theorem grown_own {H0 H : HF} {w0 w w' : World} {b : Nat} {cs : List Value} (hG : Grow H0 w0 H w) (hg : w.grownBy w' (some b)) (hm : Mut H w b cs) (hb : w0.heap.size ≤ b) : Grow H0 w0 H w' :=
  hG.grownBy hg fun g h => by cases h; exact ⟨hm.out, hb⟩
theorem two_one {u1 u2 : Value} (h1 : u1.oneCell' = true) (h2 : u2.oneCell' = true) : OneCells [u1, u2] := by
  intro u hu
  simp at hu
  rcases hu with rfl | rfl
  · exact h1
  · exact h2
theorem ptWith_c {u : Value} {es2 : List Ent} {ks2 : List (Nd h)} (hp : PtAt H h v es ks) (hq : PtAt H h u es2 ks2) (h1 : es.length ≤ 1000) (h2 : ks.length ≤ 1000) (h3 : es2.length ≤ 1000) (h4 : ks2.length ≤ 1000) :
    Fn Try.prog 77 [v, u] H fun r H' => PtAt H' h r (es ++ es2) (ks ++ ks2) := by
  obtain ⟨A, c, B, d, rfl, p1, p2, p4, p5, p6⟩ := hp
  obtain ⟨A2, c2, B2, d2, rfl, q1, q2, q4, q5, q6⟩ := hq
  have e1 : (es ++ es2).length = es.length + es2.length := by simp
  have e2 : (ks ++ ks2).length = ks.length + ks2.length := by simp
  refine Fn_of_CW Try.func77 rfl Try.ntmps77 Try.results77 rfl fun w hS => ?_; have hG := Grow.refl hS; have hS0 := hS
  (refine CW_seq ?_; refine CW_region rfl ?_)
  (refine S_op (W_boxAgg hS (by rfl) ?_)); intro H w _ hG' hb2; replace hG := hG.trans hG'; replace hS := hG'.sub; replace p4 := p4.mono hG'.le; replace p5 := p5.mono hG'.le; replace p6 := p6.mono hG'.le; replace q4 := q4.mono hG'.le; replace q5 := q5.mono hG'.le; replace q6 := q6.mono hG'.le; clear hG'
  (refine S_op (W_boxAgg hS (by rfl) ?_)); intro H w _ hG' hb3; replace hG := hG.trans hG'; replace hS := hG'.sub; replace p4 := p4.mono hG'.le; replace p5 := p5.mono hG'.le; replace p6 := p6.mono hG'.le; replace q4 := q4.mono hG'.le; replace q5 := q5.mono hG'.le; replace q6 := q6.mono hG'.le; replace hb2 := hG'.le _ _ hb2; clear hG'
  refine S_op ?_
  refine W_alloc hS ?_
  intro w b hG' hbw hm
  replace hbw := hG.base hbw
  replace hG := hG.trans hG'
  replace hS := hG'.sub
  replace hm : Mut H w b [.slice none 0 0, .slice none 0 0] := hm
  clear hG'
  (refine S_nil ?_; refine CW_seq ?_)
  apply CW_region_eff (fun H w => Mut H w b [.slice none 0 0, .slice none 0 0]) (MutPt b h (es ++ es2) (ks ++ ks2)) 0 [_, _, _, _, _, _, _, _, _, _, _, _, _, _] [none, none, none, none, none, none, none, none, none, none, none, none, none, some 0] [some 5, some 6, some 7, some 8, some 9, some 10, some 11, some 12, some 13, some 14, some 15, some 16, some 17, none] [5, 6, 7, 8, 9, 10, 11, 12, 13, 14, 15, 16, 17] mixed rfl rfl rfl rfl (by decide) rfl rfl rfl (by assumption)
  · exact hm
  · exact closedMut b _
  · exact closedPt b h _ _
  · ((apply steps_cons; case h1 => (apply A_pure; intro c u H' w' hG; have hS' := hG.sub; have hS2' := hG.subOld; (repeat (first | refine depGo_eq rfl rfl rfl ?_ | (refine depGo_fact rfl rfl rfl ?_; intro v hv) | refine depGo_skip rfl ?_ | refine depGo_none rfl ?_)); apply Pure1.mk; intro K hk; exact W_field (by first | rfl | assumption) hk)); (apply steps_cons; case h1 => (apply A_pure; intro c u H' w' hG; have hS' := hG.sub; have hS2' := hG.subOld; (repeat (first | refine depGo_eq rfl rfl rfl ?_ | (refine depGo_fact rfl rfl rfl ?_; intro v hv) | refine depGo_skip rfl ?_ | refine depGo_none rfl ?_)); apply Pure1.mk; intro K hk; exact W_loadHL (by first | rfl | assumption) (by assumption) (by rfl) (by assumption) hk)); (apply steps_cons; case h1 => (apply A_pure; intro c u H' w' hG; have hS' := hG.sub; have hS2' := hG.subOld; (repeat (first | refine depGo_eq rfl rfl rfl ?_ | (refine depGo_fact rfl rfl rfl ?_; intro v hv) | refine depGo_skip rfl ?_ | refine depGo_none rfl ?_)); apply Pure1.mk; intro K hk; exact W_field (by first | rfl | assumption) hk)); (apply steps_cons; case h1 => (apply A_pure; intro c u H' w' hG; have hS' := hG.sub; have hS2' := hG.subOld; (repeat (first | refine depGo_eq rfl rfl rfl ?_ | (refine depGo_fact rfl rfl rfl ?_; intro v hv) | refine depGo_skip rfl ?_ | refine depGo_none rfl ?_)); apply Pure1.mk; intro K hk; exact W_loadHL (by first | rfl | assumption) (by assumption) (by rfl) (by assumption) hk)))
    apply steps_cons
    · refine A_fact (φ := fun v H => IsCat 2 v 2 (es.length + es2.length) (entCells es ++ entCells es2) H) ?_
      intro c' u H' w' hG'
      have hS' := hG'.sub
      (repeat (first | refine depGo_eq rfl rfl rfl ?_ | (refine depGo_fact rfl rfl rfl ?_; intro v hv) | refine depGo_skip rfl ?_ | refine depGo_none rfl ?_))
      refine depGo_nil ?_
      refine W_buildOnes hS' (by omega) (by rfl) (by rfl) ?_
      intro H3 w3 g hG3 hb3 _ _
      exact ⟨H3, hG3.le, hG'.trans hG3, fun H'' hle => (isCat2 hb3 hG3.le ⟨A, c, rfl, p1, SlAt.mono p4 hG'.le, entCells_length _⟩ ⟨A2, c2, rfl, q1, SlAt.mono q4 hG'.le, entCells_length _⟩ (entCells_one _) (entCells_one _)).mono hle⟩
    (apply steps_cons; case h1 => (refine A_fact (φ := (fun v H => IsSl 2 v (es.length + es2.length) (entCells es ++ entCells es2) H)) ?_; intro c' u H' w' hG'; have hS' := hG'.sub; (repeat (first | refine depGo_eq rfl rfl rfl ?_ | (refine depGo_fact rfl rfl rfl ?_; intro v hv) | refine depGo_skip rfl ?_ | refine depGo_none rfl ?_)); have hcat := hv; refine depGo_nil ?_; refine W_call hS' (by rfl) (cat_Ent H' _ _ _ _ hcat (by omega) (by omega)) ?_; intro v H3 w3 hG3 hr; exact ⟨H3, hG3.le, hG'.trans hG3, fun H'' hle => hr.mono hle⟩))
    ((apply steps_cons; case h1 => (apply A_pure; intro c u H' w' hG; have hS' := hG.sub; have hS2' := hG.subOld; (repeat (first | refine depGo_eq rfl rfl rfl ?_ | (refine depGo_fact rfl rfl rfl ?_; intro v hv) | refine depGo_skip rfl ?_ | refine depGo_none rfl ?_)); apply Pure1.mk; intro K hk; exact W_field (by first | rfl | assumption) hk)); (apply steps_cons; case h1 => (apply A_pure; intro c u H' w' hG; have hS' := hG.sub; have hS2' := hG.subOld; (repeat (first | refine depGo_eq rfl rfl rfl ?_ | (refine depGo_fact rfl rfl rfl ?_; intro v hv) | refine depGo_skip rfl ?_ | refine depGo_none rfl ?_)); apply Pure1.mk; intro K hk; exact W_loadHL (by first | rfl | assumption) (by assumption) (by rfl) (by assumption) hk)); (apply steps_cons; case h1 => (apply A_pure; intro c u H' w' hG; have hS' := hG.sub; have hS2' := hG.subOld; (repeat (first | refine depGo_eq rfl rfl rfl ?_ | (refine depGo_fact rfl rfl rfl ?_; intro v hv) | refine depGo_skip rfl ?_ | refine depGo_none rfl ?_)); apply Pure1.mk; intro K hk; exact W_field (by first | rfl | assumption) hk)); (apply steps_cons; case h1 => (apply A_pure; intro c u H' w' hG; have hS' := hG.sub; have hS2' := hG.subOld; (repeat (first | refine depGo_eq rfl rfl rfl ?_ | (refine depGo_fact rfl rfl rfl ?_; intro v hv) | refine depGo_skip rfl ?_ | refine depGo_none rfl ?_)); apply Pure1.mk; intro K hk; exact W_loadHL (by first | rfl | assumption) (by assumption) (by rfl) (by assumption) hk)))
    apply steps_cons
    · refine A_fact (φ := fun v H => IsCat 1 v 2 (ks.length + ks2.length) (ks.map Nd.ptr ++ ks2.map Nd.ptr) H) ?_
      intro c' u H' w' hG'
      have hS' := hG'.sub
      (repeat (first | refine depGo_eq rfl rfl rfl ?_ | (refine depGo_fact rfl rfl rfl ?_; intro v hv) | refine depGo_skip rfl ?_ | refine depGo_none rfl ?_))
      refine depGo_nil ?_
      refine W_buildOnes hS' (by omega) (by rfl) (by rfl) ?_
      intro H3 w3 g hG3 hb3 _ _
      exact ⟨H3, hG3.le, hG'.trans hG3, fun H'' hle => (isCat2 hb3 hG3.le ⟨B, d, rfl, p2, SlAt.mono p5 hG'.le, by simp⟩ ⟨B2, d2, rfl, q2, SlAt.mono q5 hG'.le, by simp⟩ (ptr_one _) (ptr_one _)).mono hle⟩
    (apply steps_cons; case h1 => (refine A_fact (φ := (fun v H => IsSl 1 v (ks.length + ks2.length) (ks.map Nd.ptr ++ ks2.map Nd.ptr) H)) ?_; intro c' u H' w' hG'; have hS' := hG'.sub; (repeat (first | refine depGo_eq rfl rfl rfl ?_ | (refine depGo_fact rfl rfl rfl ?_; intro v hv) | refine depGo_skip rfl ?_ | refine depGo_none rfl ?_)); rename_i v1 hv1; have hcat := hv1; refine depGo_nil ?_; refine W_call hS' (by rfl) (cat_Node H' _ _ _ _ hcat (by omega) (by omega)) ?_; intro v H3 w3 hG3 hr; exact ⟨H3, hG3.le, hG'.trans hG3, fun H'' hle => hr.mono hle⟩))
    apply steps_cons
    · refine A_fact (φ := fun v H => PtAt H h v (es ++ es2) (ks ++ ks2)) ?_
      intro c' u H' w' hG'
      have hS' := hG'.sub
      (repeat (first | refine depGo_eq rfl rfl rfl ?_ | (refine depGo_fact rfl rfl rfl ?_; intro v hv) | refine depGo_skip rfl ?_ | refine depGo_none rfl ?_))
      rename_i v1 hv1
      obtain ⟨A3, c3, rfl, r1, r2, _⟩ := hv1
      obtain ⟨B3, d3, rfl, s1, s2, _⟩ := hv
      refine depGo_nil ?_
      refine W_build (by rfl) ?_
      refine ⟨H', HLe.refl _, hG', fun H'' hle => ⟨A3, c3, B3, d3, by rw [e1, e2]; rfl, by omega, by omega, ?_, ?_, (p6.append q6).mono hG'.le |>.mono hle⟩⟩
      · show SlAt H'' A3 _
        rw [entCells_append]; exact r2.mono hle
      · rw [List.map_append]; exact s2.mono hle
    apply steps_cons
    · refine A_eff (φ := fun _ _ => True) ?_
      intro u' H' w' hG'
      (repeat (first | refine depGo_eq rfl rfl rfl ?_ | (refine depGo_fact rfl rfl rfl ?_; intro v hv) | refine depGo_skip rfl ?_ | refine depGo_none rfl ?_))
      obtain ⟨A3, c3, B3, d3, rfl, r1, r2, r4, r5, r6⟩ := hv
      refine depGo_nil ?_
      have hm' := hG'.m (Nat.le_refl _)
      refine W_storeM (b := b) (o := 0) (vs := [.slice A3 (es ++ es2).length c3, .slice B3 (ks ++ ks2).length d3]) (by rfl) (by rfl) hm' (by rfl) (two_one rfl rfl) (by rfl) (Nat.le_refl 2) ?_
      intro w3 hg3 hm3
      exact ⟨H', HLe.refl _, hG'.next (grown_own hG'.grow hg3 hm' hbw) ⟨_, _, hm3, A3, c3, B3, d3, rfl, r1, r2, r4, r5, r6⟩, fun _ _ => trivial⟩
    exact trivial
  · intro H' w' hG' hle' hF
    (repeat (first | refine fin_eq rfl rfl ?_ | (refine fin_fact rfl ?_; intro v hv) | refine fin_none rfl ?_)); refine fin_nil ?_
    (refine CW_ret ?_)
    obtain ⟨u1, u2, hm', hp'⟩ := hF
    exact ⟨_, ResW_cell rfl hm' rfl, H', hG', hp'⟩
theorem ofLeaf_c {x : Nd 0} (k : Nat) (hx : NodeAt H 0 x) : Fn Try.prog 76 [x.ptr] H fun r H' => PtAt H' k r x.ents ([] : List (Nd k)) := by
  refine Fn_of_CW Try.func76 rfl Try.ntmps76 Try.results76 rfl fun w hS => ?_; have hG := Grow.refl hS; have hS0 := hS
  (refine CW_seq ?_; refine CW_region rfl ?_)
  refine S_op ?_
  refine W_alloc hS ?_
  intro w b hG' hbw hm
  replace hbw := hG.base hbw
  replace hG := hG.trans hG'
  replace hS := hG'.sub
  replace hm : Mut H w b [.slice none 0 0, .slice none 0 0] := hm
  clear hG'
  (refine S_nil ?_; refine CW_seq ?_; refine CW_region rfl ?_; refine S_op ?_; refine W_movePtr (by first | rfl | assumption) ?_)
  (refine S_op ?_; refine W_call hS (by rfl) (entries_c hx) ?_); rintro v H w hG' hv; replace hG := hG.trans hG'; replace hS := hG'.sub; replace hx := hx.mono hG'.le; replace hm := hm.grow hG'; clear hG'
  obtain ⟨A, c, rfl, hc, hl⟩ := hv
  (refine S_op ?_; refine W_movePtr (by first | rfl | assumption) ?_)
  (refine S_op ?_; refine W_call hS (by rfl) (kids_leaf hx) ?_); rintro v H w hG' rfl; replace hG := hG.trans hG'; replace hS := hG'.sub; replace hx := hx.mono hG'.le; replace hl := hl.mono hG'.le; replace hm := hm.grow hG'; clear hG'
  (refine S_op ?_; refine W_build (by rfl) ?_)
  refine S_op0 ?_
  refine W_storeM (b := b) (o := 0) (vs := [.slice A x.ents.length c, .slice none 0 0]) (by rfl) (by rfl) hm (by rfl) (two_one rfl rfl) (by rfl) (Nat.le_refl 2) ?_
  intro w3 hg3 hm3
  (refine S_nil ?_; refine CW_ret ?_)
  exact ⟨_, ResW_cell rfl hm3 rfl, H, grown_own hG hg3 hm hbw, A, c, none, 0, rfl, hc, Nat.le_refl _, hl, .inl rfl, by intro k hk; cases hk⟩
theorem ofBranch_c {x : Nd (h + 1)} (hx : NodeAt H (h + 1) x) : Fn Try.prog 76 [x.ptr] H fun r H' => PtAt H' h r [] x.kids := by
  refine Fn_of_CW Try.func76 rfl Try.ntmps76 Try.results76 rfl fun w hS => ?_; have hG := Grow.refl hS; have hS0 := hS
  (refine CW_seq ?_; refine CW_region rfl ?_)
  refine S_op ?_
  refine W_alloc hS ?_
  intro w b hG' hbw hm
  replace hbw := hG.base hbw
  replace hG := hG.trans hG'
  replace hS := hG'.sub
  replace hm : Mut H w b [.slice none 0 0, .slice none 0 0] := hm
  clear hG'
  (refine S_nil ?_; refine CW_seq ?_; refine CW_region rfl ?_; refine S_op ?_; refine W_movePtr (by first | rfl | assumption) ?_)
  (refine S_op ?_; refine W_call hS (by rfl) (entries_branch hx) ?_); rintro v H w hG' rfl; replace hG := hG.trans hG'; replace hS := hG'.sub; replace hx := hx.mono hG'.le; replace hm := hm.grow hG'; clear hG'
  (refine S_op ?_; refine W_movePtr (by first | rfl | assumption) ?_)
  (refine S_op ?_; refine W_call hS (by rfl) (kids_c hx) ?_); rintro v H w hG' hv; replace hG := hG.trans hG'; replace hS := hG'.sub; replace hx := hx.mono hG'.le; replace hm := hm.grow hG'; clear hG'
  obtain ⟨B, d, rfl, hd, hsl, _⟩ := hv
  (refine S_op ?_; refine W_build (by rfl) ?_)
  refine S_op0 ?_
  refine W_storeM (b := b) (o := 0) (vs := [.slice none 0 0, .slice B x.kids.length d]) (by rfl) (by rfl) hm (by rfl) (two_one rfl rfl) (by rfl) (Nat.le_refl 2) ?_
  intro w3 hg3 hm3
  (refine S_nil ?_; refine CW_ret ?_)
  exact ⟨_, ResW_cell rfl hm3 rfl, H, grown_own hG hg3 hm hbw, none, 0, B, d, rfl, Nat.le_refl _, hd, .inl rfl, hsl, hx.kids⟩
theorem nodesLeaf_c (hp : PtAt H h v es ([] : List (Nd h))) (hr : riseB es = true) (ho : ∀ e ∈ es, entOk e = true) (h8 : es.length ≤ 8) :
    Fn Try.prog 58 [v] H fun r H' => ∃ out, NdsAt H' 0 r out ∧ leavesOut es out ∧ ∀ k ∈ out, H k.blk = none := by
  obtain ⟨A, c, B, d, rfl, h1, h2, h4, h5, h6⟩ := hp
  refine Fn_of_CW Try.func58 rfl Try.ntmps58 Try.results58 rfl fun w hS => ?_; have hG := Grow.refl hS; have hS0 := hS
  (refine CW_seq ?_; refine CW_region rfl ?_)
  (refine S_op (W_boxAgg hS (by rfl) ?_)); intro H w _ hG' hb; replace hG := hG.trans hG'; replace hS := hG'.sub; replace h4 := h4.mono hG'.le; clear hG'
  have hle := hG.le
  (refine S_op ?_; refine W_assignSl (by first | rfl | assumption) ?_; refine S_nil ?_; refine CW_seq ?_; refine CW_seq ?_; refine CW_region rfl ?_; refine S_op ?_; refine W_field (by first | rfl | assumption) ?_; refine S_op ?_; refine W_loadHL (by first | rfl | assumption) (by assumption) (by rfl) (by assumption) ?_; refine S_op ?_; refine W_len (by first | rfl | assumption) ?_; refine S_op ?_; refine W_gtrC (by first | rfl | assumption) ?_; refine S_nil ?_; refine CW_false (by first | rfl | assumption) ?_; refine CW_skip ?_; refine CW_seq ?_; refine CW_region rfl ?_; refine S_op ?_; refine W_field (by first | rfl | assumption) ?_; refine S_op ?_; refine W_loadHL (by first | rfl | assumption) (by assumption) (by rfl) (by assumption) ?_)
  (refine S_op ?_; refine W_call hS (by rfl) (leaves_c H A c es h4 h1 hr ho h8) ?_); rintro v H w hG' ⟨out, ⟨B2, d2, rfl, q1, q2, q3⟩, q4, q5⟩; replace hG := hG.trans hG'; replace hS := hG'.sub; clear hG'
  (refine S_op ?_; refine W_assignSl (by first | rfl | assumption) ?_; refine S_nil ?_; refine CW_ret ?_)
  exact ⟨_, ResW_one (v := .slice _ _ _) rfl, H, hG, out, ⟨B2, d2, rfl, q1, q2, q3⟩, q4, fun k hk => hle.none (q5 k hk)⟩
theorem nodesBranch_c (hp : PtAt H h v es ks) (h2 : 2 ≤ ks.length) (h8 : ks.length ≤ 12) (hch : Nd.chain ks = true) (hh : h ≤ 900000) :
    Fn Try.prog 58 [v] H fun r H' => ∃ out, NdsAt H' (h + 1) r out ∧ branchesOut ks out ∧ ∀ k ∈ out, H k.blk = none := by
  obtain ⟨A, c, B, d, rfl, h1, h3, h4, h5, h6⟩ := hp
  refine Fn_of_CW Try.func58 rfl Try.ntmps58 Try.results58 rfl fun w hS => ?_; have hG := Grow.refl hS; have hS0 := hS
  (refine CW_seq ?_; refine CW_region rfl ?_)
  (refine S_op (W_boxAgg hS (by rfl) ?_)); intro H w _ hG' hb; replace hG := hG.trans hG'; replace hS := hG'.sub; replace h5 := h5.mono hG'.le; replace h6 := h6.mono hG'.le; clear hG'
  have hle := hG.le
  (refine S_op ?_; refine W_assignSl (by first | rfl | assumption) ?_; refine S_nil ?_; refine CW_seq ?_; refine CW_seq ?_; refine CW_region rfl ?_; refine S_op ?_; refine W_field (by first | rfl | assumption) ?_; refine S_op ?_; refine W_loadHL (by first | rfl | assumption) (by assumption) (by rfl) (by assumption) ?_; refine S_op ?_; refine W_len (by first | rfl | assumption) ?_; refine S_op ?_; refine W_gtrT (by first | rfl | assumption) (by first | rfl | assumption) (by first | omega | rfl) ?_; refine S_nil ?_; refine CW_true (by first | rfl | assumption) ?_; refine CW_seq ?_; refine CW_region rfl ?_; refine S_op ?_; refine W_field (by first | rfl | assumption) ?_; refine S_op ?_; refine W_loadHL (by first | rfl | assumption) (by assumption) (by rfl) (by assumption) ?_)
  (refine S_op ?_; refine W_call hS (by rfl) (branches_c H B d h ks h5 h6 h3 h2 h8 hch hh) ?_); rintro v H w hG' ⟨out, ⟨B2, d2, rfl, q1, q2, q3⟩, q4, q5⟩; replace hG := hG.trans hG'; replace hS := hG'.sub; clear hG'
  (refine S_op ?_; refine W_assignSl (by first | rfl | assumption) ?_; refine S_nil ?_; refine CW_ret ?_)
  exact ⟨_, ResW_one (v := .slice _ _ _) rfl, H, hG, out, ⟨B2, d2, rfl, q1, q2, q3⟩, q4, fun k hk => hle.none (q5 k hk)⟩
theorem nodesOne_c (hp : PtAt H h v es ks) (h2 : ks.length = 1) :
    Fn Try.prog 58 [v] H fun r H' => NdsAt H' h r ks := by
  obtain ⟨A, c, B, d, rfl, h1, h3, h4, h5, h6⟩ := hp
  refine Fn_of_CW Try.func58 rfl Try.ntmps58 Try.results58 rfl fun w hS => ?_; have hG := Grow.refl hS; have hS0 := hS
  (refine CW_seq ?_; refine CW_region rfl ?_)
  (refine S_op (W_boxAgg hS (by rfl) ?_)); intro H w _ hG' hb; replace hG := hG.trans hG'; replace hS := hG'.sub; replace h5 := h5.mono hG'.le; replace h6 := h6.mono hG'.le; clear hG'
  have hq : 0 < ks.length := by omega
  (refine S_op ?_; refine W_assignSl (by first | rfl | assumption) ?_; refine S_nil ?_; refine CW_seq ?_; refine CW_seq ?_; refine CW_region rfl ?_; refine S_op ?_; refine W_field (by first | rfl | assumption) ?_; refine S_op ?_; refine W_loadHL (by first | rfl | assumption) (by assumption) (by rfl) (by assumption) ?_; refine S_op ?_; refine W_len (by first | rfl | assumption) ?_; refine S_op ?_; refine W_gtrT (by first | rfl | assumption) (by first | rfl | assumption) (by first | omega | rfl) ?_; refine S_nil ?_; refine CW_true (by first | rfl | assumption) ?_; refine CW_seq ?_; refine CW_region rfl ?_; refine S_op ?_; refine W_field (by first | rfl | assumption) ?_; refine S_op ?_; refine W_loadHL (by first | rfl | assumption) (by assumption) (by rfl) (by assumption) ?_)
  (refine S_op ?_; refine W_call hS (by rfl) (branches0_c H B ks.length d (by omega)) ?_); rintro v H w hG' rfl; replace hG := hG.trans hG'; replace hS := hG'.sub; replace h5 := h5.mono hG'.le; replace h6 := h6.mono hG'.le; clear hG'
  (refine S_op ?_; refine W_assignSl (by first | rfl | assumption) ?_; refine S_nil ?_; refine CW_ret ?_)
  exact ⟨_, ResW_one (v := .slice _ _ _) rfl, H, hG, B, d, rfl, h3, h5, h6⟩
end
end Go.Proofs.Ytgaabmoknpifnaa
/- tree: del, Del: walked, with what they make. Conditions: sizes. -/
namespace Go.Proofs.Ytgaabmoknpifnaa
open Go.Proofs Go.RowKit
set_option linter.unusedVariables false
attribute [local irreducible] CW SeqW OpW
set_option maxHeartbeats 4000000
def lowN (h : Nat) : Nat := if h = 0 then 2 else 3
def highN (h : Nat) : Nat := if h = 0 then 4 else 6
theorem enough_iff {h : Nat} {x : Nd h} : Nd.enough h x = true ↔ lowN h ≤ Nd.size h x := by
  cases h <;> simp [Nd.enough, Nd.size, lowN]
theorem size_le {h : Nat} {x : Nd h} (hx : Nd.Ok h x) : Nd.size h x ≤ highN h := by
  cases h with
  | zero =>
    simp only [Nd.Ok, leafB, Bool.and_eq_true, decide_eq_true_eq] at hx
    simp [Nd.size, highN]; omega
  | succ h => have := hx.2.1; simp [Nd.size, highN]; omega
/-- Parts of a node of that height: what entries they have, how many pieces; of which blocks its nodes are. -/
def IsPart (H : HF) (Q : Nat → Prop) : (h : Nat) → Value → List Ent → Nat → Prop
  | 0, v, its, n => PtAt H 0 v its ([] : List (Nd 0)) ∧ n = its.length
  | h + 1, v, its, n => ∃ ks : List (Nd h), PtAt H h v [] ks ∧ n = ks.length ∧ ks.flatMap (Nd.items h) = its ∧ (∀ k ∈ ks, Nd.enough h k = true ∧ Nd.full h k = true) ∧ ∀ k ∈ ks, ∀ b ∈ Nd.blocks h k, Q b
theorem IsPart.mono {H H' : HF} {Q : Nat → Prop} (hle : HLe H H') : {h : Nat} → {v : Value} → {its : List Ent} → {n : Nat} → IsPart H Q h v its n → IsPart H' Q h v its n
  | 0, _, _, _, ⟨h1, h2⟩ => ⟨h1.mono hle, h2⟩
  | _ + 1, _, _, _, ⟨ks, h1, h2⟩ => ⟨ks, h1.mono hle, h2⟩
theorem IsPart.wider {H : HF} {Q Q' : Nat → Prop} (hq : ∀ b, Q b → Q' b) : {h : Nat} → {v : Value} → {its : List Ent} → {n : Nat} → IsPart H Q h v its n → IsPart H Q' h v its n
  | 0, _, _, _, h => h
  | _ + 1, _, _, _, ⟨ks, h1, h2, h3, h4, h5⟩ => ⟨ks, h1, h2, h3, h4, fun k hk b hb => hq b (h5 k hk b hb)⟩
theorem IsPart.agg {H : HF} {Q : Nat → Prop} : {h : Nat} → {v : Value} → {its : List Ent} → {n : Nat} → IsPart H Q h v its n → ∃ A a c B b d, v = .agg #[.slice A a c, .slice B b d]
  | 0, _, _, _, ⟨⟨A, c, B, d, h, _⟩, _⟩ => ⟨_, _, _, _, _, _, h⟩
  | _ + 1, _, _, _, ⟨ks, ⟨A, c, B, d, h, _⟩, _⟩ => ⟨_, _, _, _, _, _, h⟩
section
variable {H : HF} {Q : Nat → Prop} {h : Nat} {v u : Value} {its its2 : List Ent} {n n2 : Nat}
theorem part_size (hp : IsPart H Q h v its n) (hn : n ≤ 1000) : Fn Try.prog 74 [v] H fun r _ => r = .int .i64 (n : Int) := by
  cases h with
  | zero =>
    obtain ⟨h1, rfl⟩ := hp
    simpa using ptSize_c h1 hn (by simp)
  | succ h =>
    obtain ⟨ks, h1, rfl, _⟩ := hp
    simpa using ptSize_c h1 (by simp) hn
theorem part_of {x : Nd h} (hx : NodeAt H h x) (hf : Nd.full h x = true) (hq : ∀ b ∈ Nd.blocks h x, Q b) : Fn Try.prog 76 [x.ptr] H fun r H' => IsPart H' Q h r (Nd.items h x) (Nd.size h x) := by
  cases h with
  | zero => exact (ofLeaf_c 0 hx).mono fun r H' _ hr => ⟨hr, rfl⟩
  | succ h =>
    refine (ofBranch_c hx).mono fun r H' _ hr => ⟨x.kids, hr, rfl, rfl, Nd.full_kids hf, fun k hk b hb => hq b ?_⟩
    simp only [Nd.blocks, List.mem_cons, List.mem_flatMap]
    exact .inr ⟨k, hk, hb⟩
theorem part_with (hp : IsPart H Q h v its n) (hq : IsPart H Q h u its2 n2) (h1 : n ≤ 100) (h2 : n2 ≤ 100) : Fn Try.prog 77 [v, u] H fun r H' => IsPart H' Q h r (its ++ its2) (n + n2) := by
  cases h with
  | zero =>
    obtain ⟨p1, rfl⟩ := hp
    obtain ⟨q1, rfl⟩ := hq
    exact (ptWith_c p1 q1 (by omega) (by simp) (by omega) (by simp)).mono fun r H' _ hr => ⟨hr, by simp⟩
  | succ h =>
    obtain ⟨ks, p1, rfl, rfl, p3, p4⟩ := hp
    obtain ⟨ks2, q1, rfl, rfl, q3, q4⟩ := hq
    refine (ptWith_c p1 q1 (by simp) (by omega) (by simp) (by omega)).mono fun r H' _ hr => ⟨ks ++ ks2, hr, by simp, by simp, fun k hk => ?_, fun k hk => ?_⟩
    · rcases List.mem_append.1 hk with hk | hk
      · exact p3 k hk
      · exact q3 k hk
    · rcases List.mem_append.1 hk with hk | hk
      · exact p4 k hk
      · exact q4 k hk
/-- Nodes of parts. -/
structure PartNodes (H : HF) (Q : Nat → Prop) (h : Nat) (its : List Ent) (n : Nat) (out : List (Nd h)) : Prop where
  items : out.flatMap (Nd.items h) = its
  len : out.length = 1 ∨ out.length = 2
  one : n ≤ highN h → out.length = 1
  full : ∀ k ∈ out, Nd.full h k = true
  enough : lowN h ≤ n → ∀ k ∈ out, Nd.enough h k = true
  fresh : ∀ k ∈ out, H k.blk = none
  blocks : ∀ k ∈ out, ∀ b ∈ Nd.blocks h k, b ∈ out.map Nd.blk ∨ Q b
theorem PartNodes.old {H0 : HF} {out : List (Nd h)} (hp : PartNodes H Q h its n out) (hle : HLe H0 H) : PartNodes H0 Q h its n out :=
  ⟨hp.items, hp.len, hp.one, hp.full, hp.enough, fun k hk => hle.none (hp.fresh k hk), hp.blocks⟩
theorem part_nodes (hp : IsPart H Q h v its n) (hr : riseB its = true) (ho : ∀ e ∈ its, entOk e = true) (h1 : (if h = 0 then 1 else 2) ≤ n) (h8 : n ≤ 8) (hh : h ≤ 800000) :
    Fn Try.prog 58 [v] H fun r H' => ∃ out, NdsAt H' h r out ∧ PartNodes H Q h its n out := by
  cases h with
  | zero =>
    obtain ⟨p1, rfl⟩ := hp
    refine (nodesLeaf_c p1 hr ho h8).mono fun r H' _ ⟨out, q1, q2, q3⟩ => ⟨out, q1, ?_⟩
    simp at h1
    rcases q2 with ⟨q4, _⟩ | ⟨q4, q5, b, rfl⟩ | ⟨q4, b1, b2, rfl⟩
    · omega
    · refine ⟨by simp [Nd.items, Nd.ents_leaf], .inl rfl, fun _ => rfl, fun k hk => ?_, fun hl k hk => ?_, q3, fun k hk q hq => ?_⟩
      · rw [List.mem_singleton] at hk; subst hk; rfl
      · rw [List.mem_singleton] at hk; subst hk; exact decide_eq_true hl
      · rw [List.mem_singleton] at hk; subst hk; exact .inl hq
    · have hh : 2 ≤ half its.length ∧ half its.length ≤ its.length ∧ 2 ≤ its.length - half its.length := by unfold half; omega
      refine ⟨by simp [Nd.items, Nd.ents_leaf], .inr rfl, fun hl => (by simp [highN] at hl; omega), fun k hk => ?_, fun hl k hk => ?_, q3, fun k hk q hq => ?_⟩
      · simp at hk; rcases hk with rfl | rfl <;> rfl
      · simp at hk; rcases hk with rfl | rfl <;> simp [Nd.enough, Nd.ents_leaf] <;> omega
      · simp at hk; rcases hk with rfl | rfl <;> simp [Nd.blocks, Nd.blk_leaf] at hq <;> simp [hq, Nd.blk_leaf]
  | succ h =>
    obtain ⟨ks, p1, rfl, rfl, p3, p4⟩ := hp
    have h1 : 2 ≤ ks.length := by simpa using h1
    obtain ⟨_, _, _, _, _, _, _, _, _, hat⟩ := id p1
    refine (nodesBranch_c p1 h1 (by omega) ((Nd.chain_iff hat.ok).2 hr) (by omega)).mono fun r H' _ ⟨out, q1, q2, q3⟩ => ⟨out, q1, ?_⟩
    rcases q2 with ⟨q4, q5, b, rfl⟩ | ⟨q4, b1, b2, rfl⟩
    · refine ⟨by simp [Nd.items, Nd.kids_branch], .inl rfl, fun _ => rfl, fun k hk => ?_, fun hl k hk => ?_, q3, fun k hk q hq => ?_⟩
      · rw [List.mem_singleton] at hk; subst hk
        simp only [Nd.full, Nd.kids_branch, List.all_eq_true, Bool.and_eq_true]
        exact p3
      · rw [List.mem_singleton] at hk; subst hk
        simp [lowN] at hl
        exact decide_eq_true hl
      · rw [List.mem_singleton] at hk; subst hk
        simp only [Nd.blocks, Nd.kids_branch, Nd.blk_branch, List.mem_cons, List.mem_flatMap] at hq
        rcases hq with rfl | ⟨y, hy, hq⟩
        · exact .inl (by simp [Nd.blk_branch])
        · exact .inr (p4 y hy q hq)
    · have hhf : 3 ≤ half ks.length ∧ half ks.length ≤ ks.length ∧ 3 ≤ ks.length - half ks.length := by unfold half; omega
      refine ⟨?_, .inr rfl, fun hl => (by simp [highN] at hl; omega), fun k hk => ?_, fun hl k hk => ?_, q3, fun k hk q hq => ?_⟩
      · show ([Nd.branch b1 (ks.take (half ks.length)), Nd.branch b2 (ks.drop (half ks.length))] : List (Nd (h + 1))).flatMap (fun y => y.kids.flatMap (Nd.items h)) = _
        simp only [List.flatMap_cons, List.flatMap_nil, List.append_nil, Nd.kids_branch]
        rw [← List.flatMap_append, List.take_append_drop]
      · simp at hk
        rcases hk with rfl | rfl <;> simp only [Nd.full, Nd.kids_branch, List.all_eq_true, Bool.and_eq_true]
        · exact fun k hk => p3 k (List.mem_of_mem_take hk)
        · exact fun k hk => p3 k (List.mem_of_mem_drop hk)
      · simp at hk
        rcases hk with rfl | rfl <;> simp [Nd.enough, Nd.kids_branch] <;> omega
      · simp at hk
        rcases hk with rfl | rfl <;> simp only [Nd.blocks, Nd.kids_branch, Nd.blk_branch, List.mem_cons, List.mem_flatMap] at hq
        · rcases hq with rfl | ⟨y, hy, hq⟩
          · exact .inl (by simp [Nd.blk_branch])
          · exact .inr (p4 y (List.mem_of_mem_take hy) q hq)
        · rcases hq with rfl | ⟨y, hy, hq⟩
          · exact .inl (by simp [Nd.blk_branch])
          · exact .inr (p4 y (List.mem_of_mem_drop hy) q hq)
end
/-! ### del -/
/-- What the parts of a branch are behind del: those ahead, the new nodes, those behind. -/
theorem del_kids {H Hr : HF} {Q : Nat → Prop} {h : Nat} {x : Nd (h + 1)} {pre post : List (Nd h)} {key : ByteArray} {its : List Ent} {n : Nat} {out : List (Nd h)} {v : Value}
    (hv : PtAt H h v [] (pre ++ out ++ post)) (hf : Nd.full (h + 1) x = true) (hpre : ∀ k ∈ pre, k ∈ x.kids) (hpost : ∀ k ∈ post, k ∈ x.kids) (ho : PartNodes Hr Q h its n out) (hlow : lowN h ≤ n)
    (hits : pre.flatMap (Nd.items h) ++ its ++ post.flatMap (Nd.items h) = withoutL (Nd.items (h + 1) x) key) (hQ : ∀ k ∈ x.kids, ∀ b ∈ Nd.blocks h k, Q b) :
    IsPart H (fun b => b ∈ out.map Nd.blk ∨ Q b) (h + 1) v (withoutL (Nd.items (h + 1) x) key) (pre.length + out.length + post.length) := by
  refine ⟨pre ++ out ++ post, hv, by rw [List.length_append, List.length_append], ?_, fun k hk => ?_, fun k hk b hb => ?_⟩
  · rw [List.flatMap_append, List.flatMap_append, ho.items]; exact hits
  · simp only [List.mem_append] at hk
    rcases hk with (hk | hk) | hk
    · exact Nd.full_kids hf k (hpre k hk)
    · exact ⟨ho.enough hlow k hk, ho.full k hk⟩
    · exact Nd.full_kids hf k (hpost k hk)
  · simp only [List.mem_append] at hk
    rcases hk with (hk | hk) | hk
    · exact .inr (hQ k (hpre k hk) b hb)
    · exact ho.blocks k hk b hb
    · exact .inr (hQ k (hpost k hk) b hb)
theorem look_withoutL_len {l : List Ent} (hr : riseB l = true) {key : ByteArray} (h : lookB l key = true) : (withoutL l key).length + 1 = l.length := by
  have h1 := without_is hr key
  have : findIs l key = true := by rw [look_is]; exact h
  rw [this] at h1
  simpa using h1
theorem entOk_withoutL {l : List Ent} {key : ByteArray} (hl : ∀ x ∈ l, entOk x = true) : ∀ x ∈ withoutL l key, entOk x = true := by
  intro x hx
  refine hl x ?_
  unfold withoutL at hx
  split at hx
  · rcases List.mem_append.1 hx with h | h
    · exact List.mem_of_mem_take h
    · exact List.mem_of_mem_drop h
  · exact hx
end Go.Proofs.Ytgaabmoknpifnaa
/- tree: del: walked. Conditions: sizes. -/
namespace Go.Proofs.Ytgaabmoknpifnaa
open Go.Proofs Go.RowKit
set_option linter.unusedVariables false
attribute [local irreducible] CW SeqW OpW
set_option maxHeartbeats 8000000
abbrev Zp : List Value := [.slice none 0 0, .slice none 0 0]
/-- The new parts, behind the last region. -/
def DelF (b4 b9 : Nat) (Q : Nat → Prop) (Hr : HF) (h : Nat) (its : List Ent) (n : Nat) (pre post : List (Nd h)) (cs : List Value) (H : HF) (w : World) : Prop :=
  (∃ out v1 v2, Mut H w b4 [v1, v2] ∧ PtAt H h (.agg #[v1, v2]) [] (pre ++ out ++ post) ∧ PartNodes Hr Q h its n out) ∧ Mut H w b9 cs
theorem closedDelF (b4 b9 : Nat) (Q : Nat → Prop) (Hr : HF) (h : Nat) (its : List Ent) (n : Nat) (pre post : List (Nd h)) (cs : List Value) : Closed (DelF b4 b9 Q Hr h its n pre post cs) :=
  fun _ _ _ _ ⟨⟨out, v1, v2, h1, h2, h3⟩, h4⟩ hg => ⟨⟨out, v1, v2, h1.grow hg, h2.mono hg.le, h3⟩, h4.grow hg⟩
def DelL (b4 b9 : Nat) (Q : Nat → Prop) (h : Nat) (its : List Ent) (n : Nat) (H : HF) (w : World) : Prop :=
  Mut H w b4 Zp ∧ ∃ v1 v2, Mut H w b9 [v1, v2] ∧ IsPart H Q h (.agg #[v1, v2]) its n
theorem closedDelL (b4 b9 : Nat) (Q : Nat → Prop) (h : Nat) (its : List Ent) (n : Nat) : Closed (DelL b4 b9 Q h its n) :=
  fun _ _ _ _ ⟨h1, v1, v2, h2, h3⟩ hg => ⟨h1.grow hg, v1, v2, h2.grow hg, h3.mono hg.le⟩
theorem last_split {α : Type} {l : List α} (h : 0 < l.length) : ∃ L s, l = L ++ [s] :=
  ⟨l.take (l.length - 1), l[l.length - 1], by rw [← take_succ' (by omega), show l.length - 1 + 1 = l.length by omega, List.take_length]⟩
theorem del_c (h : Nat) : ∀ (H : HF) (x : Nd h) (key : ByteArray), NodeAt H h x → Nd.full h x = true → lookB (Nd.items h x) key = true → h ≤ 800000 →
    Fn Try.prog 57 [x.ptr, .string key] H fun r H' => ∃ (n : Nat) (N : List Nat), N.length ≤ 2 * h ∧ IsPart H' (fun b => b ∈ N ∨ b ∈ Nd.blocks h x) h r (withoutL (Nd.items h x) key) n ∧ n ≤ Nd.size h x ∧ Nd.size h x ≤ n + 1 := by
  induction h with
  | zero =>
    intro H x key hx hf hlk hh
    have hok := hx.ok
    have hok2 := hok
    simp only [Nd.Ok, leafB, Bool.and_eq_true, decide_eq_true_eq] at hok2
    have hlen := look_withoutL_len hok2.1.2 hlk
    refine Fn_of_CW Try.func57 rfl Try.ntmps57 Try.results57 rfl fun w hS => ?_; have hG := Grow.refl hS; have hS0 := hS
    (refine CW_seq ?_; refine CW_region rfl ?_)
    refine S_op ?_
    refine W_alloc hS ?_
    intro w b4 hG' hb4 hm4
    replace hb4 := hG.base hb4
    replace hG := hG.trans hG'
    replace hS := hG'.sub
    replace hm4 : Mut H w b4 Zp := hm4
    clear hG'
    (refine S_nil ?_; refine CW_seq ?_; refine CW_seq ?_; refine CW_region rfl ?_; refine S_op ?_; refine W_movePtr (by first | rfl | assumption) ?_)
    (refine S_op ?_; refine W_call hS (by rfl) (height_c hx) ?_); rintro v H w hG' rfl; replace hG := hG.trans hG'; replace hS := hG'.sub; replace hx := hx.mono hG'.le; replace hm4 := hm4.grow hG'; clear hG'
    (refine S_op ?_; refine W_leqT (by first | rfl | assumption) (by first | rfl | assumption) (by first | omega | rfl) ?_; refine S_nil ?_; refine CW_true (by first | rfl | assumption) ?_; refine CW_seq ?_; refine CW_region rfl ?_; refine S_op ?_; refine W_movePtr (by first | rfl | assumption) ?_)
    (refine S_op ?_; refine W_call hS (by rfl) (entries_c hx) ?_); rintro v H w hG' hv; replace hG := hG.trans hG'; replace hS := hG'.sub; replace hx := hx.mono hG'.le; replace hm4 := hm4.grow hG'; clear hG'
    obtain ⟨A, c, rfl, hc, hl⟩ := hv
    have hl : EntsAt H A x.ents := hl
    have hc : x.ents.length ≤ c := hc
    rw [show Nd.own 0 x = x.ents from rfl]
    (refine S_op ?_; refine W_moveStr (by first | rfl | assumption) ?_)
    (refine S_op ?_; refine W_call hS (by rfl) (without_c H A c x.ents key hl hc (by omega)) ?_); rintro v H w hG' hv; replace hG := hG.trans hG'; replace hS := hG'.sub; replace hm4 := hm4.grow hG'; clear hG'
    obtain ⟨s, rfl, A2, c2, rfl, hc2, hl2⟩ := hv
    (refine S_op ?_; refine W_moveTup (by first | rfl | assumption) ?_; refine S_op ?_; refine W_extract (by first | rfl | assumption) (by rfl) ?_; refine S_op ?_; refine W_extract (by first | rfl | assumption) (by rfl) ?_; refine S_op ?_; refine W_assignSl (by first | rfl | assumption) ?_; refine S_op ?_; refine W_assignBool (by first | rfl | assumption) ?_; refine S_nil ?_; refine CW_seq ?_; refine CW_region rfl ?_; refine S_op ?_; refine W_moveSl (by first | rfl | assumption) ?_; refine S_op ?_; refine W_build (by rfl) ?_)
    refine S_op0 ?_
    refine W_storeM (b := b4) (o := 0) (vs := [.slice A2 (withoutL x.ents key).length c2, .slice none 0 0]) (by rfl) (by rfl) hm4 (by rfl) (two_one rfl rfl) (by rfl) (Nat.le_refl 2) ?_
    intro w3 hg3 hm3
    (refine S_nil ?_; refine CW_ret ?_)
    refine ⟨_, ResW_cell rfl hm3 rfl, H, grown_own hG hg3 hm4 hb4, (withoutL x.ents key).length, [], by simp, ⟨⟨A2, c2, none, 0, rfl, hc2, Nat.le_refl _, hl2, .inl rfl, by intro k hk; cases hk⟩, rfl⟩, ?_, ?_⟩
    · show _ ≤ x.ents.length
      have : (withoutL x.ents key).length + 1 = x.ents.length := hlen
      omega
    · show x.ents.length ≤ _
      have : (withoutL x.ents key).length + 1 = x.ents.length := hlen
      omega
  | succ h ih =>
    intro H x key hx hf hlk hh
    refine Fn_of_CW Try.func57 rfl Try.ntmps57 Try.results57 rfl fun w hS => ?_; have hG := Grow.refl hS; have hS0 := hS
    (refine CW_seq ?_; refine CW_region rfl ?_)
    refine S_op ?_
    refine W_alloc hS ?_
    intro w b4 hG' hb4 hm4
    replace hb4 := hG.base hb4
    replace hG := hG.trans hG'
    replace hS := hG'.sub
    replace hm4 : Mut H w b4 Zp := hm4
    clear hG'
    (refine S_nil ?_; refine CW_seq ?_; refine CW_seq ?_; refine CW_region rfl ?_; refine S_op ?_; refine W_movePtr (by first | rfl | assumption) ?_)
    (refine S_op ?_; refine W_call hS (by rfl) (height_c hx) ?_); rintro v H w hG' rfl; replace hG := hG.trans hG'; replace hS := hG'.sub; replace hx := hx.mono hG'.le; replace hm4 := hm4.grow hG'; clear hG'
    (refine S_op ?_; refine W_leqF (by first | rfl | assumption) (by first | rfl | assumption) (by first | omega | rfl) ?_; refine S_nil ?_; refine CW_false (by first | rfl | assumption) ?_; refine CW_skip ?_; refine CW_seq ?_; refine CW_region rfl ?_; refine S_op ?_; refine W_movePtr (by first | rfl | assumption) ?_)
    (refine S_op ?_; refine W_call hS (by rfl) (kids_c hx) ?_); rintro v H w hG' hv; replace hG := hG.trans hG'; replace hS := hG'.sub; replace hx := hx.mono hG'.le; replace hm4 := hm4.grow hG'; clear hG'
    obtain ⟨B, d, rfl, hd, hsl, _⟩ := hv
    have hok := hx.ok
    have h6 := hok.2.1
    have h2k := hok.1
    (refine S_op ?_; refine W_assignSl (by first | rfl | assumption) ?_; refine S_nil ?_; refine CW_seq ?_; refine CW_region rfl ?_; refine S_op ?_; refine W_moveSl (by first | rfl | assumption) ?_; refine S_op ?_; refine W_moveStr (by first | rfl | assumption) ?_)
    (refine S_op ?_; refine W_call hS (by rfl) (kid_c H B d h x.kids key hsl hx.kids (by omega)) ?_); rintro v H w hG' rfl; replace hG := hG.trans hG'; replace hS := hG'.sub; replace hx := hx.mono hG'.le; replace hsl := hsl.mono hG'.le; replace hm4 := hm4.grow hG'; clear hG'
    obtain ⟨a, b, h1, h2, h3, h4, _, _⟩ := Nd.kidOf_split hok key
    have hlm := Nd.look_kid hok key
    generalize Nd.kidOf x key = m at *
    have hq : a.length < x.kids.length := by rw [h1]; simp
    have hget : (x.kids.map Nd.ptr)[a.length * 1]? = some m.ptr := by rw [h1]; simp
    obtain ⟨bb, off, hA, hrow⟩ := slAt_some hsl hq
    have hmm : m ∈ x.kids := by rw [h1]; simp
    have hm : NodeAt H h m := hx.kids m hmm
    have hfm := Nd.full_kids hf m hmm
    have hem := enough_iff.1 hfm.1
    have hsm := size_le hm.ok
    have hlkm : lookB (Nd.items h m) key = true := by unfold lookB at hlk ⊢; rw [← hlm]; exact hlk
    have hxn : x.kids.length = a.length + 1 + b.length := by rw [h1]; simp; omega
    have hwk := Nd.withoutL_kid hok h1 h3 h4
    have hrw := rise_withoutL key hok.2.2.2
    have how := entOk_withoutL (key := key) (Nd.ok_ents hok)
    have hlh : lowN h ≤ 3 ∧ 2 ≤ lowN h ∧ highN h + lowN h ≤ 9 ∧ lowN h ≤ highN h := by unfold lowN highN; split <;> omega
    rw [h2]
    (refine S_op ?_; refine W_assignInt (by first | rfl | assumption) ?_; refine S_nil ?_; refine CW_seq ?_; refine CW_region rfl ?_; refine S_op ?_; refine W_moveSl (by first | rfl | assumption) ?_; refine S_op ?_; refine W_moveInt (by first | rfl | assumption) ?_; refine S_op ?_; refine W_index (by first | rfl | assumption) (by first | rfl | assumption) (by first | assumption | omega | decide) (by first | rfl | assumption) ?_)
    refine S_op (W_loadRow (by rfl) hrow hget hS ?_)
    (refine S_op ?_; refine W_moveStr (by first | rfl | assumption) ?_)
    (refine S_op ?_; refine W_call hS (by rfl) (ih H m key hm hfm.2 hlkm (by omega)) ?_); rintro v H w hG' ⟨n, N, hN, hp, hn1, hn2⟩; replace hG := hG.trans hG'; replace hS := hG'.sub; replace hx := hx.mono hG'.le; replace hsl := hsl.mono hG'.le; replace hrow := hrow.mono hG'.le; replace hm4 := hm4.grow hG'; clear hG'
    obtain ⟨A1, a1, c1, B1, b1, d1, hve⟩ := hp.agg
    subst hve
    obtain ⟨u1, hu1⟩ : ∃ u, u = Value.slice A1 a1 c1 := ⟨_, rfl⟩
    obtain ⟨u2, hu2⟩ : ∃ u, u = Value.slice B1 b1 d1 := ⟨_, rfl⟩
    skip
    refine S_op ?_
    refine W_alloc hS ?_
    intro w b9 hG' hb9 hm9
    have hne : b9 ≠ b4 := by have := hm4.lt; omega
    replace hb9 := hG.base hb9
    replace hG := hG.trans hG'
    replace hS := hG'.sub
    replace hm9 : Mut H w b9 Zp := hm9
    replace hm4 := hm4.grow hG'
    clear hG'
    skip
    refine S_op0 ?_
    refine W_storeM (b := b9) (o := 0) (vs := [.slice A1 a1 c1, .slice B1 b1 d1]) (by rfl) (by rfl) hm9 (by rfl) (two_one rfl rfl) (by rfl) (Nat.le_refl 2) ?_
    intro w hg3 hm3
    replace hm4 := hm4.other hg3 (fun e => hne (by cases e; rfl))
    replace hG := grown_own hG hg3 hm9 hb9
    replace hS := hG.sub
    replace hm9 : Mut H w b9 [.slice A1 a1 c1, .slice B1 b1 d1] := hm3
    clear hm3 hg3
    rw [← hu1, ← hu2] at hm9 hp
    (refine S_nil ?_; refine CW_seq ?_; refine CW_region rfl ?_; refine S_op ?_; refine W_moveInt (by first | rfl | assumption) ?_; refine S_op ?_; refine W_moveInt (by first | rfl | assumption) ?_; refine S_op ?_; refine W_add1 (by first | rfl | assumption) (by omega) ?_; refine S_op ?_; refine W_assignInt (by first | rfl | assumption) ?_; refine S_op ?_; refine W_assignInt (by first | rfl | assumption) ?_; refine S_nil ?_; refine CW_seq ?_; refine CW_seq ?_; refine CW_region rfl ?_)
    refine S_op ?_
    refine W_loadMAgg (s := 2) (vs := [u1, u2]) (by rfl) hm9 (by rfl) (by rfl) ?_
    skip
    (refine S_op ?_; refine W_call hS (by rfl) (part_size hp (by omega)) ?_); rintro v H w hG' rfl; replace hG := hG.trans hG'; replace hS := hG'.sub; replace hx := hx.mono hG'.le; replace hsl := hsl.mono hG'.le; replace hrow := hrow.mono hG'.le; replace hp := hp.mono hG'.le; replace hm4 := hm4.grow hG'; replace hm9 := hm9.grow hG'; clear hG'
    (refine S_op ?_; refine W_movePtr (by first | rfl | assumption) ?_)
    (refine S_op ?_; refine W_call hS (by rfl) (height_c hx) ?_); rintro v H w hG' rfl; replace hG := hG.trans hG'; replace hS := hG'.sub; replace hx := hx.mono hG'.le; replace hsl := hsl.mono hG'.le; replace hrow := hrow.mono hG'.le; replace hp := hp.mono hG'.le; replace hm4 := hm4.grow hG'; replace hm9 := hm9.grow hG'; clear hG'
    (refine S_op ?_; refine W_sub1 (by first | rfl | assumption) (by omega) (by omega) ?_)
    (refine S_op ?_; refine W_call hS (by rfl) (least_c H (h + 1 + 1 - 1)) ?_); rintro v H w hG' rfl; replace hG := hG.trans hG'; replace hS := hG'.sub; replace hx := hx.mono hG'.le; replace hsl := hsl.mono hG'.le; replace hrow := hrow.mono hG'.le; replace hp := hp.mono hG'.le; replace hm4 := hm4.grow hG'; replace hm9 := hm9.grow hG'; clear hG'
    rw [show (if h + 1 + 1 - 1 = 1 then 2 else 3) = lowN h by unfold lowN; simp]
    have hka : AllAt H h a := fun k hk => hx.kids k (by rw [h1]; simp [hk])
    have hkb : AllAt H h b := fun k hk => hx.kids k (by rw [h1]; simp [hk])
    obtain ⟨Q, hQ⟩ : ∃ Q : Nat → Prop, Q = fun b => b ∈ N ∨ b ∈ Nd.blocks (h + 1) x := ⟨_, rfl⟩
    have hbx : ∀ k ∈ x.kids, ∀ b ∈ Nd.blocks h k, Q b := by
      intro k hk b hb
      rw [hQ]
      simp only [Nd.blocks, List.mem_cons, List.mem_flatMap]
      exact .inr (.inr ⟨k, hk, hb⟩)
    replace hp := hp.wider (Q' := Q) (fun b hb => by
      rcases hb with hb | hb
      · rw [hQ]; exact .inl hb
      · exact hbx m hmm b hb)
    by_cases hlow : lowN h ≤ n
    · obtain ⟨pre, hpre⟩ : ∃ l, l = a := ⟨_, rfl⟩
      obtain ⟨post, hpost⟩ : ∃ l, l = b := ⟨_, rfl⟩
      have hlow' := hlow
      have hfrom : a.length = pre.length := by rw [hpre]
      have hto : x.kids.length - (a.length + 1) = post.length := by rw [hpost]; omega
      have hs1 : SlAt H B (pre.map Nd.ptr) := by have := SlAt.take hsl a.length; rw [h1] at this; rw [hpre]; simpa using this
      have hs2 : SlAt H (slAddr B d (a.length + 1) 1) (post.map Nd.ptr) := by
        have := SlAt.drop (l := a.length + 1) (sz := 1) hsl (by simp) hd
        rw [Nat.mul_one, ← List.map_drop, h1] at this
        rw [hpost]
        simpa using this
      have hkpre : AllAt H h pre := by rw [hpre]; exact hka
      have hkpost : AllAt H h post := by rw [hpost]; exact hkb
      have hprem : ∀ k ∈ pre, k ∈ x.kids := by intro k hk; rw [hpre] at hk; rw [h1]; simp [hk]
      have hpostm : ∀ k ∈ post, k ∈ x.kids := by intro k hk; rw [hpost] at hk; rw [h1]; simp [hk]
      obtain ⟨its, hits0⟩ : ∃ l, l = withoutL (Nd.items h m) key := ⟨_, rfl⟩
      have hits : pre.flatMap (Nd.items h) ++ its ++ post.flatMap (Nd.items h) = withoutL (Nd.items (h + 1) x) key := by rw [hwk, hits0, hpre, hpost]
      rw [← hits0] at hp
      rw [← hits] at hrw how
      have hr := (rise_parts hrw).2.1
      have ho : ∀ e ∈ its, entOk e = true := fun e he => how e (by simp [he])
      have hn8 : n ≤ 8 := by omega
      have hone : n ≤ highN h := by omega
      have hn1 : (if h = 0 then 1 else 2) ≤ n := by split <;> omega
      (refine S_op ?_; refine W_lssF (by first | rfl | assumption) (by first | rfl | assumption) (by first | omega | rfl) ?_; refine S_nil ?_; refine CW_false (by first | rfl | assumption) ?_; refine CW_skip ?_; refine CW_seq ?_)
      apply CW_region_eff (fun H w => Mut H w b4 Zp ∧ Mut H w b9 [u1, u2]) (DelF b4 b9 Q H h its n pre post [u1, u2]) 0 [_, _, _, _, _, _, _, _, _, _, _, _] [none, none, none, none, none, none, none, none, none, none, none, some 0] [some 66, some 67, some 68, some 69, some 70, some 71, some 72, some 73, some 74, some 75, some 76, none] [66, 67, 68, 69, 70, 71, 72, 73, 74, 75, 76] mixed rfl rfl rfl rfl (by decide) rfl rfl rfl (by assumption)
      · exact ⟨hm4, hm9⟩
      · exact (closedMut b4 _).and (closedMut b9 _)
      · exact closedDelF _ _ _ _ _ _ _ _ _ _
      · ((apply steps_cons; case h1 => (apply A_pure; intro c u H' w' hG; have hS' := hG.sub; have hS2' := hG.subOld; (repeat (first | refine depGo_eq rfl rfl rfl ?_ | (refine depGo_fact rfl rfl rfl ?_; intro v hv) | refine depGo_skip rfl ?_ | refine depGo_none rfl ?_)); apply Pure1.mk; intro K hk; exact W_moveSl (by first | rfl | assumption) hk)); (apply steps_cons; case h1 => (apply A_pure; intro c u H' w' hG; have hS' := hG.sub; have hS2' := hG.subOld; (repeat (first | refine depGo_eq rfl rfl rfl ?_ | (refine depGo_fact rfl rfl rfl ?_; intro v hv) | refine depGo_skip rfl ?_ | refine depGo_none rfl ?_)); apply Pure1.mk; intro K hk; exact W_moveInt (by first | rfl | assumption) hk)); (apply steps_cons; case h1 => (apply A_pure; intro c u H' w' hG; have hS' := hG.sub; have hS2' := hG.subOld; (repeat (first | refine depGo_eq rfl rfl rfl ?_ | (refine depGo_fact rfl rfl rfl ?_; intro v hv) | refine depGo_skip rfl ?_ | refine depGo_none rfl ?_)); apply Pure1.mk; intro K hk; exact W_sliceHi (by first | rfl | assumption) (by first | rfl | assumption) (by omega) hk)))
        apply steps_cons
        · refine A_pure (val := .agg #[u1, u2]) ?_
          intro c u H' w' hG'
          (repeat (first | refine depGo_eq rfl rfl rfl ?_ | (refine depGo_fact rfl rfl rfl ?_; intro v hv) | refine depGo_skip rfl ?_ | refine depGo_none rfl ?_))
          have hm' : Mut H' w' b9 [u1, u2] := by
            by_cases hc : c ≤ 0
            · exact (hG'.m hc).2
            · exact (hG'.f (by omega)).2
          apply Pure1.mk
          intro K hk
          exact W_loadMAgg (s := 2) (vs := [u1, u2]) (by rfl) hm' (by rfl) (by rfl) hk
        (apply steps_cons; case h1 => (refine A_fact (φ := (fun v H3 => ∃ out, NdsAt H3 h v out ∧ PartNodes H Q h its n out)) ?_; intro c' u H' w' hG; have hS' := hG.sub; (repeat (first | refine depGo_eq rfl rfl rfl ?_ | (refine depGo_fact rfl rfl rfl ?_; intro v hv) | refine depGo_skip rfl ?_ | refine depGo_none rfl ?_)); refine depGo_nil ?_; refine W_call hS' (by rfl) (part_nodes (hp.mono hG.le) hr ho hn1 hn8 (by omega)) ?_; intro v H3 w3 hG3 hr; exact ⟨H3, hG3.le, hG.trans hG3, fun H'' hle => (by
            obtain ⟨out, q1, q2⟩ := hr
            exact ⟨out, q1.mono hle, q2.old hG.le⟩)⟩))
        ((apply steps_cons; case h1 => (apply A_pure; intro c u H' w' hG; have hS' := hG.sub; have hS2' := hG.subOld; (repeat (first | refine depGo_eq rfl rfl rfl ?_ | (refine depGo_fact rfl rfl rfl ?_; intro v hv) | refine depGo_skip rfl ?_ | refine depGo_none rfl ?_)); apply Pure1.mk; intro K hk; exact W_moveSl (by first | rfl | assumption) hk)); (apply steps_cons; case h1 => (apply A_pure; intro c u H' w' hG; have hS' := hG.sub; have hS2' := hG.subOld; (repeat (first | refine depGo_eq rfl rfl rfl ?_ | (refine depGo_fact rfl rfl rfl ?_; intro v hv) | refine depGo_skip rfl ?_ | refine depGo_none rfl ?_)); apply Pure1.mk; intro K hk; exact W_moveInt (by first | rfl | assumption) hk)); (apply steps_cons; case h1 => (apply A_pure; intro c u H' w' hG; have hS' := hG.sub; have hS2' := hG.subOld; (repeat (first | refine depGo_eq rfl rfl rfl ?_ | (refine depGo_fact rfl rfl rfl ?_; intro v hv) | refine depGo_skip rfl ?_ | refine depGo_none rfl ?_)); apply Pure1.mk; intro K hk; exact W_sliceLo (by first | rfl | assumption) (by first | rfl | assumption) (by omega) hk)))
        apply steps_cons
        · refine A_fact (φ := fun v H3 => ∃ out, IsCat 1 v 3 (pre.length + (out.length + post.length)) (pre.map Nd.ptr ++ (out.map Nd.ptr ++ post.map Nd.ptr)) H3 ∧ AllAt H3 h out ∧ PartNodes H Q h its n out) ?_
          intro c' u H' w' hG'
          have hS' := hG'.sub
          (repeat (first | refine depGo_eq rfl rfl rfl ?_ | (refine depGo_fact rfl rfl rfl ?_; intro v hv) | refine depGo_skip rfl ?_ | refine depGo_none rfl ?_))
          obtain ⟨out, ⟨B2, d2, rfl, hd2, hsl2, hk2⟩, hpn⟩ := hv
          have i1 : IsSl 1 (.slice B (a.length) d) pre.length (pre.map Nd.ptr) H' := ⟨B, d, by rw [hfrom], by omega, hs1.mono hG'.le, by simp⟩
          have i2 : IsSl 1 (.slice B2 out.length d2) out.length (out.map Nd.ptr) H' := ⟨B2, d2, rfl, hd2, hsl2, by simp⟩
          have i3 : IsSl 1 (.slice (slAddr B d (a.length + 1) 1) (x.kids.length - (a.length + 1)) (d - (a.length + 1))) post.length (post.map Nd.ptr) H' := ⟨_, _, by rw [hto], by omega, hs2.mono hG'.le, by simp⟩
          refine depGo_nil ?_
          refine W_buildOnes hS' (by omega) (by rfl) (by rfl) ?_
          intro H3 w3 g hG3 hb3 _ _
          exact ⟨H3, hG3.le, hG'.trans hG3, fun H'' hle => ⟨out, (isCat3 hb3 hG3.le i1 i2 i3 (ptr_one _) (ptr_one _) (ptr_one _)).mono hle, (hk2.mono hG3.le).mono hle, hpn⟩⟩
        (apply steps_cons; case h1 => (refine A_fact (φ := (fun v H3 => ∃ out, NdsAt H3 h v (pre ++ out ++ post) ∧ PartNodes H Q h its n out)) ?_; intro c' u H' w' hG'; have hS' := hG'.sub; (repeat (first | refine depGo_eq rfl rfl rfl ?_ | (refine depGo_fact rfl rfl rfl ?_; intro v hv) | refine depGo_skip rfl ?_ | refine depGo_none rfl ?_)); rename_i v1 hv1; obtain ⟨out, hcat, hk2, hpn⟩ := hv1; refine depGo_nil ?_; refine W_call hS' (by rfl) ((have hsn := hpn.len; cat_Node H' _ _ _ _ hcat (by omega) (by omega))) ?_; intro v H3 w3 hG3 hr; exact ⟨H3, hG3.le, hG'.trans hG3, fun H'' hle => ⟨out, nds_of (by
            have e1 : (pre ++ out ++ post).length = pre.length + (out.length + post.length) := by rw [List.length_append, List.length_append]; omega
            rw [e1, List.map_append, List.map_append, List.append_assoc]; exact hr.mono hle) (((hkpre.mono hG'.le).append hk2).append (hkpost.mono hG'.le) |>.mono hG3.le |>.mono hle), hpn⟩⟩))
        apply steps_cons
        · refine A_fact (φ := fun v H3 => ∃ out, PtAt H3 h v [] (pre ++ out ++ post) ∧ PartNodes H Q h its n out) ?_
          intro c' u H' w' hG'
          have hS' := hG'.sub
          (repeat (first | refine depGo_eq rfl rfl rfl ?_ | (refine depGo_fact rfl rfl rfl ?_; intro v hv) | refine depGo_skip rfl ?_ | refine depGo_none rfl ?_))
          obtain ⟨out, ⟨B2, d2, rfl, hd2, hsl2, hk2⟩, hpn⟩ := hv
          refine depGo_nil ?_
          refine W_build (by rfl) ?_
          exact ⟨H', HLe.refl _, hG', fun H'' hle => ⟨out, ⟨none, 0, B2, d2, rfl, Nat.le_refl _, hd2, .inl rfl, hsl2.mono hle, hk2.mono hle⟩, hpn⟩⟩
        apply steps_cons
        · refine A_eff (φ := fun _ _ => True) ?_
          intro u' H' w' hG'
          (repeat (first | refine depGo_eq rfl rfl rfl ?_ | (refine depGo_fact rfl rfl rfl ?_; intro v hv) | refine depGo_skip rfl ?_ | refine depGo_none rfl ?_))
          obtain ⟨out, ⟨A3, c3, B3, d3, rfl, r1, r2, r4, r5, r6⟩, hpn⟩ := hv
          refine depGo_nil ?_
          obtain ⟨hm4', hm9'⟩ := hG'.m (Nat.le_refl _)
          refine W_storeM (b := b4) (o := 0) (vs := [.slice A3 ([] : List Ent).length c3, .slice B3 (pre ++ out ++ post).length d3]) (by rfl) (by rfl) hm4' (by rfl) (two_one rfl rfl) (by rfl) (Nat.le_refl 2) ?_
          intro w3 hg3 hm3
          exact ⟨H', HLe.refl _, hG'.next (grown_own hG'.grow hg3 hm4' hb4) ⟨⟨out, _, _, hm3, ⟨A3, c3, B3, d3, rfl, r1, r2, r4, r5, r6⟩, hpn⟩, hm9'.other hg3 (fun e => hne (by cases e; rfl))⟩, fun _ _ => trivial⟩
        exact trivial
      · intro H' w' hG' hle' hF
        (repeat (first | refine fin_eq rfl rfl ?_ | (refine fin_fact rfl ?_; intro v hv) | refine fin_none rfl ?_)); refine fin_nil ?_
        (refine CW_ret ?_)
        obtain ⟨⟨out, v1, v2, hm', hpt, hpn⟩, _⟩ := hF
        have hlo := hpn.len
        refine ⟨_, ResW_cell (cs := [v1, v2]) rfl hm' rfl, H', hG', pre.length + out.length + post.length, out.map Nd.blk ++ N, by simp; omega, (del_kids hpt hf hprem hpostm hpn hlow' hits hbx).wider (fun b hb => ?_), ?_, ?_⟩
        · rcases hb with hb | hb
          · exact .inl (List.mem_append_left _ hb)
          · rw [hQ] at hb
            rcases hb with hb | hb
            · exact .inl (List.mem_append_right _ hb)
            · exact .inr hb
        · show _ ≤ x.kids.length
          have := hpn.one hone; omega
        · show x.kids.length ≤ _
          have := hpn.one hone; omega
    · by_cases ha : 0 < a.length
      · obtain ⟨L, s, hLs⟩ := last_split ha
        have hal : a.length = L.length + 1 := by rw [hLs]; simp
        have hsk : s ∈ x.kids := by rw [h1, hLs]; simp
        have hats : NodeAt H h s := hx.kids s hsk
        have hfs := Nd.full_kids hf s hsk
        have hes := enough_iff.1 hfs.1
        have hss := size_le hats.ok
        have hgets : (x.kids.map Nd.ptr)[(a.length - 1) * 1]? = some s.ptr := by rw [h1, hLs]; simp
        have hq2 : a.length - 1 < x.kids.length := by omega
        (refine S_op ?_; refine W_lssT (by first | rfl | assumption) (by first | rfl | assumption) (by first | omega | rfl) ?_; refine S_nil ?_; refine CW_true (by first | rfl | assumption) ?_; refine CW_seq ?_; refine CW_region rfl ?_; refine S_op ?_; refine W_moveInt (by first | rfl | assumption) ?_; refine S_op ?_; refine W_gtrT (by first | rfl | assumption) (by first | rfl | assumption) (by first | omega | rfl) ?_; refine S_nil ?_; refine CW_true (by first | rfl | assumption) ?_; refine CW_seq ?_; refine CW_region rfl ?_; refine S_op ?_; refine W_moveInt (by first | rfl | assumption) ?_; refine S_op ?_; refine W_sub1 (by first | rfl | assumption) (by omega) (by omega) ?_; refine S_op ?_; refine W_assignInt (by first | rfl | assumption) ?_; refine S_nil ?_)
        apply CW_region_eff (fun H w => Mut H w b4 Zp ∧ Mut H w b9 [u1, u2]) (DelL b4 b9 Q h (Nd.items h s ++ withoutL (Nd.items h m) key) (Nd.size h s + n)) 1 [_, _, _, _, _, _, _, _] [none, none, none, none, none, some 0, none, some 1] [some 49, some 50, some 51, some 52, some 53, some 54, some 55, none] [49, 50, 51, 52, 53, 54, 55] mixed rfl rfl rfl rfl (by decide) rfl rfl rfl (by assumption)
        · exact ⟨hm4, hm9⟩
        · exact (closedMut b4 _).and (closedMut b9 _)
        · exact closedDelL _ _ _ _ _ _
        · ((apply steps_cons; case h1 => (apply A_pure; intro c u H' w' hG; have hS' := hG.sub; have hS2' := hG.subOld; (repeat (first | refine depGo_eq rfl rfl rfl ?_ | (refine depGo_fact rfl rfl rfl ?_; intro v hv) | refine depGo_skip rfl ?_ | refine depGo_none rfl ?_)); apply Pure1.mk; intro K hk; exact W_moveSl (by first | rfl | assumption) hk)); (apply steps_cons; case h1 => (apply A_pure; intro c u H' w' hG; have hS' := hG.sub; have hS2' := hG.subOld; (repeat (first | refine depGo_eq rfl rfl rfl ?_ | (refine depGo_fact rfl rfl rfl ?_; intro v hv) | refine depGo_skip rfl ?_ | refine depGo_none rfl ?_)); apply Pure1.mk; intro K hk; exact W_moveInt (by first | rfl | assumption) hk)); (apply steps_cons; case h1 => (apply A_pure; intro c u H' w' hG; have hS' := hG.sub; have hS2' := hG.subOld; (repeat (first | refine depGo_eq rfl rfl rfl ?_ | (refine depGo_fact rfl rfl rfl ?_; intro v hv) | refine depGo_skip rfl ?_ | refine depGo_none rfl ?_)); apply Pure1.mk; intro K hk; exact W_index (by first | rfl | assumption) (by first | rfl | assumption) (by first | assumption | omega | decide) (by first | rfl | assumption) hk)))
          apply steps_cons; case h1 => (apply A_pure; intro c u H' w' hG'; have hS2' := hG'.subOld; (repeat (first | refine depGo_eq rfl rfl rfl ?_ | (refine depGo_fact rfl rfl rfl ?_; intro v hv) | refine depGo_skip rfl ?_ | refine depGo_none rfl ?_)); apply Pure1.mk; intro K hk; exact W_loadRow (j := (a.length - 1) * 1) (by rfl) hrow hgets hS2' hk)
          (apply steps_cons; case h1 => (refine A_fact (φ := (fun v H3 => IsPart H3 Q h v (Nd.items h s) (Nd.size h s))) ?_; intro c' u H' w' hG; have hS' := hG.sub; (repeat (first | refine depGo_eq rfl rfl rfl ?_ | (refine depGo_fact rfl rfl rfl ?_; intro v hv) | refine depGo_skip rfl ?_ | refine depGo_none rfl ?_)); refine depGo_nil ?_; refine W_call hS' (by rfl) (part_of (hats.mono hG.le) hfs.2 (hbx s hsk)) ?_; intro v H3 w3 hG3 hr; exact ⟨H3, hG3.le, hG.trans hG3, fun H'' hle => hr.mono hle⟩))
          apply steps_cons
          · refine A_eff (φ := fun v _ => v = .agg #[u1, u2]) ?_
            intro u' H' w' hG'
            (repeat (first | refine depGo_eq rfl rfl rfl ?_ | (refine depGo_fact rfl rfl rfl ?_; intro v hv) | refine depGo_skip rfl ?_ | refine depGo_none rfl ?_))
            refine depGo_nil ?_
            refine W_loadMAgg (s := 2) (vs := [u1, u2]) (by rfl) (hG'.m (by omega)).2 (by rfl) (by rfl) ?_
            exact ⟨H', HLe.refl _, hG'.pass (by omega), fun _ _ => rfl⟩
          (apply steps_cons; case h1 => (refine A_fact (φ := (fun v H3 => IsPart H3 Q h v (Nd.items h s ++ withoutL (Nd.items h m) key) (Nd.size h s + n))) ?_; intro c' u H' w' hG'; have hS' := hG'.sub; (repeat (first | refine depGo_eq rfl rfl rfl ?_ | (refine depGo_fact rfl rfl rfl ?_; intro v hv) | refine depGo_skip rfl ?_ | refine depGo_none rfl ?_)); have hps := hv; refine depGo_nil ?_; refine W_call hS' (by rfl) (part_with hps (hp.mono hG'.le) (by omega) (by omega)) ?_; intro v H3 w3 hG3 hr; exact ⟨H3, hG3.le, hG'.trans hG3, fun H'' hle => hr.mono hle⟩))
          apply steps_cons
          · refine A_eff (φ := fun _ _ => True) ?_
            intro u' H' w' hG'
            (repeat (first | refine depGo_eq rfl rfl rfl ?_ | (refine depGo_fact rfl rfl rfl ?_; intro v hv) | refine depGo_skip rfl ?_ | refine depGo_none rfl ?_))
            have hv : IsPart H' Q h v _ _ := hv
            obtain ⟨A3, a3, c3, B3, b3, d3, hve⟩ := hv.agg
            subst hve
            refine depGo_nil ?_
            obtain ⟨hm4', hm9'⟩ := hG'.m (Nat.le_refl _)
            refine W_storeM (b := b9) (o := 0) (vs := [.slice A3 a3 c3, .slice B3 b3 d3]) (by rfl) (by rfl) hm9' (by rfl) (two_one rfl rfl) (by rfl) (Nat.le_refl 2) ?_
            intro w3 hg3 hm3
            exact ⟨H', HLe.refl _, hG'.next (grown_own hG'.grow hg3 hm9' hb9) ⟨hm4'.other hg3 (fun e => hne (by cases e; rfl)), _, _, hm3, hv⟩, fun _ _ => trivial⟩
          exact trivial
        · skip
          intro H w hG hle' hF
          (repeat (first | refine fin_eq rfl rfl ?_ | (refine fin_fact rfl ?_; intro v hv) | refine fin_none rfl ?_)); refine fin_nil ?_
          obtain ⟨hm4, u1, u2, hm9, hp⟩ := hF
          obtain ⟨n', hnn⟩ : ∃ k, k = Nd.size h s + n := ⟨_, rfl⟩
          rw [← hnn] at hp
          replace hS := hG.sub
          replace hsl := hsl.mono hle'
          replace hka := hka.mono hle'
          replace hkb := hkb.mono hle'
          obtain ⟨pre, hpre⟩ : ∃ l, l = L := ⟨_, rfl⟩
          obtain ⟨post, hpost⟩ : ∃ l, l = b := ⟨_, rfl⟩
          obtain ⟨its, hits0⟩ : ∃ l, l = Nd.items h s ++ withoutL (Nd.items h m) key := ⟨_, rfl⟩
          have hits : pre.flatMap (Nd.items h) ++ its ++ post.flatMap (Nd.items h) = withoutL (Nd.items (h + 1) x) key := by rw [hwk, hits0, hpre, hpost, hLs]; simp
          have hfrom : a.length - 1 = pre.length := by rw [hpre]; omega
          have hto : x.kids.length - (a.length + 1) = post.length := by rw [hpost]; omega
          have hs1 : SlAt H B (pre.map Nd.ptr) := by have := SlAt.take hsl L.length; rw [h1, hLs] at this; rw [hpre]; simpa using this
          have hs2 : SlAt H (slAddr B d (a.length + 1) 1) (post.map Nd.ptr) := by
            have := SlAt.drop (l := a.length + 1) (sz := 1) hsl (by simp) hd
            rw [Nat.mul_one, ← List.map_drop, h1] at this
            rw [hpost]
            simpa using this
          have hkpre : AllAt H h pre := by rw [hpre]; intro k hk; exact hka k (by rw [hLs]; simp [hk])
          have hkpost : AllAt H h post := by rw [hpost]; exact hkb
          have hprem : ∀ k ∈ pre, k ∈ x.kids := by intro k hk; rw [hpre] at hk; rw [h1, hLs]; simp [hk]
          have hpostm : ∀ k ∈ post, k ∈ x.kids := by intro k hk; rw [hpost] at hk; rw [h1]; simp [hk]
          rw [← hits0] at hp
          rw [← hits] at hrw how
          have hr := (rise_parts hrw).2.1
          have ho : ∀ e ∈ its, entOk e = true := fun e he => how e (by simp [he])
          have hlow' : lowN h ≤ n' := by omega
          have hn8 : n' ≤ 8 := by omega
          have hn1 : (if h = 0 then 1 else 2) ≤ n' := by split <;> omega
          obtain ⟨n, hn⟩ : ∃ k, k = n' := ⟨_, rfl⟩
          rw [← hn] at hp hlow' hn8 hn1
          (refine CW_seq ?_)
          apply CW_region_eff (fun H w => Mut H w b4 Zp ∧ Mut H w b9 [u1, u2]) (DelF b4 b9 Q H h its n pre post [u1, u2]) 0 [_, _, _, _, _, _, _, _, _, _, _, _] [none, none, none, none, none, none, none, none, none, none, none, some 0] [some 66, some 67, some 68, some 69, some 70, some 71, some 72, some 73, some 74, some 75, some 76, none] [66, 67, 68, 69, 70, 71, 72, 73, 74, 75, 76] mixed rfl rfl rfl rfl (by decide) rfl rfl rfl (by assumption)
          · exact ⟨hm4, hm9⟩
          · exact (closedMut b4 _).and (closedMut b9 _)
          · exact closedDelF _ _ _ _ _ _ _ _ _ _
          · ((apply steps_cons; case h1 => (apply A_pure; intro c u H' w' hG; have hS' := hG.sub; have hS2' := hG.subOld; (repeat (first | refine depGo_eq rfl rfl rfl ?_ | (refine depGo_fact rfl rfl rfl ?_; intro v hv) | refine depGo_skip rfl ?_ | refine depGo_none rfl ?_)); apply Pure1.mk; intro K hk; exact W_moveSl (by first | rfl | assumption) hk)); (apply steps_cons; case h1 => (apply A_pure; intro c u H' w' hG; have hS' := hG.sub; have hS2' := hG.subOld; (repeat (first | refine depGo_eq rfl rfl rfl ?_ | (refine depGo_fact rfl rfl rfl ?_; intro v hv) | refine depGo_skip rfl ?_ | refine depGo_none rfl ?_)); apply Pure1.mk; intro K hk; exact W_moveInt (by first | rfl | assumption) hk)); (apply steps_cons; case h1 => (apply A_pure; intro c u H' w' hG; have hS' := hG.sub; have hS2' := hG.subOld; (repeat (first | refine depGo_eq rfl rfl rfl ?_ | (refine depGo_fact rfl rfl rfl ?_; intro v hv) | refine depGo_skip rfl ?_ | refine depGo_none rfl ?_)); apply Pure1.mk; intro K hk; exact W_sliceHi (by first | rfl | assumption) (by first | rfl | assumption) (by omega) hk)))
            apply steps_cons
            · refine A_pure (val := .agg #[u1, u2]) ?_
              intro c u H' w' hG'
              (repeat (first | refine depGo_eq rfl rfl rfl ?_ | (refine depGo_fact rfl rfl rfl ?_; intro v hv) | refine depGo_skip rfl ?_ | refine depGo_none rfl ?_))
              have hm' : Mut H' w' b9 [u1, u2] := by
                by_cases hc : c ≤ 0
                · exact (hG'.m hc).2
                · exact (hG'.f (by omega)).2
              apply Pure1.mk
              intro K hk
              exact W_loadMAgg (s := 2) (vs := [u1, u2]) (by rfl) hm' (by rfl) (by rfl) hk
            (apply steps_cons; case h1 => (refine A_fact (φ := (fun v H3 => ∃ out, NdsAt H3 h v out ∧ PartNodes H Q h its n out)) ?_; intro c' u H' w' hG; have hS' := hG.sub; (repeat (first | refine depGo_eq rfl rfl rfl ?_ | (refine depGo_fact rfl rfl rfl ?_; intro v hv) | refine depGo_skip rfl ?_ | refine depGo_none rfl ?_)); refine depGo_nil ?_; refine W_call hS' (by rfl) (part_nodes (hp.mono hG.le) hr ho hn1 hn8 (by omega)) ?_; intro v H3 w3 hG3 hr; exact ⟨H3, hG3.le, hG.trans hG3, fun H'' hle => (by
                obtain ⟨out, q1, q2⟩ := hr
                exact ⟨out, q1.mono hle, q2.old hG.le⟩)⟩))
            ((apply steps_cons; case h1 => (apply A_pure; intro c u H' w' hG; have hS' := hG.sub; have hS2' := hG.subOld; (repeat (first | refine depGo_eq rfl rfl rfl ?_ | (refine depGo_fact rfl rfl rfl ?_; intro v hv) | refine depGo_skip rfl ?_ | refine depGo_none rfl ?_)); apply Pure1.mk; intro K hk; exact W_moveSl (by first | rfl | assumption) hk)); (apply steps_cons; case h1 => (apply A_pure; intro c u H' w' hG; have hS' := hG.sub; have hS2' := hG.subOld; (repeat (first | refine depGo_eq rfl rfl rfl ?_ | (refine depGo_fact rfl rfl rfl ?_; intro v hv) | refine depGo_skip rfl ?_ | refine depGo_none rfl ?_)); apply Pure1.mk; intro K hk; exact W_moveInt (by first | rfl | assumption) hk)); (apply steps_cons; case h1 => (apply A_pure; intro c u H' w' hG; have hS' := hG.sub; have hS2' := hG.subOld; (repeat (first | refine depGo_eq rfl rfl rfl ?_ | (refine depGo_fact rfl rfl rfl ?_; intro v hv) | refine depGo_skip rfl ?_ | refine depGo_none rfl ?_)); apply Pure1.mk; intro K hk; exact W_sliceLo (by first | rfl | assumption) (by first | rfl | assumption) (by omega) hk)))
            apply steps_cons
            · refine A_fact (φ := fun v H3 => ∃ out, IsCat 1 v 3 (pre.length + (out.length + post.length)) (pre.map Nd.ptr ++ (out.map Nd.ptr ++ post.map Nd.ptr)) H3 ∧ AllAt H3 h out ∧ PartNodes H Q h its n out) ?_
              intro c' u H' w' hG'
              have hS' := hG'.sub
              (repeat (first | refine depGo_eq rfl rfl rfl ?_ | (refine depGo_fact rfl rfl rfl ?_; intro v hv) | refine depGo_skip rfl ?_ | refine depGo_none rfl ?_))
              obtain ⟨out, ⟨B2, d2, rfl, hd2, hsl2, hk2⟩, hpn⟩ := hv
              have i1 : IsSl 1 (.slice B (a.length - 1) d) pre.length (pre.map Nd.ptr) H' := ⟨B, d, by rw [hfrom], by omega, hs1.mono hG'.le, by simp⟩
              have i2 : IsSl 1 (.slice B2 out.length d2) out.length (out.map Nd.ptr) H' := ⟨B2, d2, rfl, hd2, hsl2, by simp⟩
              have i3 : IsSl 1 (.slice (slAddr B d (a.length + 1) 1) (x.kids.length - (a.length + 1)) (d - (a.length + 1))) post.length (post.map Nd.ptr) H' := ⟨_, _, by rw [hto], by omega, hs2.mono hG'.le, by simp⟩
              refine depGo_nil ?_
              refine W_buildOnes hS' (by omega) (by rfl) (by rfl) ?_
              intro H3 w3 g hG3 hb3 _ _
              exact ⟨H3, hG3.le, hG'.trans hG3, fun H'' hle => ⟨out, (isCat3 hb3 hG3.le i1 i2 i3 (ptr_one _) (ptr_one _) (ptr_one _)).mono hle, (hk2.mono hG3.le).mono hle, hpn⟩⟩
            (apply steps_cons; case h1 => (refine A_fact (φ := (fun v H3 => ∃ out, NdsAt H3 h v (pre ++ out ++ post) ∧ PartNodes H Q h its n out)) ?_; intro c' u H' w' hG'; have hS' := hG'.sub; (repeat (first | refine depGo_eq rfl rfl rfl ?_ | (refine depGo_fact rfl rfl rfl ?_; intro v hv) | refine depGo_skip rfl ?_ | refine depGo_none rfl ?_)); rename_i v1 hv1; obtain ⟨out, hcat, hk2, hpn⟩ := hv1; refine depGo_nil ?_; refine W_call hS' (by rfl) ((have hsn := hpn.len; cat_Node H' _ _ _ _ hcat (by omega) (by omega))) ?_; intro v H3 w3 hG3 hr; exact ⟨H3, hG3.le, hG'.trans hG3, fun H'' hle => ⟨out, nds_of (by
                have e1 : (pre ++ out ++ post).length = pre.length + (out.length + post.length) := by rw [List.length_append, List.length_append]; omega
                rw [e1, List.map_append, List.map_append, List.append_assoc]; exact hr.mono hle) (((hkpre.mono hG'.le).append hk2).append (hkpost.mono hG'.le) |>.mono hG3.le |>.mono hle), hpn⟩⟩))
            apply steps_cons
            · refine A_fact (φ := fun v H3 => ∃ out, PtAt H3 h v [] (pre ++ out ++ post) ∧ PartNodes H Q h its n out) ?_
              intro c' u H' w' hG'
              have hS' := hG'.sub
              (repeat (first | refine depGo_eq rfl rfl rfl ?_ | (refine depGo_fact rfl rfl rfl ?_; intro v hv) | refine depGo_skip rfl ?_ | refine depGo_none rfl ?_))
              obtain ⟨out, ⟨B2, d2, rfl, hd2, hsl2, hk2⟩, hpn⟩ := hv
              refine depGo_nil ?_
              refine W_build (by rfl) ?_
              exact ⟨H', HLe.refl _, hG', fun H'' hle => ⟨out, ⟨none, 0, B2, d2, rfl, Nat.le_refl _, hd2, .inl rfl, hsl2.mono hle, hk2.mono hle⟩, hpn⟩⟩
            apply steps_cons
            · refine A_eff (φ := fun _ _ => True) ?_
              intro u' H' w' hG'
              (repeat (first | refine depGo_eq rfl rfl rfl ?_ | (refine depGo_fact rfl rfl rfl ?_; intro v hv) | refine depGo_skip rfl ?_ | refine depGo_none rfl ?_))
              obtain ⟨out, ⟨A3, c3, B3, d3, rfl, r1, r2, r4, r5, r6⟩, hpn⟩ := hv
              refine depGo_nil ?_
              obtain ⟨hm4', hm9'⟩ := hG'.m (Nat.le_refl _)
              refine W_storeM (b := b4) (o := 0) (vs := [.slice A3 ([] : List Ent).length c3, .slice B3 (pre ++ out ++ post).length d3]) (by rfl) (by rfl) hm4' (by rfl) (two_one rfl rfl) (by rfl) (Nat.le_refl 2) ?_
              intro w3 hg3 hm3
              exact ⟨H', HLe.refl _, hG'.next (grown_own hG'.grow hg3 hm4' hb4) ⟨⟨out, _, _, hm3, ⟨A3, c3, B3, d3, rfl, r1, r2, r4, r5, r6⟩, hpn⟩, hm9'.other hg3 (fun e => hne (by cases e; rfl))⟩, fun _ _ => trivial⟩
            exact trivial
          · intro H' w' hG' hle' hF
            (repeat (first | refine fin_eq rfl rfl ?_ | (refine fin_fact rfl ?_; intro v hv) | refine fin_none rfl ?_)); refine fin_nil ?_
            (refine CW_ret ?_)
            obtain ⟨⟨out, v1, v2, hm', hpt, hpn⟩, _⟩ := hF
            have hlo := hpn.len
            refine ⟨_, ResW_cell (cs := [v1, v2]) rfl hm' rfl, H', hG', pre.length + out.length + post.length, out.map Nd.blk ++ N, by simp; omega, (del_kids hpt hf hprem hpostm hpn hlow' hits hbx).wider (fun b hb => ?_), ?_, ?_⟩
            · rcases hb with hb | hb
              · exact .inl (List.mem_append_left _ hb)
              · rw [hQ] at hb
                rcases hb with hb | hb
                · exact .inl (List.mem_append_right _ hb)
                · exact .inr hb
            · show _ ≤ x.kids.length
              omega
            · show x.kids.length ≤ _
              omega
      · have ha0 : a = [] := List.eq_nil_of_length_eq_zero (by omega)
        have hal : a.length = 0 := by omega
        match b, h1, h4, hxn, hwk, hkb with
        | [], h1, h4, hxn, hwk, hkb => simp at hxn; omega
        | s :: b', h1, h4, hxn, hwk, hkb =>
        have hsk : s ∈ x.kids := by rw [h1]; simp
        have hats : NodeAt H h s := hx.kids s hsk
        have hfs := Nd.full_kids hf s hsk
        have hes := enough_iff.1 hfs.1
        have hss := size_le hats.ok
        have hgets : (x.kids.map Nd.ptr)[(a.length + 1) * 1]? = some s.ptr := by rw [h1, ha0]; simp
        have hxn : x.kids.length = a.length + 1 + (b'.length + 1) := hxn
        have hq2 : a.length + 1 < x.kids.length := by omega
        (refine S_op ?_; refine W_lssT (by first | rfl | assumption) (by first | rfl | assumption) (by first | omega | rfl) ?_; refine S_nil ?_; refine CW_true (by first | rfl | assumption) ?_; refine CW_seq ?_; refine CW_region rfl ?_; refine S_op ?_; refine W_moveInt (by first | rfl | assumption) ?_; refine S_op ?_; refine W_gtrF (by first | rfl | assumption) (by first | rfl | assumption) (by first | omega | rfl) ?_; refine S_nil ?_; refine CW_false (by first | rfl | assumption) ?_; refine CW_seq ?_; refine CW_region rfl ?_; refine S_op ?_; refine W_moveInt (by first | rfl | assumption) ?_; refine S_op ?_; refine W_add2 (by first | rfl | assumption) (by omega) ?_; refine S_op ?_; refine W_assignInt (by first | rfl | assumption) ?_; refine S_nil ?_)
        apply CW_region_eff (fun H w => Mut H w b4 Zp ∧ Mut H w b9 [u1, u2]) (DelL b4 b9 Q h (withoutL (Nd.items h m) key ++ Nd.items h s) (n + Nd.size h s)) 1 [_, _, _, _, _, _, _, _, _] [some 0, none, none, none, none, none, none, none, some 1] [some 58, some 59, some 60, some 61, some 62, some 63, some 64, some 65, none] [58, 59, 60, 61, 62, 63, 64, 65] mixed rfl rfl rfl rfl (by decide) rfl rfl rfl (by assumption)
        · exact ⟨hm4, hm9⟩
        · exact (closedMut b4 _).and (closedMut b9 _)
        · exact closedDelL _ _ _ _ _ _
        · skip
          apply steps_cons
          · refine A_eff (φ := fun v _ => v = .agg #[u1, u2]) ?_
            intro u' H' w' hG'
            (repeat (first | refine depGo_eq rfl rfl rfl ?_ | (refine depGo_fact rfl rfl rfl ?_; intro v hv) | refine depGo_skip rfl ?_ | refine depGo_none rfl ?_))
            refine depGo_nil ?_
            refine W_loadMAgg (s := 2) (vs := [u1, u2]) (by rfl) (hG'.m (by omega)).2 (by rfl) (by rfl) ?_
            exact ⟨H', HLe.refl _, hG'.pass (by omega), fun _ _ => rfl⟩
          ((apply steps_cons; case h1 => (apply A_pure; intro c u H' w' hG; have hS' := hG.sub; have hS2' := hG.subOld; (repeat (first | refine depGo_eq rfl rfl rfl ?_ | (refine depGo_fact rfl rfl rfl ?_; intro v hv) | refine depGo_skip rfl ?_ | refine depGo_none rfl ?_)); apply Pure1.mk; intro K hk; exact W_moveSl (by first | rfl | assumption) hk)); (apply steps_cons; case h1 => (apply A_pure; intro c u H' w' hG; have hS' := hG.sub; have hS2' := hG.subOld; (repeat (first | refine depGo_eq rfl rfl rfl ?_ | (refine depGo_fact rfl rfl rfl ?_; intro v hv) | refine depGo_skip rfl ?_ | refine depGo_none rfl ?_)); apply Pure1.mk; intro K hk; exact W_moveInt (by first | rfl | assumption) hk)); (apply steps_cons; case h1 => (apply A_pure; intro c u H' w' hG; have hS' := hG.sub; have hS2' := hG.subOld; (repeat (first | refine depGo_eq rfl rfl rfl ?_ | (refine depGo_fact rfl rfl rfl ?_; intro v hv) | refine depGo_skip rfl ?_ | refine depGo_none rfl ?_)); apply Pure1.mk; intro K hk; exact W_add1 (by first | rfl | assumption) (by omega) hk)); (apply steps_cons; case h1 => (apply A_pure; intro c u H' w' hG; have hS' := hG.sub; have hS2' := hG.subOld; (repeat (first | refine depGo_eq rfl rfl rfl ?_ | (refine depGo_fact rfl rfl rfl ?_; intro v hv) | refine depGo_skip rfl ?_ | refine depGo_none rfl ?_)); apply Pure1.mk; intro K hk; exact W_index (by first | rfl | assumption) (by first | rfl | assumption) (by first | assumption | omega | decide) (by first | rfl | assumption) hk)))
          apply steps_cons; case h1 => (apply A_pure; intro c u H' w' hG'; have hS2' := hG'.subOld; (repeat (first | refine depGo_eq rfl rfl rfl ?_ | (refine depGo_fact rfl rfl rfl ?_; intro v hv) | refine depGo_skip rfl ?_ | refine depGo_none rfl ?_)); apply Pure1.mk; intro K hk; exact W_loadRow (j := (a.length + 1) * 1) (by rfl) hrow hgets hS2' hk)
          (apply steps_cons; case h1 => (refine A_fact (φ := (fun v H3 => IsPart H3 Q h v (Nd.items h s) (Nd.size h s))) ?_; intro c' u H' w' hG; have hS' := hG.sub; (repeat (first | refine depGo_eq rfl rfl rfl ?_ | (refine depGo_fact rfl rfl rfl ?_; intro v hv) | refine depGo_skip rfl ?_ | refine depGo_none rfl ?_)); refine depGo_nil ?_; refine W_call hS' (by rfl) (part_of (hats.mono hG.le) hfs.2 (hbx s hsk)) ?_; intro v H3 w3 hG3 hr; exact ⟨H3, hG3.le, hG.trans hG3, fun H'' hle => hr.mono hle⟩))
          (apply steps_cons; case h1 => (refine A_fact (φ := (fun v H3 => IsPart H3 Q h v (withoutL (Nd.items h m) key ++ Nd.items h s) (n + Nd.size h s))) ?_; intro c' u H' w' hG'; have hS' := hG'.sub; (repeat (first | refine depGo_eq rfl rfl rfl ?_ | (refine depGo_fact rfl rfl rfl ?_; intro v hv) | refine depGo_skip rfl ?_ | refine depGo_none rfl ?_)); have hps := hv; refine depGo_nil ?_; refine W_call hS' (by rfl) (part_with (hp.mono hG'.le) hps (by omega) (by omega)) ?_; intro v H3 w3 hG3 hr; exact ⟨H3, hG3.le, hG'.trans hG3, fun H'' hle => hr.mono hle⟩))
          apply steps_cons
          · refine A_eff (φ := fun _ _ => True) ?_
            intro u' H' w' hG'
            (repeat (first | refine depGo_eq rfl rfl rfl ?_ | (refine depGo_fact rfl rfl rfl ?_; intro v hv) | refine depGo_skip rfl ?_ | refine depGo_none rfl ?_))
            have hv : IsPart H' Q h v _ _ := hv
            obtain ⟨A3, a3, c3, B3, b3, d3, hve⟩ := hv.agg
            subst hve
            refine depGo_nil ?_
            obtain ⟨hm4', hm9'⟩ := hG'.m (Nat.le_refl _)
            refine W_storeM (b := b9) (o := 0) (vs := [.slice A3 a3 c3, .slice B3 b3 d3]) (by rfl) (by rfl) hm9' (by rfl) (two_one rfl rfl) (by rfl) (Nat.le_refl 2) ?_
            intro w3 hg3 hm3
            exact ⟨H', HLe.refl _, hG'.next (grown_own hG'.grow hg3 hm9' hb9) ⟨hm4'.other hg3 (fun e => hne (by cases e; rfl)), _, _, hm3, hv⟩, fun _ _ => trivial⟩
          exact trivial
        · skip
          intro H w hG hle' hF
          (repeat (first | refine fin_eq rfl rfl ?_ | (refine fin_fact rfl ?_; intro v hv) | refine fin_none rfl ?_)); refine fin_nil ?_
          obtain ⟨hm4, u1, u2, hm9, hp⟩ := hF
          obtain ⟨n', hnn⟩ : ∃ k, k = n + Nd.size h s := ⟨_, rfl⟩
          rw [← hnn] at hp
          replace hS := hG.sub
          replace hsl := hsl.mono hle'
          replace hka := hka.mono hle'
          replace hkb := hkb.mono hle'
          obtain ⟨pre, hpre⟩ : ∃ l : List (Nd h), l = [] := ⟨_, rfl⟩
          obtain ⟨post, hpost⟩ : ∃ l, l = b' := ⟨_, rfl⟩
          obtain ⟨its, hits0⟩ : ∃ l, l = withoutL (Nd.items h m) key ++ Nd.items h s := ⟨_, rfl⟩
          have hits : pre.flatMap (Nd.items h) ++ its ++ post.flatMap (Nd.items h) = withoutL (Nd.items (h + 1) x) key := by rw [hwk, hits0, hpre, hpost, ha0]; simp
          have hfrom : a.length = pre.length := by rw [hpre]; exact hal
          have hto : x.kids.length - (a.length + 2) = post.length := by rw [hpost]; omega
          have hs1 : SlAt H B (pre.map Nd.ptr) := by rw [hpre]; exact .inl rfl
          have hs2 : SlAt H (slAddr B d (a.length + 2) 1) (post.map Nd.ptr) := by
            have := SlAt.drop (l := a.length + 2) (sz := 1) hsl (by simp) hd
            rw [Nat.mul_one, ← List.map_drop, h1, ha0] at this
            rw [hpost, ha0]
            simpa using this
          have hkpre : AllAt H h pre := by rw [hpre]; intro k hk; cases hk
          have hkpost : AllAt H h post := by rw [hpost]; intro k hk; exact hkb k (by simp [hk])
          have hprem : ∀ k ∈ pre, k ∈ x.kids := by intro k hk; rw [hpre] at hk; cases hk
          have hpostm : ∀ k ∈ post, k ∈ x.kids := by intro k hk; rw [hpost] at hk; rw [h1]; simp [hk]
          rw [← hits0] at hp
          rw [← hits] at hrw how
          have hr := (rise_parts hrw).2.1
          have ho : ∀ e ∈ its, entOk e = true := fun e he => how e (by simp [he])
          have hlow' : lowN h ≤ n' := by omega
          have hn8 : n' ≤ 8 := by omega
          have hn1 : (if h = 0 then 1 else 2) ≤ n' := by split <;> omega
          obtain ⟨n, hn⟩ : ∃ k, k = n' := ⟨_, rfl⟩
          rw [← hn] at hp hlow' hn8 hn1
          (refine CW_seq ?_)
          apply CW_region_eff (fun H w => Mut H w b4 Zp ∧ Mut H w b9 [u1, u2]) (DelF b4 b9 Q H h its n pre post [u1, u2]) 0 [_, _, _, _, _, _, _, _, _, _, _, _] [none, none, none, none, none, none, none, none, none, none, none, some 0] [some 66, some 67, some 68, some 69, some 70, some 71, some 72, some 73, some 74, some 75, some 76, none] [66, 67, 68, 69, 70, 71, 72, 73, 74, 75, 76] mixed rfl rfl rfl rfl (by decide) rfl rfl rfl (by assumption)
          · exact ⟨hm4, hm9⟩
          · exact (closedMut b4 _).and (closedMut b9 _)
          · exact closedDelF _ _ _ _ _ _ _ _ _ _
          · ((apply steps_cons; case h1 => (apply A_pure; intro c u H' w' hG; have hS' := hG.sub; have hS2' := hG.subOld; (repeat (first | refine depGo_eq rfl rfl rfl ?_ | (refine depGo_fact rfl rfl rfl ?_; intro v hv) | refine depGo_skip rfl ?_ | refine depGo_none rfl ?_)); apply Pure1.mk; intro K hk; exact W_moveSl (by first | rfl | assumption) hk)); (apply steps_cons; case h1 => (apply A_pure; intro c u H' w' hG; have hS' := hG.sub; have hS2' := hG.subOld; (repeat (first | refine depGo_eq rfl rfl rfl ?_ | (refine depGo_fact rfl rfl rfl ?_; intro v hv) | refine depGo_skip rfl ?_ | refine depGo_none rfl ?_)); apply Pure1.mk; intro K hk; exact W_moveInt (by first | rfl | assumption) hk)); (apply steps_cons; case h1 => (apply A_pure; intro c u H' w' hG; have hS' := hG.sub; have hS2' := hG.subOld; (repeat (first | refine depGo_eq rfl rfl rfl ?_ | (refine depGo_fact rfl rfl rfl ?_; intro v hv) | refine depGo_skip rfl ?_ | refine depGo_none rfl ?_)); apply Pure1.mk; intro K hk; exact W_sliceHi (by first | rfl | assumption) (by first | rfl | assumption) (by omega) hk)))
            apply steps_cons
            · refine A_pure (val := .agg #[u1, u2]) ?_
              intro c u H' w' hG'
              (repeat (first | refine depGo_eq rfl rfl rfl ?_ | (refine depGo_fact rfl rfl rfl ?_; intro v hv) | refine depGo_skip rfl ?_ | refine depGo_none rfl ?_))
              have hm' : Mut H' w' b9 [u1, u2] := by
                by_cases hc : c ≤ 0
                · exact (hG'.m hc).2
                · exact (hG'.f (by omega)).2
              apply Pure1.mk
              intro K hk
              exact W_loadMAgg (s := 2) (vs := [u1, u2]) (by rfl) hm' (by rfl) (by rfl) hk
            (apply steps_cons; case h1 => (refine A_fact (φ := (fun v H3 => ∃ out, NdsAt H3 h v out ∧ PartNodes H Q h its n out)) ?_; intro c' u H' w' hG; have hS' := hG.sub; (repeat (first | refine depGo_eq rfl rfl rfl ?_ | (refine depGo_fact rfl rfl rfl ?_; intro v hv) | refine depGo_skip rfl ?_ | refine depGo_none rfl ?_)); refine depGo_nil ?_; refine W_call hS' (by rfl) (part_nodes (hp.mono hG.le) hr ho hn1 hn8 (by omega)) ?_; intro v H3 w3 hG3 hr; exact ⟨H3, hG3.le, hG.trans hG3, fun H'' hle => (by
                obtain ⟨out, q1, q2⟩ := hr
                exact ⟨out, q1.mono hle, q2.old hG.le⟩)⟩))
            ((apply steps_cons; case h1 => (apply A_pure; intro c u H' w' hG; have hS' := hG.sub; have hS2' := hG.subOld; (repeat (first | refine depGo_eq rfl rfl rfl ?_ | (refine depGo_fact rfl rfl rfl ?_; intro v hv) | refine depGo_skip rfl ?_ | refine depGo_none rfl ?_)); apply Pure1.mk; intro K hk; exact W_moveSl (by first | rfl | assumption) hk)); (apply steps_cons; case h1 => (apply A_pure; intro c u H' w' hG; have hS' := hG.sub; have hS2' := hG.subOld; (repeat (first | refine depGo_eq rfl rfl rfl ?_ | (refine depGo_fact rfl rfl rfl ?_; intro v hv) | refine depGo_skip rfl ?_ | refine depGo_none rfl ?_)); apply Pure1.mk; intro K hk; exact W_moveInt (by first | rfl | assumption) hk)); (apply steps_cons; case h1 => (apply A_pure; intro c u H' w' hG; have hS' := hG.sub; have hS2' := hG.subOld; (repeat (first | refine depGo_eq rfl rfl rfl ?_ | (refine depGo_fact rfl rfl rfl ?_; intro v hv) | refine depGo_skip rfl ?_ | refine depGo_none rfl ?_)); apply Pure1.mk; intro K hk; exact W_sliceLo (by first | rfl | assumption) (by first | rfl | assumption) (by omega) hk)))
            apply steps_cons
            · refine A_fact (φ := fun v H3 => ∃ out, IsCat 1 v 3 (pre.length + (out.length + post.length)) (pre.map Nd.ptr ++ (out.map Nd.ptr ++ post.map Nd.ptr)) H3 ∧ AllAt H3 h out ∧ PartNodes H Q h its n out) ?_
              intro c' u H' w' hG'
              have hS' := hG'.sub
              (repeat (first | refine depGo_eq rfl rfl rfl ?_ | (refine depGo_fact rfl rfl rfl ?_; intro v hv) | refine depGo_skip rfl ?_ | refine depGo_none rfl ?_))
              obtain ⟨out, ⟨B2, d2, rfl, hd2, hsl2, hk2⟩, hpn⟩ := hv
              have i1 : IsSl 1 (.slice B (a.length) d) pre.length (pre.map Nd.ptr) H' := ⟨B, d, by rw [hfrom], by omega, hs1.mono hG'.le, by simp⟩
              have i2 : IsSl 1 (.slice B2 out.length d2) out.length (out.map Nd.ptr) H' := ⟨B2, d2, rfl, hd2, hsl2, by simp⟩
              have i3 : IsSl 1 (.slice (slAddr B d (a.length + 2) 1) (x.kids.length - (a.length + 2)) (d - (a.length + 2))) post.length (post.map Nd.ptr) H' := ⟨_, _, by rw [hto], by omega, hs2.mono hG'.le, by simp⟩
              refine depGo_nil ?_
              refine W_buildOnes hS' (by omega) (by rfl) (by rfl) ?_
              intro H3 w3 g hG3 hb3 _ _
              exact ⟨H3, hG3.le, hG'.trans hG3, fun H'' hle => ⟨out, (isCat3 hb3 hG3.le i1 i2 i3 (ptr_one _) (ptr_one _) (ptr_one _)).mono hle, (hk2.mono hG3.le).mono hle, hpn⟩⟩
            (apply steps_cons; case h1 => (refine A_fact (φ := (fun v H3 => ∃ out, NdsAt H3 h v (pre ++ out ++ post) ∧ PartNodes H Q h its n out)) ?_; intro c' u H' w' hG'; have hS' := hG'.sub; (repeat (first | refine depGo_eq rfl rfl rfl ?_ | (refine depGo_fact rfl rfl rfl ?_; intro v hv) | refine depGo_skip rfl ?_ | refine depGo_none rfl ?_)); rename_i v1 hv1; obtain ⟨out, hcat, hk2, hpn⟩ := hv1; refine depGo_nil ?_; refine W_call hS' (by rfl) ((have hsn := hpn.len; cat_Node H' _ _ _ _ hcat (by omega) (by omega))) ?_; intro v H3 w3 hG3 hr; exact ⟨H3, hG3.le, hG'.trans hG3, fun H'' hle => ⟨out, nds_of (by
                have e1 : (pre ++ out ++ post).length = pre.length + (out.length + post.length) := by rw [List.length_append, List.length_append]; omega
                rw [e1, List.map_append, List.map_append, List.append_assoc]; exact hr.mono hle) (((hkpre.mono hG'.le).append hk2).append (hkpost.mono hG'.le) |>.mono hG3.le |>.mono hle), hpn⟩⟩))
            apply steps_cons
            · refine A_fact (φ := fun v H3 => ∃ out, PtAt H3 h v [] (pre ++ out ++ post) ∧ PartNodes H Q h its n out) ?_
              intro c' u H' w' hG'
              have hS' := hG'.sub
              (repeat (first | refine depGo_eq rfl rfl rfl ?_ | (refine depGo_fact rfl rfl rfl ?_; intro v hv) | refine depGo_skip rfl ?_ | refine depGo_none rfl ?_))
              obtain ⟨out, ⟨B2, d2, rfl, hd2, hsl2, hk2⟩, hpn⟩ := hv
              refine depGo_nil ?_
              refine W_build (by rfl) ?_
              exact ⟨H', HLe.refl _, hG', fun H'' hle => ⟨out, ⟨none, 0, B2, d2, rfl, Nat.le_refl _, hd2, .inl rfl, hsl2.mono hle, hk2.mono hle⟩, hpn⟩⟩
            apply steps_cons
            · refine A_eff (φ := fun _ _ => True) ?_
              intro u' H' w' hG'
              (repeat (first | refine depGo_eq rfl rfl rfl ?_ | (refine depGo_fact rfl rfl rfl ?_; intro v hv) | refine depGo_skip rfl ?_ | refine depGo_none rfl ?_))
              obtain ⟨out, ⟨A3, c3, B3, d3, rfl, r1, r2, r4, r5, r6⟩, hpn⟩ := hv
              refine depGo_nil ?_
              obtain ⟨hm4', hm9'⟩ := hG'.m (Nat.le_refl _)
              refine W_storeM (b := b4) (o := 0) (vs := [.slice A3 ([] : List Ent).length c3, .slice B3 (pre ++ out ++ post).length d3]) (by rfl) (by rfl) hm4' (by rfl) (two_one rfl rfl) (by rfl) (Nat.le_refl 2) ?_
              intro w3 hg3 hm3
              exact ⟨H', HLe.refl _, hG'.next (grown_own hG'.grow hg3 hm4' hb4) ⟨⟨out, _, _, hm3, ⟨A3, c3, B3, d3, rfl, r1, r2, r4, r5, r6⟩, hpn⟩, hm9'.other hg3 (fun e => hne (by cases e; rfl))⟩, fun _ _ => trivial⟩
            exact trivial
          · intro H' w' hG' hle' hF
            (repeat (first | refine fin_eq rfl rfl ?_ | (refine fin_fact rfl ?_; intro v hv) | refine fin_none rfl ?_)); refine fin_nil ?_
            (refine CW_ret ?_)
            obtain ⟨⟨out, v1, v2, hm', hpt, hpn⟩, _⟩ := hF
            have hlo := hpn.len
            refine ⟨_, ResW_cell (cs := [v1, v2]) rfl hm' rfl, H', hG', pre.length + out.length + post.length, out.map Nd.blk ++ N, by simp; omega, (del_kids hpt hf hprem hpostm hpn hlow' hits hbx).wider (fun b hb => ?_), ?_, ?_⟩
            · rcases hb with hb | hb
              · exact .inl (List.mem_append_left _ hb)
              · rw [hQ] at hb
                rcases hb with hb | hb
                · exact .inl (List.mem_append_right _ hb)
                · exact .inr hb
            · show _ ≤ x.kids.length
              omega
            · show x.kids.length ≤ _
              omega
end Go.Proofs.Ytgaabmoknpifnaa
/- tree: Del: walked, with what it makes. Conditions: sizes. -/
namespace Go.Proofs.Ytgaabmoknpifnaa
open Go.Proofs Go.RowKit
set_option linter.unusedVariables false
attribute [local irreducible] CW SeqW OpW
set_option maxHeartbeats 8000000
theorem top_nodes {H : HF} {Q : Nat → Prop} {h : Nat} {v : Value} {its : List Ent} {n : Nat} (hp : IsPart H Q h v its n) (hr : riseB its = true) (ho : ∀ e ∈ its, entOk e = true) (h1 : h = 0 ∨ 1 ≤ n) (h8 : n ≤ highN h) (hh : h ≤ 800000) :
    Fn Try.prog 58 [v] H fun r H' => (its = [] ∧ ∃ A c, r = .slice A 0 c) ∨ ∃ (k : Nat) (y : Nd k), NdsAt H' k r [y] ∧ Nd.items k y = its ∧ Nd.full k y = true ∧ ∀ b ∈ Nd.blocks k y, b = y.blk ∨ Q b := by
  have hn8 : n ≤ 8 := by unfold highN at h8; split at h8 <;> omega
  have main : (if h = 0 then 1 else 2) ≤ n → Fn Try.prog 58 [v] H fun r H' => (its = [] ∧ ∃ A c, r = .slice A 0 c) ∨ ∃ (k : Nat) (y : Nd k), NdsAt H' k r [y] ∧ Nd.items k y = its ∧ Nd.full k y = true ∧ ∀ b ∈ Nd.blocks k y, b = y.blk ∨ Q b := by
    intro hl
    refine (part_nodes hp hr ho hl hn8 hh).mono fun r H' _ ⟨out, q1, q2⟩ => .inr ?_
    have h1 := q2.one h8
    match out, h1 with
    | [y], _ =>
      refine ⟨h, y, q1, by have := q2.items; rw [List.flatMap_singleton] at this; exact this, q2.full y (by simp), fun b hb => ?_⟩
      rcases q2.blocks y (by simp) b hb with h | h
      · exact .inl (by simpa using h)
      · exact .inr h
  by_cases hl : (if h = 0 then 1 else 2) ≤ n
  · exact main hl
  · cases h with
    | zero =>
      obtain ⟨p1, rfl⟩ := hp
      have h0 : its.length = 0 := by simp at hl; simp [hl]
      have h0' : its = [] := List.eq_nil_of_length_eq_zero h0
      refine (nodesLeaf_c p1 hr ho hn8).mono fun r H' _ ⟨out, ⟨B, d, q0, q1⟩, q2, _⟩ => .inl ⟨h0', ?_⟩
      rcases q2 with ⟨_, rfl⟩ | ⟨q4, _⟩ | ⟨q4, _⟩
      · exact ⟨B, d, q0⟩
      · omega
      · omega
    | succ h =>
      obtain ⟨ks, p1, rfl, rfl, p3, p4⟩ := hp
      simp at hl h1
      have hk1 : ks.length = 1 := by omega
      refine (nodesOne_c p1 hk1).mono fun r H' _ hr => .inr ?_
      match ks, hk1 with
      | [y], _ => exact ⟨h, y, hr, by simp, (p3 y (by simp)).2, fun b hb => .inr (p4 y (by simp) b hb)⟩
structure Deled (t : Tr) (key : ByteArray) (t' : Tr) : Prop where
  items : t'.items = withoutL t.items key
  full : t'.full = true
  blocks : ∃ N : List Nat, N.length ≤ 2 * t.height + 1 ∧ ∀ b ∈ t'.blocks, b ∈ N ∨ b ∈ t.blocks
theorem withoutL_same {l : List Ent} {key : ByteArray} (h : lookB l key = false) : withoutL l key = l := by
  have : findIs l key = false := by rw [look_is]; exact h
  simp [withoutL, this]
theorem del_t (H : HF) (t : Tr) (key : ByteArray) (ht : Tr.At H t) (hf : t.full = true) (hh : t.height ≤ 800000) :
    Fn Try.prog 43 [t.val, .string key] H fun v H' => ∃ t', v = .tuple #[Tr.val t', .bool (lookB t.items key)] ∧ Tr.At H' t' ∧ Deled t key t' ∧ (lookB t.items key = false → t' = t) := by
  refine Fn_of_CW Try.func43 rfl Try.ntmps43 Try.results43 rfl fun w hS => ?_; have hG := Grow.refl hS; have hS0 := hS
  (refine CW_seq ?_; refine CW_region rfl ?_; refine S_op ?_; refine W_assignPtr (by first | rfl | assumption) ?_; refine S_op ?_; refine W_assignBool (by first | rfl | assumption) ?_; refine S_nil ?_; refine CW_seq ?_; refine CW_seq ?_; refine CW_region rfl ?_; refine S_op ?_; refine W_movePtr (by first | rfl | assumption) ?_; refine S_op ?_; refine W_moveStr (by first | rfl | assumption) ?_)
  (refine S_op ?_; refine W_call hS (by rfl) (get_t ht key (by omega)) ?_); rintro v H w hG' rfl; replace hG := hG.trans hG'; replace hS := hG'.sub; replace ht := ht.mono hG'.le; clear hG'
  cases hl : lookB t.items key with
  | false =>
    (refine S_op ?_; refine W_moveTup (by first | rfl | assumption) ?_; refine S_op ?_; refine W_extract (by first | rfl | assumption) (by rfl) ?_; refine S_op ?_; refine W_extract (by first | rfl | assumption) (by rfl) ?_; refine S_op ?_; refine W_assignStr (by first | rfl | assumption) ?_; refine S_op ?_; refine W_assignBool (by first | rfl | assumption) ?_; refine S_nil ?_; refine CW_seq ?_; refine CW_region rfl ?_; refine S_op ?_; refine W_moveBool (by first | rfl | assumption) ?_; refine S_op ?_; refine W_not (by first | rfl | assumption) ?_; refine S_nil ?_; refine CW_true (by first | rfl | assumption) ?_; refine CW_seq ?_; refine CW_region rfl ?_; refine S_op ?_; refine W_movePtr (by first | rfl | assumption) ?_; refine S_op ?_; refine W_assignPtr (by first | rfl | assumption) ?_; refine S_op ?_; refine W_assignBool (by first | rfl | assumption) ?_; refine S_nil ?_; refine CW_ret ?_)
    exact ⟨_, ResW_two (v1 := t.val) (v2 := .bool _) rfl rfl, H, hG, t, rfl, ht, ⟨(withoutL_same hl).symm, hf, [], by simp, fun b hb => .inr hb⟩, fun _ => rfl⟩
  | true =>
    cases t with
    | none => cases hl
    | some x =>
      obtain ⟨h, x⟩ := x
      have hx : NodeAt H h x := ht
      have hh : h + 1 ≤ 800000 := hh
      have hl : lookB (Nd.items h x) key = true := hl
      have hf : Nd.full h x = true := hf
      have hok := hx.ok
      have hrw := rise_withoutL key (Nd.ok_len hok).2
      have how := entOk_withoutL (key := key) (Nd.ok_ents hok)
      (refine S_op ?_; refine W_moveTup (by first | rfl | assumption) ?_; refine S_op ?_; refine W_extract (by first | rfl | assumption) (by rfl) ?_; refine S_op ?_; refine W_extract (by first | rfl | assumption) (by rfl) ?_; refine S_op ?_; refine W_assignStr (by first | rfl | assumption) ?_; refine S_op ?_; refine W_assignBool (by first | rfl | assumption) ?_; refine S_nil ?_; refine CW_seq ?_; refine CW_region rfl ?_; refine S_op ?_; refine W_moveBool (by first | rfl | assumption) ?_; refine S_op ?_; refine W_not (by first | rfl | assumption) ?_; refine S_nil ?_; refine CW_false (by first | rfl | assumption) ?_; refine CW_skip ?_; refine CW_seq ?_; refine CW_region rfl ?_; refine S_op ?_; refine W_movePtr (by first | rfl | assumption) ?_; refine S_op ?_; refine W_moveStr (by first | rfl | assumption) ?_)
      (refine S_op ?_; refine W_call hS (by rfl) (del_c h H x key hx hf hl (by omega)) ?_); rintro v H w hG' ⟨n, N, hN, hp, hn1, hn2⟩; replace hG := hG.trans hG'; replace hS := hG'.sub; replace hx := hx.mono hG'.le; clear hG'
      have hsz := size_le hok
      have h0n : h = 0 ∨ 1 ≤ n := by
        cases h with
        | zero => exact .inl rfl
        | succ h =>
          have h2 := hok.1
          have : x.kids.length ≤ n + 1 := hn2
          exact .inr (by omega)
      skip
      refine S_op ?_
      refine W_call hS (by rfl) (top_nodes hp hrw how h0n (by omega) (by omega)) ?_
      rintro v H w hG' hv
      replace hG := hG.trans hG'
      replace hS := hG'.sub
      clear hG'
      rcases hv with ⟨hnil, A, c, rfl⟩ | ⟨k, y, ⟨B, d, rfl, hd, hsl, hat⟩, hit, hfy, hby⟩
      · (refine S_op ?_; refine W_assignSl (by first | rfl | assumption) ?_; refine S_nil ?_; refine CW_seq ?_; refine CW_seq ?_; refine CW_region rfl ?_; refine S_op ?_; refine W_moveSl (by first | rfl | assumption) ?_; refine S_op ?_; refine W_len (by first | rfl | assumption) ?_; refine S_op ?_; refine W_eqlT (by first | rfl | assumption) (by first | rfl | assumption) (by first | omega | rfl) ?_; refine S_nil ?_; refine CW_true (by first | rfl | assumption) ?_; refine CW_seq ?_; refine CW_region rfl ?_; refine S_op ?_; refine W_assignPtr (by first | rfl | assumption) ?_; refine S_op ?_; refine W_assignBool (by first | rfl | assumption) ?_; refine S_nil ?_; refine CW_ret ?_)
        exact ⟨_, ResW_two (v1 := .pointer _) (v2 := .bool _) rfl rfl, H, hG, none, rfl, trivial, ⟨hnil.symm, rfl, [], by simp, fun b hb => (by cases hb)⟩, fun h => by cases h⟩
      · obtain ⟨bb, off, hA, hrow⟩ := slAt_some hsl (q := 0) (by simp)
        have hget : ([y].map Nd.ptr)[0 * 1]? = some y.ptr := rfl
        have hy : NodeAt H k y := hat y (by simp)
        have hq0 : 0 < [y].length := by simp
        (refine S_op ?_; refine W_assignSl (by first | rfl | assumption) ?_; refine S_nil ?_; refine CW_seq ?_; refine CW_seq ?_; refine CW_region rfl ?_; refine S_op ?_; refine W_moveSl (by first | rfl | assumption) ?_; refine S_op ?_; refine W_len (by first | rfl | assumption) ?_; refine S_op ?_; refine W_eqlF (by first | rfl | assumption) (by first | rfl | assumption) (by first | omega | rfl) ?_; refine S_nil ?_; refine CW_false (by first | rfl | assumption) ?_; refine CW_skip ?_; refine CW_seq ?_; refine CW_region rfl ?_; refine S_op ?_; refine W_moveSl (by first | rfl | assumption) ?_; refine S_op ?_; refine W_index (by first | rfl | assumption) (by first | rfl | assumption) (by first | assumption | omega | decide) (by first | rfl | assumption) ?_)
        refine S_op (W_loadRow (j := 0 * 1) (by rfl) hrow hget hS ?_)
        (refine S_op ?_; refine W_assignPtr (by first | rfl | assumption) ?_; refine S_op ?_; refine W_assignBool (by first | rfl | assumption) ?_; refine S_nil ?_; refine CW_ret ?_)
        exact ⟨_, ResW_two (v1 := y.ptr) (v2 := .bool _) rfl rfl, H, hG, trOf y, rfl, hy, ⟨hit, hfy, y.blk :: N, by simp [Tr.height]; omega, fun b hb => (by
          rcases hby b hb with h | h | h
          · exact .inl (by simp [h])
          · exact .inl (by simp [h])
          · exact .inr h)⟩, fun h => by cases h⟩
end Go.Proofs.Ytgaabmoknpifnaa
/- Trees as layers above them see them: put, del, get. Conditions: sizes. -/
namespace Go.Proofs.Ytgaabmoknpifnaa
open Go.Proofs Go.RowKit
set_option linter.unusedVariables false
attribute [local irreducible] CW SeqW OpW
set_option maxHeartbeats 4000000
/-- A tree lies in the heap, and can be. -/
structure TreeAt (H : HF) (t : Tr) : Prop where
  at_ : Tr.At H t
  full : t.full = true
theorem TreeAt.mono {H H' : HF} {t : Tr} (h : TreeAt H t) (hle : HLe H H') : TreeAt H' t := ⟨h.at_.mono hle, h.full⟩
theorem TreeAt.rise {H : HF} {t : Tr} (h : TreeAt H t) : riseB t.items = true := h.at_.ok.1
theorem TreeAt.height {H : HF} {t : Tr} (h : TreeAt H t) : t.height ≤ t.items.length := by
  cases t with
  | none => exact Nat.zero_le _
  | some x => exact Nd.items_gt (NodeAt.ok h.at_)
theorem TreeAt.nil {H : HF} : TreeAt H none := ⟨trivial, rfl⟩
/-- What a change makes of entries. -/
def putL (l : List Ent) (e : Ent) : List Ent := if entOk e then withL l e else l
theorem putL_len (l : List Ent) (e : Ent) : (putL l e).length ≤ l.length + 1 := by
  unfold putL
  split
  · exact withL_length_le _ _
  · omega
theorem rise_putL {l : List Ent} (e : Ent) (h : riseB l = true) : riseB (putL l e) = true := by
  unfold putL
  split
  · exact rise_withL _ h
  · exact h
theorem put_tree {H H' : HF} {t t' : Tr} {e : Ent} (ht : TreeAt H t) (hat : Tr.At H' t') (hp : Putted H t e t') : TreeAt H' t' := ⟨hat, hp.full ht.full⟩
theorem entOk_not {e : Ent} (h : rKey e.key ≠ 0 ∨ rValue e.val ≠ 0) : entOk e = false := by
  rcases h with h | h <;> simp [entOk, h]
/-- Put, in one: the error's number, the tree. -/
def putE (e : Ent) : Nat := if rKey e.key ≠ 0 then rKey e.key else rValue e.val
theorem putE_ok {e : Ent} : putE e = 0 ↔ entOk e = true := by
  unfold putE entOk
  by_cases h : rKey e.key = 0 <;> simp [h]
theorem tPut_c {H : HF} {t : Tr} (e : Ent) (ht : TreeAt H t) (hb : t.items.length ≤ 800000) :
    Fn Try.prog 44 [t.val, .agg #[.string e.key, .string e.val]] H fun v H' => ∃ t', v = .tuple #[Tr.val t', .int .i64 (putE e : Nat)] ∧
      (putE e ≠ 0 → t' = none) ∧ (putE e = 0 → TreeAt H' t' ∧ Putted H t e t') := by
  refine (put_t H t e ht.at_ (by have := ht.height; omega)).mono ?_
  rintro v H' _ (⟨h1, rfl⟩ | ⟨h1, h2, rfl⟩ | ⟨h1, t', rfl, h3, h4⟩)
  · exact ⟨none, by simp [putE, h1]; rfl, fun _ => rfl, fun h => absurd h (by simp [putE, h1])⟩
  · exact ⟨none, by simp [putE, h1]; rfl, fun _ => rfl, fun h => absurd h (by simp [putE, h1, h2])⟩
  · have h5 := putE_ok.2 h1
    exact ⟨t', by rw [h5]; rfl, fun h => absurd h5 h, fun _ => ⟨put_tree ht h3 h4, h4⟩⟩
theorem tDel_c {H : HF} {t : Tr} (key : ByteArray) (ht : TreeAt H t) (hb : t.items.length ≤ 800000) :
    Fn Try.prog 43 [t.val, .string key] H fun v H' => ∃ t', v = .tuple #[Tr.val t', .bool (lookB t.items key)] ∧ TreeAt H' t' ∧ Deled t key t' ∧ (lookB t.items key = false → t' = t) := by
  refine (del_t H t key ht.at_ ht.full (by have := ht.height; omega)).mono ?_
  rintro v H' _ ⟨t', h1, h2, h3, h4⟩
  exact ⟨t', h1, ⟨h2, h3.full⟩, h3, h4⟩
theorem tGet_c {H : HF} {t : Tr} (key : ByteArray) (ht : TreeAt H t) (hb : t.items.length ≤ 800000) :
    Fn Try.prog 56 [t.val, .string key] H fun v _ => v = .tuple #[.string (lookV t.items key), .bool (lookB t.items key)] :=
  get_t ht.at_ key (by have := ht.height; omega)
theorem rGet_c (H : HF) (A : Option Addr) (c : Nat) (l : List Ent) (key : ByteArray) (hl : EntsAt H A l) (hr : riseB l = true) (hb : l.length ≤ 1000000) :
    Fn Try.prog 25 [.slice A l.length c, .string key] H fun v _ => v = .tuple #[.string (lookV l key), .bool (lookB l key)] := by
  refine Fn_of_CW Try.func25 rfl Try.ntmps25 Try.results25 rfl fun w hS => ?_; have hG := Grow.refl hS; have hS0 := hS
  (refine CW_seq ?_; refine CW_region rfl ?_; refine S_op ?_; refine W_assignStr (by first | rfl | assumption) ?_; refine S_op ?_; refine W_assignBool (by first | rfl | assumption) ?_; refine S_nil ?_; refine CW_seq ?_; refine CW_region rfl ?_; refine S_op ?_; refine W_moveSl (by first | rfl | assumption) ?_; refine S_op ?_; refine W_moveStr (by first | rfl | assumption) ?_)
  (refine S_op ?_; refine W_call hS (by rfl) (rFind_c H A c l key hl hb) ?_); rintro v H w hG' rfl; replace hG := hG.trans hG'; replace hS := hG'.sub; replace hl := hl.mono hG'.le; clear hG'
  rw [rFind_eq hr]
  cases hf : findIs l key with
  | false =>
    (refine S_op ?_; refine W_moveTup (by first | rfl | assumption) ?_; refine S_op ?_; refine W_extract (by first | rfl | assumption) (by rfl) ?_; refine S_op ?_; refine W_extract (by first | rfl | assumption) (by rfl) ?_; refine S_op ?_; refine W_assignInt (by first | rfl | assumption) ?_; refine S_op ?_; refine W_assignBool (by first | rfl | assumption) ?_; refine S_nil ?_; refine CW_seq ?_; refine CW_seq ?_; refine CW_region rfl ?_; refine S_op ?_; refine W_moveBool (by first | rfl | assumption) ?_; refine S_op ?_; refine W_not (by first | rfl | assumption) ?_; refine S_nil ?_; refine CW_true (by first | rfl | assumption) ?_; refine CW_seq ?_; refine CW_region rfl ?_; refine S_op ?_; refine W_assignStr (by first | rfl | assumption) ?_; refine S_op ?_; refine W_assignBool (by first | rfl | assumption) ?_; refine S_nil ?_; refine CW_ret ?_)
    exact ⟨_, ResW_two (v1 := .string _) (v2 := .bool _) rfl rfl, H, hG, by rw [(lookV_no hf).1, (lookV_no hf).2]⟩
  | true =>
    have hq := findIs_lt hf
    obtain ⟨bb, off, hA, hrow⟩ := hl.some hq
    (refine S_op ?_; refine W_moveTup (by first | rfl | assumption) ?_; refine S_op ?_; refine W_extract (by first | rfl | assumption) (by rfl) ?_; refine S_op ?_; refine W_extract (by first | rfl | assumption) (by rfl) ?_; refine S_op ?_; refine W_assignInt (by first | rfl | assumption) ?_; refine S_op ?_; refine W_assignBool (by first | rfl | assumption) ?_; refine S_nil ?_; refine CW_seq ?_; refine CW_seq ?_; refine CW_region rfl ?_; refine S_op ?_; refine W_moveBool (by first | rfl | assumption) ?_; refine S_op ?_; refine W_not (by first | rfl | assumption) ?_; refine S_nil ?_; refine CW_false (by first | rfl | assumption) ?_; refine CW_skip ?_; refine CW_seq ?_; refine CW_region rfl ?_; refine S_op ?_; refine W_moveSl (by first | rfl | assumption) ?_; refine S_op ?_; refine W_moveInt (by first | rfl | assumption) ?_; refine S_op ?_; refine W_index (by first | rfl | assumption) (by first | rfl | assumption) (by first | assumption | omega | decide) (by first | rfl | assumption) ?_; refine S_op ?_; refine W_field (by first | rfl | assumption) ?_; refine S_op ?_; refine W_loadVal (by first | rfl | assumption) (by assumption) (by first | assumption | omega) (by assumption) ?_; refine S_op ?_; refine W_assignStr (by first | rfl | assumption) ?_; refine S_op ?_; refine W_assignBool (by first | rfl | assumption) ?_; refine S_nil ?_; refine CW_ret ?_)
    exact ⟨_, ResW_two (v1 := .string _) (v2 := .bool _) rfl rfl, H, hG, by rw [(lookV_yes hf).1, (lookV_yes hf).2]⟩
end Go.Proofs.Ytgaabmoknpifnaa
/- Layer 11's awake and built. Conditions: sizes. -/
namespace Go.Proofs.Ytgaabmoknpifnaa
open Go.Proofs Go.RowKit
set_option linter.unusedVariables false
attribute [local irreducible] CW CWD SeqW OpW CallV
set_option maxHeartbeats 4000000
theorem keysL_get {l : List Ent} {q : Nat} (h : q < l.length) : (keysL l)[q]? = some (.string (ent l q).key) := by
  simp [keysL, ent, h]
theorem W_loadOl {P : Program} {r : Option Nat} {f : Fr} {H : HF} {w : World} {K : Value → World → Prop} {d : Option Nat} {ty : TypeId} {pos : String} {af : Array Edge} {g : Option (Nat × Bool)} {T : TypeId} {x : Operand} [TyOne P T] {b o q : Nat} {l : List Ent}
    (hx : ev f x = .pointer (some ⟨b, o + q * 1, none⟩)) (hb : Row H b o (keysL l)) (hq : q < l.length) (hS : Sub H w) (hk : K (.string (ent l q).key) w) :
    OpW P r ⟨d, .load T x, ty, pos, af, g⟩ f w K := W_loadRow (j := q * 1) hx hb (by rw [Nat.mul_one]; exact keysL_get hq) hS hk
theorem keys_some {H : HF} {A : Option Addr} {l : List Ent} (h : SlAt H A (keysL l)) {q : Nat} (hq : q < l.length) : ∃ b off, A = some ⟨b, off, none⟩ ∧ Row H b off (keysL l) := by
  rcases h with h | h
  · have := congrArg List.length h; rw [keysL_len] at this; have : l.length = 0 := this; omega
  · exact h
theorem EntsAt.take {H : HF} {A : Option Addr} {l : List Ent} (h : EntsAt H A l) (k : Nat) : EntsAt H A (l.take k) := by
  unfold EntsAt at h ⊢
  rw [← entCells_take]
  exact SlAt.take h _
theorem awake11_c (H : HF) : Fn Try.prog 14 [] H fun v _ => v = .bool true := by
  refine Fn_of_CW Try.func14 rfl Try.ntmps14 Try.results14 rfl fun w hS => ?_; have hG := Grow.refl hS; have hS0 := hS
  (refine CW_seq ?_; refine CW_region rfl ?_; refine S_op ?_; refine W_assignBool (by first | rfl | assumption) ?_; refine S_nil ?_; refine CW_seq ?_; refine CW_region rfl ?_; refine S_op ?_; refine W_build (by rfl) ?_)
  have e0 : putE ⟨⟨#[97]⟩, ⟨#[118]⟩⟩ = 0 := by decide
  (refine S_op ?_; refine W_call hS (by rfl) (tPut_c (t := none) ⟨⟨#[97]⟩, ⟨#[118]⟩⟩ (TreeAt.nil (H := H)) (by simp [Tr.items])) ?_); rintro v H w hG' ⟨t, rfl, _, ht⟩; replace hG := hG.trans hG'; replace hS := hG'.sub; clear hG'
  obtain ⟨ht, hp⟩ := ht e0
  have hit : t.items = [⟨⟨#[97]⟩, ⟨#[118]⟩⟩] := hp.items
  rw [e0]
  (refine S_op ?_; refine W_moveTup (by first | rfl | assumption) ?_; refine S_op ?_; refine W_extract (by first | rfl | assumption) (by rfl) ?_; refine S_op ?_; refine W_extract (by first | rfl | assumption) (by rfl) ?_; refine S_op ?_; refine W_assignPtr (by first | rfl | assumption) ?_; refine S_op ?_; refine W_assignInt (by first | rfl | assumption) ?_; refine S_nil ?_; refine CW_seq ?_; refine CW_region rfl ?_; refine S_op ?_; refine W_movePtr (by first | rfl | assumption) ?_)
  have c1 := take_c H t ⟨#[]⟩ 5 ht.at_ (by rw [hit]; simp)
  have e1 : (fromL ⟨#[]⟩ t.items).take (5 : Int).toNat = [⟨⟨#[97]⟩, ⟨#[118]⟩⟩] := by rw [hit]; simp [fromL, slt_nil]
  rw [e1] at c1
  (refine S_op ?_; refine W_call hS (by rfl) (c1) ?_); rintro v H w hG' hv; replace hG := hG.trans hG'; replace hS := hG'.sub; replace ht := ht.mono hG'.le; clear hG'
  clear c1
  obtain ⟨A, c, rfl, hc, hsl, _⟩ := hv
  obtain ⟨b, off, rfl, hrow⟩ : ∃ b off, A = some ⟨b, off, none⟩ ∧ Row H b off [.string ⟨#[97]⟩] := by
    rcases hsl with h | h
    · cases h
    · exact h
  (refine S_op ?_; refine W_assignSl (by first | rfl | assumption) ?_; refine S_nil ?_; refine CW_seq ?_; refine CW_region rfl ?_; refine S_op ?_; refine W_moveInt (by first | rfl | assumption) ?_; refine S_op ?_; refine W_eqlT (by first | rfl | assumption) (by first | rfl | assumption) (by first | omega | rfl) ?_; refine S_op ?_; refine W_moveBool (by first | rfl | assumption) ?_; refine S_want (by rfl) ?_; refine W_moveSl (by first | rfl | assumption) ?_; refine S_want (by rfl) ?_; refine W_len (by first | rfl | assumption) ?_; refine S_want (by rfl) ?_; refine W_eqlT (by first | rfl | assumption) (by first | rfl | assumption) (by first | omega | rfl) ?_; refine S_op ?_; refine W_pickT (by first | rfl | assumption) (by first | rfl | assumption) ?_; refine S_op ?_; refine W_moveBool (by first | rfl | assumption) ?_; refine S_want (by rfl) ?_; refine W_moveSl (by first | rfl | assumption) ?_; refine S_want (by rfl) ?_; refine W_index (by first | rfl | assumption) (by first | rfl | assumption) (by first | assumption | omega | decide) (by first | rfl | assumption) ?_)
  refine S_want (by rfl) ?_
  refine W_loadRow (j := 0) (v := .string ⟨#[97]⟩) (by rfl) hrow (by rfl) hS ?_
  (refine S_want (by rfl) ?_; refine W_seqlT (by first | rfl | assumption) (by first | rfl | assumption) (by first | assumption | rfl) ?_; refine S_op ?_; refine W_pickT (by first | rfl | assumption) (by first | rfl | assumption) ?_; refine S_op ?_; refine W_moveBool (by first | rfl | assumption) ?_; refine S_want (by rfl) ?_; refine W_movePtr (by first | rfl | assumption) ?_)
  have c2 := count_c H t ⟨#[97]⟩ ⟨#[98]⟩ ht.at_ (by rw [hit]; simp)
  have e2 : aheadOf ⟨#[98]⟩ (fromL ⟨#[97]⟩ t.items) = 1 := by
    have h1 : slt ⟨#[97]⟩ ⟨#[97]⟩ = false := slt_irrefl _
    have h2 : slt ⟨#[97]⟩ ⟨#[98]⟩ = true := by simp [slt, ba_toList]; decide
    rw [hit]
    simp [fromL, aheadOf, h1, h2]
  rw [e2] at c2
  (refine S_want (by rfl) ?_; refine W_call hS (by rfl) (c2) ?_); rintro v H w hG' rfl; replace hG := hG.trans hG'; replace hS := hG'.sub; replace ht := ht.mono hG'.le; clear hG'
  (refine S_want (by rfl) ?_; refine W_eqlT (by first | rfl | assumption) (by first | rfl | assumption) (by first | omega | rfl) ?_; refine S_op ?_; refine W_pickT (by first | rfl | assumption) (by first | rfl | assumption) ?_; refine S_op ?_; refine W_assignBool (by first | rfl | assumption) ?_; refine S_nil ?_; refine CW_ret ?_)
  exact ⟨_, ResW_one (v := .bool _) rfl, H, hG, rfl⟩
theorem built11_c (H0 : HF) (A : Option Addr) (c : Nat) (l : List Ent) (hl : EntsAt H0 A l) (hb : l.length ≤ 100000000000000) (hs : ∀ e ∈ l, e.key.size ≤ 150000000000000 ∧ e.val.size ≤ 150000000000000) :
    Fn Try.prog 15 [.slice A l.length c] H0 fun v H' => ∃ (t : Tr) (s : Value) (z : Bool), v = .tuple #[t.val, s, .bool z] ∧ (z = true → TreeAt H' t ∧ IsEnts s t.items H' ∧ t.items.length ≤ 150) ∧ (z = false → t = none ∧ s = .slice none 0 0) := by
  refine Fn_of_CW Try.func15 rfl Try.ntmps15 Try.results15 rfl fun w0 hS => ?_; have hG := Grow.refl hS
  by_cases h150 : 150 < l.length
  · (refine CW_seq ?_; refine CW_region rfl ?_; refine S_op ?_; refine W_assignPtr (by first | rfl | assumption) ?_; refine S_op ?_; refine W_assignSl (by first | rfl | assumption) ?_; refine S_op ?_; refine W_assignBool (by first | rfl | assumption) ?_; refine S_nil ?_; refine CW_seq ?_; refine CW_seq ?_; refine CW_region rfl ?_; refine S_op ?_; refine W_moveSl (by first | rfl | assumption) ?_; refine S_op ?_; refine W_len (by first | rfl | assumption) ?_; refine S_op ?_; refine W_gtrT (by first | rfl | assumption) (by first | rfl | assumption) (by first | omega | rfl) ?_; refine S_nil ?_; refine CW_true (by first | rfl | assumption) ?_; refine CW_seq ?_; refine CW_region rfl ?_; refine S_op ?_; refine W_assignPtr (by first | rfl | assumption) ?_; refine S_op ?_; refine W_assignSl (by first | rfl | assumption) ?_; refine S_op ?_; refine W_assignBool (by first | rfl | assumption) ?_; refine S_nil ?_; refine CW_ret ?_)
    exact ⟨_, ResW_three (v1 := .pointer _) (v2 := .slice _ _ _) (v3 := .bool _) rfl rfl rfl, H0, hG, none, _, false, rfl, (fun h => by cases h), fun _ => ⟨rfl, rfl⟩⟩
  · (refine CW_seq ?_; refine CW_region rfl ?_; refine S_op ?_; refine W_assignPtr (by first | rfl | assumption) ?_; refine S_op ?_; refine W_assignSl (by first | rfl | assumption) ?_; refine S_op ?_; refine W_assignBool (by first | rfl | assumption) ?_; refine S_nil ?_; refine CW_seq ?_; refine CW_seq ?_; refine CW_region rfl ?_; refine S_op ?_; refine W_moveSl (by first | rfl | assumption) ?_; refine S_op ?_; refine W_len (by first | rfl | assumption) ?_; refine S_op ?_; refine W_gtrF (by first | rfl | assumption) (by first | rfl | assumption) (by first | omega | rfl) ?_; refine S_nil ?_; refine CW_false (by first | rfl | assumption) ?_; refine CW_skip ?_; refine CW_seq ?_; refine CW_region rfl ?_; refine S_op ?_; refine W_assignPtr (by first | rfl | assumption) ?_; refine S_nil ?_; refine CW_seq ?_; refine CW_region rfl ?_; refine S_op ?_; refine W_assignSl (by first | rfl | assumption) ?_; refine S_nil ?_; refine CW_seq ?_; refine CW_seq ?_; refine CW_region rfl ?_; refine S_op ?_; refine W_moveSl (by first | rfl | assumption) ?_; refine S_op ?_; refine W_len (by first | rfl | assumption) ?_; refine S_op ?_; refine W_moveInt (by first | rfl | assumption) ?_; refine S_nil ?_; refine CW_block ?_)
    refine CW_loopM [2, 3, 4, 5, 6, 7, 8, 9, 15, 16, 17, 18, 19, 20, 21, 22, 23, 24, 25, 26, 27, 28, 29, 30, 31, 32, 33, 34, 35, 36, 37, 38, 39, 40, 41, 42, 43, 44, 45, 46, 47, 48, 49, 50]
      (fun m u w2 => ∃ (i : Nat) (t : Tr) (A2 : Option Addr) (c2 : Nat) (H2 : HF), u 15 = .int .i64 (i : Int) ∧ u 5 = t.val ∧ u 6 = .slice A2 t.items.length c2 ∧ Grow H0 w0 H2 w2 ∧ TreeAt H2 t ∧ EntsAt H2 A2 t.items ∧ t.items.length ≤ c2 ∧ i ≤ l.length ∧ l.length - i ≤ m ∧ t.items.length ≤ i)
      (m := l.length) ⟨0, none, none, 0, H0, rfl, rfl, rfl, hG, TreeAt.nil, .inl rfl, Nat.le_refl _, by omega, by omega, Nat.le_refl _⟩ ?_
    rintro m u w ⟨i, t, A2, c2, H, h15, h5, h6, hG, ht, hl2, hc2, hi, hm, hti⟩
    have hS := hG.sub
    replace hl := hl.mono hG.le
    by_cases hlt : i < l.length
    · obtain ⟨b, off, hA, hrow⟩ := hl.some hlt
      have hsz := hs (ent l i) (ent_mem' hlt)
      have hG9 := hG
      by_cases hbig : 2000 < (ent l i).key.size + (ent l i).val.size
      · (refine CW_seq ?_; refine CW_region rfl ?_; refine S_op ?_; refine W_lssT (by first | rfl | assumption) (by first | rfl | assumption) (by first | omega | rfl) ?_; refine S_nil ?_; refine CW_seq ?_; refine CW_true (by first | rfl | assumption) ?_; refine CW_skip ?_; refine CW_seq ?_; refine CW_block ?_; refine CW_seq ?_; refine CW_region rfl ?_; refine S_op ?_; refine W_moveInt (by first | rfl | assumption) ?_; refine S_op ?_; refine W_assignInt (by first | rfl | assumption) ?_; refine S_nil ?_; refine CW_seq ?_; refine CW_seq ?_)
        apply CW_region_grow [_, _, _, _, _, _, _, _, _, _, _, _, _, _] [none, none, none, none, none, none, none, none, none, none, none, none, none, none] [some 18, some 19, some 20, some 21, some 22, some 23, some 24, some 25, some 26, some 27, some 28, some 29, some 30, some 31] [18, 19, 20, 21, 22, 23, 24, 25, 26, 27, 28, 29, 30, 31] mixed rfl rfl rfl rfl (by decide) rfl (by assumption)
        · ((apply steps_cons; case h1 => (apply A_pure; intro c u H' w' hG; have hS' := hG.sub; have hS2' := hG.subOld; (repeat (first | refine depGo_eq rfl rfl rfl ?_ | (refine depGo_fact rfl rfl rfl ?_; intro v hv) | refine depGo_skip rfl ?_ | refine depGo_none rfl ?_)); apply Pure1.mk; intro K hk; exact W_moveSl (by first | rfl | assumption) hk)); (apply steps_cons; case h1 => (apply A_pure; intro c u H' w' hG; have hS' := hG.sub; have hS2' := hG.subOld; (repeat (first | refine depGo_eq rfl rfl rfl ?_ | (refine depGo_fact rfl rfl rfl ?_; intro v hv) | refine depGo_skip rfl ?_ | refine depGo_none rfl ?_)); apply Pure1.mk; intro K hk; exact W_moveInt (by first | rfl | assumption) hk)); (apply steps_cons; case h1 => (apply A_pure; intro c u H' w' hG; have hS' := hG.sub; have hS2' := hG.subOld; (repeat (first | refine depGo_eq rfl rfl rfl ?_ | (refine depGo_fact rfl rfl rfl ?_; intro v hv) | refine depGo_skip rfl ?_ | refine depGo_none rfl ?_)); apply Pure1.mk; intro K hk; exact W_index (by first | rfl | assumption) (by first | rfl | assumption) (by first | assumption | omega | decide) (by first | rfl | assumption) hk)); (apply steps_cons; case h1 => (apply A_pure; intro c u H' w' hG; have hS' := hG.sub; have hS2' := hG.subOld; (repeat (first | refine depGo_eq rfl rfl rfl ?_ | (refine depGo_fact rfl rfl rfl ?_; intro v hv) | refine depGo_skip rfl ?_ | refine depGo_none rfl ?_)); apply Pure1.mk; intro K hk; exact W_field (by first | rfl | assumption) hk)); (apply steps_cons; case h1 => (apply A_pure; intro c u H' w' hG; have hS' := hG.sub; have hS2' := hG.subOld; (repeat (first | refine depGo_eq rfl rfl rfl ?_ | (refine depGo_fact rfl rfl rfl ?_; intro v hv) | refine depGo_skip rfl ?_ | refine depGo_none rfl ?_)); apply Pure1.mk; intro K hk; exact W_loadKey (by first | rfl | assumption) (by assumption) (by first | assumption | omega) (by assumption) hk)); (apply steps_cons; case h1 => (apply A_pure; intro c u H' w' hG; have hS' := hG.sub; have hS2' := hG.subOld; (repeat (first | refine depGo_eq rfl rfl rfl ?_ | (refine depGo_fact rfl rfl rfl ?_; intro v hv) | refine depGo_skip rfl ?_ | refine depGo_none rfl ?_)); apply Pure1.mk; intro K hk; exact W_lenS (by first | rfl | assumption) hk)); (apply steps_cons; case h1 => (apply A_pure; intro c u H' w' hG; have hS' := hG.sub; have hS2' := hG.subOld; (repeat (first | refine depGo_eq rfl rfl rfl ?_ | (refine depGo_fact rfl rfl rfl ?_; intro v hv) | refine depGo_skip rfl ?_ | refine depGo_none rfl ?_)); apply Pure1.mk; intro K hk; exact W_moveSl (by first | rfl | assumption) hk)); (apply steps_cons; case h1 => (apply A_pure; intro c u H' w' hG; have hS' := hG.sub; have hS2' := hG.subOld; (repeat (first | refine depGo_eq rfl rfl rfl ?_ | (refine depGo_fact rfl rfl rfl ?_; intro v hv) | refine depGo_skip rfl ?_ | refine depGo_none rfl ?_)); apply Pure1.mk; intro K hk; exact W_moveInt (by first | rfl | assumption) hk)); (apply steps_cons; case h1 => (apply A_pure; intro c u H' w' hG; have hS' := hG.sub; have hS2' := hG.subOld; (repeat (first | refine depGo_eq rfl rfl rfl ?_ | (refine depGo_fact rfl rfl rfl ?_; intro v hv) | refine depGo_skip rfl ?_ | refine depGo_none rfl ?_)); apply Pure1.mk; intro K hk; exact W_index (by first | rfl | assumption) (by first | rfl | assumption) (by first | assumption | omega | decide) (by first | rfl | assumption) hk)); (apply steps_cons; case h1 => (apply A_pure; intro c u H' w' hG; have hS' := hG.sub; have hS2' := hG.subOld; (repeat (first | refine depGo_eq rfl rfl rfl ?_ | (refine depGo_fact rfl rfl rfl ?_; intro v hv) | refine depGo_skip rfl ?_ | refine depGo_none rfl ?_)); apply Pure1.mk; intro K hk; exact W_field (by first | rfl | assumption) hk)); (apply steps_cons; case h1 => (apply A_pure; intro c u H' w' hG; have hS' := hG.sub; have hS2' := hG.subOld; (repeat (first | refine depGo_eq rfl rfl rfl ?_ | (refine depGo_fact rfl rfl rfl ?_; intro v hv) | refine depGo_skip rfl ?_ | refine depGo_none rfl ?_)); apply Pure1.mk; intro K hk; exact W_loadVal (by first | rfl | assumption) (by assumption) (by first | assumption | omega) (by assumption) hk)); (apply steps_cons; case h1 => (apply A_pure; intro c u H' w' hG; have hS' := hG.sub; have hS2' := hG.subOld; (repeat (first | refine depGo_eq rfl rfl rfl ?_ | (refine depGo_fact rfl rfl rfl ?_; intro v hv) | refine depGo_skip rfl ?_ | refine depGo_none rfl ?_)); apply Pure1.mk; intro K hk; exact W_lenS (by first | rfl | assumption) hk)); (apply steps_cons; case h1 => (apply A_pure; intro c u H' w' hG; have hS' := hG.sub; have hS2' := hG.subOld; (repeat (first | refine depGo_eq rfl rfl rfl ?_ | (refine depGo_fact rfl rfl rfl ?_; intro v hv) | refine depGo_skip rfl ?_ | refine depGo_none rfl ?_)); apply Pure1.mk; intro K hk; exact W_addN (by first | rfl | assumption) (by first | rfl | assumption) (by omega) hk)); (apply steps_cons; case h1 => (apply A_pure; intro c u H' w' hG; have hS' := hG.sub; have hS2' := hG.subOld; (repeat (first | refine depGo_eq rfl rfl rfl ?_ | (refine depGo_fact rfl rfl rfl ?_; intro v hv) | refine depGo_skip rfl ?_ | refine depGo_none rfl ?_)); apply Pure1.mk; intro K hk; exact W_gtrT (by first | rfl | assumption) (by first | rfl | assumption) (by first | omega | rfl) hk)); exact trivial)
        · (intro H' w' hG; (repeat (first | refine fin_eq rfl rfl ?_ | (refine fin_fact rfl ?_; intro v hv) | refine fin_none rfl ?_)); refine fin_nil ?_)
          (refine CW_true (by first | rfl | assumption) ?_; refine CW_seq ?_; refine CW_region rfl ?_; refine S_op ?_; refine W_assignPtr (by first | rfl | assumption) ?_; refine S_op ?_; refine W_assignSl (by first | rfl | assumption) ?_; refine S_op ?_; refine W_assignBool (by first | rfl | assumption) ?_; refine S_nil ?_; refine CW_ret ?_)
          exact ⟨_, ResW_three (v1 := .pointer _) (v2 := .slice _ _ _) (v3 := .bool _) rfl rfl rfl, _, hG9.trans hG, none, _, false, rfl, (fun h => by cases h), fun _ => ⟨rfl, rfl⟩⟩
      · (refine CW_seq ?_; refine CW_region rfl ?_; refine S_op ?_; refine W_lssT (by first | rfl | assumption) (by first | rfl | assumption) (by first | omega | rfl) ?_; refine S_nil ?_; refine CW_seq ?_; refine CW_true (by first | rfl | assumption) ?_; refine CW_skip ?_; refine CW_seq ?_; refine CW_block ?_; refine CW_seq ?_; refine CW_region rfl ?_; refine S_op ?_; refine W_moveInt (by first | rfl | assumption) ?_; refine S_op ?_; refine W_assignInt (by first | rfl | assumption) ?_; refine S_nil ?_; refine CW_seq ?_; refine CW_seq ?_)
        apply CW_region_grow [_, _, _, _, _, _, _, _, _, _, _, _, _, _] [none, none, none, none, none, none, none, none, none, none, none, none, none, none] [some 18, some 19, some 20, some 21, some 22, some 23, some 24, some 25, some 26, some 27, some 28, some 29, some 30, some 31] [18, 19, 20, 21, 22, 23, 24, 25, 26, 27, 28, 29, 30, 31] mixed rfl rfl rfl rfl (by decide) rfl (by assumption)
        · ((apply steps_cons; case h1 => (apply A_pure; intro c u H' w' hG; have hS' := hG.sub; have hS2' := hG.subOld; (repeat (first | refine depGo_eq rfl rfl rfl ?_ | (refine depGo_fact rfl rfl rfl ?_; intro v hv) | refine depGo_skip rfl ?_ | refine depGo_none rfl ?_)); apply Pure1.mk; intro K hk; exact W_moveSl (by first | rfl | assumption) hk)); (apply steps_cons; case h1 => (apply A_pure; intro c u H' w' hG; have hS' := hG.sub; have hS2' := hG.subOld; (repeat (first | refine depGo_eq rfl rfl rfl ?_ | (refine depGo_fact rfl rfl rfl ?_; intro v hv) | refine depGo_skip rfl ?_ | refine depGo_none rfl ?_)); apply Pure1.mk; intro K hk; exact W_moveInt (by first | rfl | assumption) hk)); (apply steps_cons; case h1 => (apply A_pure; intro c u H' w' hG; have hS' := hG.sub; have hS2' := hG.subOld; (repeat (first | refine depGo_eq rfl rfl rfl ?_ | (refine depGo_fact rfl rfl rfl ?_; intro v hv) | refine depGo_skip rfl ?_ | refine depGo_none rfl ?_)); apply Pure1.mk; intro K hk; exact W_index (by first | rfl | assumption) (by first | rfl | assumption) (by first | assumption | omega | decide) (by first | rfl | assumption) hk)); (apply steps_cons; case h1 => (apply A_pure; intro c u H' w' hG; have hS' := hG.sub; have hS2' := hG.subOld; (repeat (first | refine depGo_eq rfl rfl rfl ?_ | (refine depGo_fact rfl rfl rfl ?_; intro v hv) | refine depGo_skip rfl ?_ | refine depGo_none rfl ?_)); apply Pure1.mk; intro K hk; exact W_field (by first | rfl | assumption) hk)); (apply steps_cons; case h1 => (apply A_pure; intro c u H' w' hG; have hS' := hG.sub; have hS2' := hG.subOld; (repeat (first | refine depGo_eq rfl rfl rfl ?_ | (refine depGo_fact rfl rfl rfl ?_; intro v hv) | refine depGo_skip rfl ?_ | refine depGo_none rfl ?_)); apply Pure1.mk; intro K hk; exact W_loadKey (by first | rfl | assumption) (by assumption) (by first | assumption | omega) (by assumption) hk)); (apply steps_cons; case h1 => (apply A_pure; intro c u H' w' hG; have hS' := hG.sub; have hS2' := hG.subOld; (repeat (first | refine depGo_eq rfl rfl rfl ?_ | (refine depGo_fact rfl rfl rfl ?_; intro v hv) | refine depGo_skip rfl ?_ | refine depGo_none rfl ?_)); apply Pure1.mk; intro K hk; exact W_lenS (by first | rfl | assumption) hk)); (apply steps_cons; case h1 => (apply A_pure; intro c u H' w' hG; have hS' := hG.sub; have hS2' := hG.subOld; (repeat (first | refine depGo_eq rfl rfl rfl ?_ | (refine depGo_fact rfl rfl rfl ?_; intro v hv) | refine depGo_skip rfl ?_ | refine depGo_none rfl ?_)); apply Pure1.mk; intro K hk; exact W_moveSl (by first | rfl | assumption) hk)); (apply steps_cons; case h1 => (apply A_pure; intro c u H' w' hG; have hS' := hG.sub; have hS2' := hG.subOld; (repeat (first | refine depGo_eq rfl rfl rfl ?_ | (refine depGo_fact rfl rfl rfl ?_; intro v hv) | refine depGo_skip rfl ?_ | refine depGo_none rfl ?_)); apply Pure1.mk; intro K hk; exact W_moveInt (by first | rfl | assumption) hk)); (apply steps_cons; case h1 => (apply A_pure; intro c u H' w' hG; have hS' := hG.sub; have hS2' := hG.subOld; (repeat (first | refine depGo_eq rfl rfl rfl ?_ | (refine depGo_fact rfl rfl rfl ?_; intro v hv) | refine depGo_skip rfl ?_ | refine depGo_none rfl ?_)); apply Pure1.mk; intro K hk; exact W_index (by first | rfl | assumption) (by first | rfl | assumption) (by first | assumption | omega | decide) (by first | rfl | assumption) hk)); (apply steps_cons; case h1 => (apply A_pure; intro c u H' w' hG; have hS' := hG.sub; have hS2' := hG.subOld; (repeat (first | refine depGo_eq rfl rfl rfl ?_ | (refine depGo_fact rfl rfl rfl ?_; intro v hv) | refine depGo_skip rfl ?_ | refine depGo_none rfl ?_)); apply Pure1.mk; intro K hk; exact W_field (by first | rfl | assumption) hk)); (apply steps_cons; case h1 => (apply A_pure; intro c u H' w' hG; have hS' := hG.sub; have hS2' := hG.subOld; (repeat (first | refine depGo_eq rfl rfl rfl ?_ | (refine depGo_fact rfl rfl rfl ?_; intro v hv) | refine depGo_skip rfl ?_ | refine depGo_none rfl ?_)); apply Pure1.mk; intro K hk; exact W_loadVal (by first | rfl | assumption) (by assumption) (by first | assumption | omega) (by assumption) hk)); (apply steps_cons; case h1 => (apply A_pure; intro c u H' w' hG; have hS' := hG.sub; have hS2' := hG.subOld; (repeat (first | refine depGo_eq rfl rfl rfl ?_ | (refine depGo_fact rfl rfl rfl ?_; intro v hv) | refine depGo_skip rfl ?_ | refine depGo_none rfl ?_)); apply Pure1.mk; intro K hk; exact W_lenS (by first | rfl | assumption) hk)); (apply steps_cons; case h1 => (apply A_pure; intro c u H' w' hG; have hS' := hG.sub; have hS2' := hG.subOld; (repeat (first | refine depGo_eq rfl rfl rfl ?_ | (refine depGo_fact rfl rfl rfl ?_; intro v hv) | refine depGo_skip rfl ?_ | refine depGo_none rfl ?_)); apply Pure1.mk; intro K hk; exact W_addN (by first | rfl | assumption) (by first | rfl | assumption) (by omega) hk)); (apply steps_cons; case h1 => (apply A_pure; intro c u H' w' hG; have hS' := hG.sub; have hS2' := hG.subOld; (repeat (first | refine depGo_eq rfl rfl rfl ?_ | (refine depGo_fact rfl rfl rfl ?_; intro v hv) | refine depGo_skip rfl ?_ | refine depGo_none rfl ?_)); apply Pure1.mk; intro K hk; exact W_gtrF (by first | rfl | assumption) (by first | rfl | assumption) (by first | omega | rfl) hk)); exact trivial)
        · (intro H' w' hG; (repeat (first | refine fin_eq rfl rfl ?_ | (refine fin_fact rfl ?_; intro v hv) | refine fin_none rfl ?_)); refine fin_nil ?_)
          replace ht := ht.mono hG.le
          replace hl2 := hl2.mono hG.le
          replace hl := hl.mono hG.le
          replace hrow := hrow.mono hG.le
          replace hG := hG9.trans hG
          clear hG9
          replace hS := hG.sub
          rename_i H' w'
          obtain ⟨H, rfl⟩ : ∃ H, H = H' := ⟨_, rfl⟩
          obtain ⟨w, rfl⟩ : ∃ w, w = w' := ⟨_, rfl⟩
          (refine CW_false (by first | rfl | assumption) ?_; refine CW_skip ?_; refine CW_seq ?_; refine CW_region rfl ?_; refine S_op ?_; refine W_movePtr (by first | rfl | assumption) ?_; refine S_op ?_; refine W_moveSl (by first | rfl | assumption) ?_; refine S_op ?_; refine W_moveInt (by first | rfl | assumption) ?_; refine S_op ?_; refine W_index (by first | rfl | assumption) (by first | rfl | assumption) (by first | assumption | omega | decide) (by first | rfl | assumption) ?_; refine S_op ?_; refine W_loadEnt (by first | rfl | assumption) (by assumption) (by first | assumption | omega) (by assumption) ?_)
          (refine S_op ?_; refine W_call hS (by rfl) (tPut_c (ent l i) ht (by omega)) ?_); rintro v H w hG' ⟨t', rfl, hno, hp⟩; replace hG := hG.trans hG'; replace hS := hG'.sub; replace ht := ht.mono hG'.le; replace hl2 := hl2.mono hG'.le; replace hl := hl.mono hG'.le; clear hG'
          by_cases he : putE (ent l i) = 0
          · obtain ⟨ht', hp'⟩ := hp he
            obtain ⟨b, off, hA, hrow⟩ := hl.some hlt
            rw [he]
            (refine S_op ?_; refine W_moveTup (by first | rfl | assumption) ?_; refine S_op ?_; refine W_extract (by first | rfl | assumption) (by rfl) ?_; refine S_op ?_; refine W_extract (by first | rfl | assumption) (by rfl) ?_; refine S_op ?_; refine W_assignPtr (by first | rfl | assumption) ?_; refine S_op ?_; refine W_assignInt (by first | rfl | assumption) ?_; refine S_nil ?_; refine CW_seq ?_; refine CW_region rfl ?_; refine S_op ?_; refine W_moveInt (by first | rfl | assumption) ?_; refine S_op ?_; refine W_eqlT (by first | rfl | assumption) (by first | rfl | assumption) (by first | omega | rfl) ?_; refine S_nil ?_; refine CW_true (by first | rfl | assumption) ?_; refine CW_seq ?_; refine CW_region rfl ?_; refine S_op ?_; refine W_movePtr (by first | rfl | assumption) ?_; refine S_op ?_; refine W_assignPtr (by first | rfl | assumption) ?_; refine S_nil ?_; refine CW_region rfl ?_; refine S_op ?_; refine W_moveSl (by first | rfl | assumption) ?_; refine S_op ?_; refine W_moveSl (by first | rfl | assumption) ?_; refine S_op ?_; refine W_moveInt (by first | rfl | assumption) ?_; refine S_op ?_; refine W_index (by first | rfl | assumption) (by first | rfl | assumption) (by first | assumption | omega | decide) (by first | rfl | assumption) ?_; refine S_op ?_; refine W_loadEnt (by first | rfl | assumption) (by assumption) (by first | assumption | omega) (by assumption) ?_)
            (refine S_op ?_; refine W_call hS (by rfl) (rWith_c H A2 c2 t.items (ent l i) hl2 (by omega)) ?_); rintro v H w hG' hv; replace hG := hG.trans hG'; replace hS := hG'.sub; replace ht' := ht'.mono hG'.le; replace hl := hl.mono hG'.le; clear hG'
            rw [rWith_eq ht.rise, ← hp'.items] at hv
            obtain ⟨A3, c3, rfl, hc3, hl3⟩ := hv
            have hlen := withL_length_le t.items (ent l i)
            rw [← hp'.items] at hlen
            (refine S_op ?_; refine W_assignSl (by first | rfl | assumption) ?_; refine S_nil ?_; refine CW_region rfl ?_; refine S_op ?_; refine W_add1 (by first | rfl | assumption) (by omega) ?_; refine S_op ?_; refine W_moveInt (by first | rfl | assumption) ?_; refine S_nil ?_)
            exact ⟨(by repeat (first | exact AgreeOff.over | refine AgreeOff.upd rfl ?_ | refine AgreeOff.over2 rfl ?_)), m - 1, by omega, i + 1, t', A3, c3, H, rfl, rfl, rfl, hG, ht', hl3, hc3, by omega, by omega, by omega⟩
          · (refine S_op ?_; refine W_moveTup (by first | rfl | assumption) ?_; refine S_op ?_; refine W_extract (by first | rfl | assumption) (by rfl) ?_; refine S_op ?_; refine W_extract (by first | rfl | assumption) (by rfl) ?_; refine S_op ?_; refine W_assignPtr (by first | rfl | assumption) ?_; refine S_op ?_; refine W_assignInt (by first | rfl | assumption) ?_; refine S_nil ?_; refine CW_seq ?_; refine CW_region rfl ?_; refine S_op ?_; refine W_moveInt (by first | rfl | assumption) ?_; refine S_op ?_; refine W_eqlF (by first | rfl | assumption) (by first | rfl | assumption) (by first | omega | rfl) ?_; refine S_nil ?_; refine CW_false (by first | rfl | assumption) ?_; refine CW_skip ?_; refine CW_region rfl ?_; refine S_op ?_; refine W_add1 (by first | rfl | assumption) (by omega) ?_; refine S_op ?_; refine W_moveInt (by first | rfl | assumption) ?_; refine S_nil ?_)
            exact ⟨(by repeat (first | exact AgreeOff.over | refine AgreeOff.upd rfl ?_ | refine AgreeOff.over2 rfl ?_)), m - 1, by omega, i + 1, t, A2, c2, H, rfl, h5, h6, hG, ht, hl2, hc2, by omega, by omega, by omega⟩
    · have hin : i = l.length := by omega
      subst hin
      (refine CW_seq ?_; refine CW_region rfl ?_; refine S_op ?_; refine W_lssF (by first | rfl | assumption) (by first | rfl | assumption) (by first | omega | rfl) ?_; refine S_nil ?_; refine CW_seq ?_; refine CW_false (by first | rfl | assumption) ?_; refine CW_exit ?_; refine CW_seq ?_; refine CW_region rfl ?_; refine S_op ?_; refine W_movePtr (by first | rfl | assumption) ?_; refine S_op ?_; refine W_moveSl (by first | rfl | assumption) ?_; refine S_op ?_; refine W_assignPtr (by first | rfl | assumption) ?_; refine S_op ?_; refine W_assignSl (by first | rfl | assumption) ?_; refine S_op ?_; refine W_assignBool (by first | rfl | assumption) ?_; refine S_nil ?_; refine CW_ret ?_)
      exact ⟨_, ResW_three (v1 := t.val) (v2 := .slice _ _ _) (v3 := .bool _) rfl rfl rfl, H, hG, t, _, true, rfl, fun _ => ⟨ht, ⟨A2, c2, rfl, hc2, hl2⟩, by omega⟩, (fun h => by cases h)⟩
end Go.Proofs.Ytgaabmoknpifnaa
/- WalkCounts, walked. Conditions: sizes. -/
namespace Go.Proofs.Ytgaabmoknpifnaa
open Go.Proofs Go.RowKit
set_option linter.unusedVariables false
attribute [local irreducible] CW CWD SeqW OpW CallV
set_option maxHeartbeats 4000000
theorem rise_fromL {k : ByteArray} : ∀ {l : List Ent}, riseB l = true → riseB (fromL k l) = true
  | [], _ => rfl
  | a :: l, h => by
    obtain ⟨h1, h2⟩ := riseB_cons.1 h
    have ih := rise_fromL (k := k) h2
    unfold fromL at ih ⊢
    rw [List.filter_cons]
    split
    · exact riseB_cons.2 ⟨fun x hx => h1 x (List.mem_filter.1 hx).1, ih⟩
    · exact ih
theorem ahead_rise {k : ByteArray} : ∀ {l : List Ent}, riseB l = true → aheadOf k l = (l.filter fun e => slt e.key k).length
  | [], _ => rfl
  | a :: l, h => by
    obtain ⟨h1, h2⟩ := riseB_cons.1 h
    have ih := ahead_rise (k := k) h2
    unfold aheadOf at ih ⊢
    rw [List.takeWhile_cons, List.filter_cons]
    cases ha : slt a.key k with
    | true => simp only [if_true, List.length_cons, ih]
    | false =>
      have : l.filter (fun e => slt e.key k) = [] := by
        rw [List.filter_eq_nil_iff]
        intro x hx hs
        have := slt_trans (h1 x hx) hs
        rw [ha] at this; cases this
      simp [this]
theorem count_eq {k k2 : ByteArray} {l : List Ent} (h : riseB l = true) : aheadOf k2 (fromL k l) = countL k k2 l := by
  rw [ahead_rise (rise_fromL h), countL, fromL, List.filter_filter]
  congr 2
  funext e
  exact Bool.and_comm _ _
theorem walkCounts_c (H : HF) (A : Option Addr) (c : Nat) (l : List Ent) (k k2 : ByteArray) (n : Int) (hl : EntsAt H A l) (hb : l.length ≤ 100000000000000) (hs : ∀ e ∈ l, e.key.size ≤ 150000000000000 ∧ e.val.size ≤ 150000000000000) (hk : k.size ≤ 150000000000000) (hk2 : k2.size ≤ 150000000000000) :
    Fn Try.prog 3 [.slice A l.length c, .string k, .string k2, .int .i64 n] H fun v _ => v = .bool true := by
  refine Fn_of_CW Try.func3 rfl Try.ntmps3 Try.results3 rfl fun w hS => ?_; have hG := Grow.refl hS; have hS0 := hS
  (refine CW_seq ?_; refine CW_region rfl ?_; refine S_op ?_; refine W_assignBool (by first | rfl | assumption) ?_; refine S_nil ?_; refine CW_seq ?_; refine CW_seq ?_; refine CW_region rfl ?_)
  (refine S_op ?_; refine W_call hS (by rfl) (awake11_c H) ?_); rintro v H w hG' rfl; replace hG := hG.trans hG'; replace hS := hG'.sub; replace hl := hl.mono hG'.le; clear hG'
  (refine S_op ?_; refine W_not (by first | rfl | assumption) ?_; refine S_nil ?_; refine CW_false (by first | rfl | assumption) ?_; refine CW_skip ?_; refine CW_seq ?_; refine CW_region rfl ?_; refine S_op ?_; refine W_moveSl (by first | rfl | assumption) ?_)
  (refine S_op ?_; refine W_call hS (by rfl) (built11_c H A c l hl hb hs) ?_); rintro v H w hG' ⟨t, s, z, rfl, hz, hz0⟩; replace hG := hG.trans hG'; replace hS := hG'.sub; replace hl := hl.mono hG'.le; clear hG'
  cases z with
  | false =>
    obtain ⟨rfl, rfl⟩ := hz0 rfl
    (refine S_op ?_; refine W_moveTup (by first | rfl | assumption) ?_; refine S_op ?_; refine W_extract (by first | rfl | assumption) (by rfl) ?_; refine S_op ?_; refine W_extract (by first | rfl | assumption) (by rfl) ?_; refine S_op ?_; refine W_extract (by first | rfl | assumption) (by rfl) ?_; refine S_op ?_; refine W_assignPtr (by first | rfl | assumption) ?_; refine S_op ?_; refine W_assignSl (by first | rfl | assumption) ?_; refine S_op ?_; refine W_assignBool (by first | rfl | assumption) ?_; refine S_nil ?_; refine CW_seq ?_; refine CW_seq ?_; refine CW_region rfl ?_; refine S_op ?_; refine W_moveBool (by first | rfl | assumption) ?_; refine S_op ?_; refine W_not (by first | rfl | assumption) ?_; refine S_op ?_; refine W_moveBool (by first | rfl | assumption) ?_; refine S_pass (by rfl) ?_; refine S_pass (by rfl) ?_; refine S_pass (by rfl) ?_; refine S_pass (by rfl) ?_; refine S_pass (by rfl) ?_; refine S_pass (by rfl) ?_; refine S_op ?_; refine W_pickT (by first | rfl | assumption) (by first | rfl | assumption) ?_; refine S_nil ?_; refine CW_true (by first | rfl | assumption) ?_; refine CW_seq ?_; refine CW_region rfl ?_; refine S_op ?_; refine W_assignBool (by first | rfl | assumption) ?_; refine S_nil ?_; refine CW_ret ?_)
    exact ⟨_, ResW_one (v := .bool _) rfl, H, hG, rfl⟩
  | true =>
    obtain ⟨ht, ⟨A2, c2, rfl, hc2, hl2⟩, h150⟩ := hz rfl
    clear hz hz0
    by_cases hbig : 2000 < k.size + k2.size
    · (refine S_op ?_; refine W_moveTup (by first | rfl | assumption) ?_; refine S_op ?_; refine W_extract (by first | rfl | assumption) (by rfl) ?_; refine S_op ?_; refine W_extract (by first | rfl | assumption) (by rfl) ?_; refine S_op ?_; refine W_extract (by first | rfl | assumption) (by rfl) ?_; refine S_op ?_; refine W_assignPtr (by first | rfl | assumption) ?_; refine S_op ?_; refine W_assignSl (by first | rfl | assumption) ?_; refine S_op ?_; refine W_assignBool (by first | rfl | assumption) ?_; refine S_nil ?_; refine CW_seq ?_; refine CW_seq ?_; refine CW_region rfl ?_; refine S_op ?_; refine W_moveBool (by first | rfl | assumption) ?_; refine S_op ?_; refine W_not (by first | rfl | assumption) ?_; refine S_op ?_; refine W_moveBool (by first | rfl | assumption) ?_; refine S_want (by rfl) ?_; refine W_moveStr (by first | rfl | assumption) ?_; refine S_want (by rfl) ?_; refine W_lenS (by first | rfl | assumption) ?_; refine S_want (by rfl) ?_; refine W_moveStr (by first | rfl | assumption) ?_; refine S_want (by rfl) ?_; refine W_lenS (by first | rfl | assumption) ?_; refine S_want (by rfl) ?_; refine W_addN (by first | rfl | assumption) (by first | rfl | assumption) (by omega) ?_; refine S_want (by rfl) ?_; refine W_gtrT (by first | rfl | assumption) (by first | rfl | assumption) (by first | omega | rfl) ?_; refine S_op ?_; refine W_pickF (by first | rfl | assumption) (by first | rfl | assumption) ?_; refine S_nil ?_; refine CW_true (by first | rfl | assumption) ?_; refine CW_seq ?_; refine CW_region rfl ?_; refine S_op ?_; refine W_assignBool (by first | rfl | assumption) ?_; refine S_nil ?_; refine CW_ret ?_)
      exact ⟨_, ResW_one (v := .bool _) rfl, H, hG, rfl⟩
    · (refine S_op ?_; refine W_moveTup (by first | rfl | assumption) ?_; refine S_op ?_; refine W_extract (by first | rfl | assumption) (by rfl) ?_; refine S_op ?_; refine W_extract (by first | rfl | assumption) (by rfl) ?_; refine S_op ?_; refine W_extract (by first | rfl | assumption) (by rfl) ?_; refine S_op ?_; refine W_assignPtr (by first | rfl | assumption) ?_; refine S_op ?_; refine W_assignSl (by first | rfl | assumption) ?_; refine S_op ?_; refine W_assignBool (by first | rfl | assumption) ?_; refine S_nil ?_; refine CW_seq ?_; refine CW_seq ?_; refine CW_region rfl ?_; refine S_op ?_; refine W_moveBool (by first | rfl | assumption) ?_; refine S_op ?_; refine W_not (by first | rfl | assumption) ?_; refine S_op ?_; refine W_moveBool (by first | rfl | assumption) ?_; refine S_want (by rfl) ?_; refine W_moveStr (by first | rfl | assumption) ?_; refine S_want (by rfl) ?_; refine W_lenS (by first | rfl | assumption) ?_; refine S_want (by rfl) ?_; refine W_moveStr (by first | rfl | assumption) ?_; refine S_want (by rfl) ?_; refine W_lenS (by first | rfl | assumption) ?_; refine S_want (by rfl) ?_; refine W_addN (by first | rfl | assumption) (by first | rfl | assumption) (by omega) ?_; refine S_want (by rfl) ?_; refine W_gtrF (by first | rfl | assumption) (by first | rfl | assumption) (by first | omega | rfl) ?_; refine S_op ?_; refine W_pickF (by first | rfl | assumption) (by first | rfl | assumption) ?_; refine S_nil ?_; refine CW_false (by first | rfl | assumption) ?_; refine CW_skip ?_; refine CW_seq ?_; refine CW_region rfl ?_; refine S_op ?_; refine W_moveSl (by first | rfl | assumption) ?_; refine S_op ?_; refine W_moveStr (by first | rfl | assumption) ?_)
      (refine S_op ?_; refine W_call hS (by rfl) (rFrom_c H A2 c2 t.items k hl2 (by omega)) ?_); rintro v H w hG' hv; replace hG := hG.trans hG'; replace hS := hG'.sub; replace ht := ht.mono hG'.le; replace hl2 := hl2.mono hG'.le; clear hG'
      obtain ⟨A3, c3, rfl, hc3, hl3⟩ := hv
      have hfl : (fromL k t.items).length ≤ 150 := Nat.le_trans (List.length_filter_le _ _) h150
      (refine S_op ?_; refine W_moveInt (by first | rfl | assumption) ?_)
      (refine S_op ?_; refine W_call hS (by rfl) (first_c H A3 c3 (fromL k t.items) n hc3 (by omega)) ?_); rintro v H w hG' rfl; replace hG := hG.trans hG'; replace hS := hG'.sub; replace ht := ht.mono hG'.le; replace hl2 := hl2.mono hG'.le; replace hl3 := hl3.mono hG'.le; clear hG'
      (refine S_op ?_; refine W_assignSl (by first | rfl | assumption) ?_; refine S_nil ?_; refine CW_seq ?_; refine CW_region rfl ?_; refine S_op ?_; refine W_movePtr (by first | rfl | assumption) ?_; refine S_op ?_; refine W_moveStr (by first | rfl | assumption) ?_; refine S_op ?_; refine W_moveInt (by first | rfl | assumption) ?_)
      (refine S_op ?_; refine W_call hS (by rfl) (take_c H t k n ht.at_ (by omega)) ?_); rintro v H w hG' hv; replace hG := hG.trans hG'; replace hS := hG'.sub; replace ht := ht.mono hG'.le; replace hl2 := hl2.mono hG'.le; replace hl3 := hl3.mono hG'.le; clear hG'
      obtain ⟨A4, c4, rfl, hc4, hl4, _⟩ := hv
      obtain ⟨m, hm⟩ : ∃ m, (fromL k t.items).take n.toNat = m := ⟨_, rfl⟩
      have hmE : EntsAt H A3 m := by rw [← hm]; exact EntsAt.take hl3 _
      have hml : m.length ≤ 150 := by rw [← hm, List.length_take]; omega
      rw [hm] at hl4 hc4 ⊢
      (refine S_op ?_; refine W_assignSl (by first | rfl | assumption) ?_; refine S_nil ?_; refine CW_seq ?_; refine CW_seq ?_; refine CW_region rfl ?_; refine S_op ?_; refine W_moveSl (by first | rfl | assumption) ?_; refine S_op ?_; refine W_len (by first | rfl | assumption) ?_; refine S_op ?_; refine W_moveSl (by first | rfl | assumption) ?_; refine S_op ?_; refine W_len (by first | rfl | assumption) ?_; refine S_op ?_; refine W_neqF (by first | rfl | assumption) (by first | rfl | assumption) (by first | omega | rfl) ?_; refine S_nil ?_; refine CW_false (by first | rfl | assumption) ?_; refine CW_skip ?_; refine CW_seq ?_; refine CW_seq ?_; refine CW_region rfl ?_; refine S_op ?_; refine W_moveSl (by first | rfl | assumption) ?_; refine S_op ?_; refine W_len (by first | rfl | assumption) ?_; refine S_op ?_; refine W_moveInt (by first | rfl | assumption) ?_; refine S_nil ?_; refine CW_block ?_)
      refine CW_loopM [8, 14, 49, 50, 51, 52, 53, 54, 55, 56, 57, 58, 59, 60, 61, 62]
        (fun q u w2 => ∃ (i : Nat) (H2 : HF), u 49 = .int .i64 (i : Int) ∧ Grow H w H2 w2 ∧ i ≤ m.length ∧ m.length - i ≤ q)
        (m := m.length) ⟨0, H, rfl, Grow.refl hS, by omega, by omega⟩ ?_
      rintro q u w2 ⟨i, H2, h49, hG2, hi, hq⟩
      replace hG := hG.trans hG2
      have hS := hG2.sub
      replace hl4 := hl4.mono hG2.le
      replace hmE := hmE.mono hG2.le
      replace hl2 := hl2.mono hG2.le
      replace ht := ht.mono hG2.le
      have hG0 := hG
      by_cases hlt : i < m.length
      · obtain ⟨b, off, hA, hrow⟩ := hmE.some hlt
        obtain ⟨b4, off4, hA4, hrow4⟩ := keys_some hl4 hlt
        (refine CW_seq ?_; refine CW_region rfl ?_; refine S_op ?_; refine W_lssT (by first | rfl | assumption) (by first | rfl | assumption) (by first | omega | rfl) ?_; refine S_nil ?_; refine CW_seq ?_; refine CW_true (by first | rfl | assumption) ?_; refine CW_skip ?_; refine CW_seq ?_; refine CW_block ?_; refine CW_seq ?_; refine CW_region rfl ?_; refine S_op ?_; refine W_moveInt (by first | rfl | assumption) ?_; refine S_op ?_; refine W_assignInt (by first | rfl | assumption) ?_; refine S_nil ?_; refine CW_seq ?_)
        apply CW_region_grow [_, _, _, _, _, _, _, _, _, _] [none, none, none, none, none, none, none, none, none, none] [some 52, some 53, some 54, some 55, some 56, some 57, some 58, some 59, some 60, some 61] [52, 53, 54, 55, 56, 57, 58, 59, 60, 61] mixed rfl rfl rfl rfl (by decide) rfl (by assumption)
        · ((apply steps_cons; case h1 => (apply A_pure; intro c u H' w' hG; have hS' := hG.sub; have hS2' := hG.subOld; (repeat (first | refine depGo_eq rfl rfl rfl ?_ | (refine depGo_fact rfl rfl rfl ?_; intro v hv) | refine depGo_skip rfl ?_ | refine depGo_none rfl ?_)); apply Pure1.mk; intro K hk; exact W_moveSl (by first | rfl | assumption) hk)); (apply steps_cons; case h1 => (apply A_pure; intro c u H' w' hG; have hS' := hG.sub; have hS2' := hG.subOld; (repeat (first | refine depGo_eq rfl rfl rfl ?_ | (refine depGo_fact rfl rfl rfl ?_; intro v hv) | refine depGo_skip rfl ?_ | refine depGo_none rfl ?_)); apply Pure1.mk; intro K hk; exact W_moveInt (by first | rfl | assumption) hk)); (apply steps_cons; case h1 => (apply A_pure; intro c u H' w' hG; have hS' := hG.sub; have hS2' := hG.subOld; (repeat (first | refine depGo_eq rfl rfl rfl ?_ | (refine depGo_fact rfl rfl rfl ?_; intro v hv) | refine depGo_skip rfl ?_ | refine depGo_none rfl ?_)); apply Pure1.mk; intro K hk; exact W_index (by first | rfl | assumption) (by first | rfl | assumption) (by first | assumption | omega | decide) (by first | rfl | assumption) hk)); (apply steps_cons; case h1 => (apply A_pure; intro c u H' w' hG; have hS' := hG.sub; have hS2' := hG.subOld; (repeat (first | refine depGo_eq rfl rfl rfl ?_ | (refine depGo_fact rfl rfl rfl ?_; intro v hv) | refine depGo_skip rfl ?_ | refine depGo_none rfl ?_)); apply Pure1.mk; intro K hk; exact W_loadOl (by first | rfl | assumption) (by assumption) (by first | assumption | omega) (by assumption) hk)); (apply steps_cons; case h1 => (apply A_pure; intro c u H' w' hG; have hS' := hG.sub; have hS2' := hG.subOld; (repeat (first | refine depGo_eq rfl rfl rfl ?_ | (refine depGo_fact rfl rfl rfl ?_; intro v hv) | refine depGo_skip rfl ?_ | refine depGo_none rfl ?_)); apply Pure1.mk; intro K hk; exact W_moveSl (by first | rfl | assumption) hk)); (apply steps_cons; case h1 => (apply A_pure; intro c u H' w' hG; have hS' := hG.sub; have hS2' := hG.subOld; (repeat (first | refine depGo_eq rfl rfl rfl ?_ | (refine depGo_fact rfl rfl rfl ?_; intro v hv) | refine depGo_skip rfl ?_ | refine depGo_none rfl ?_)); apply Pure1.mk; intro K hk; exact W_moveInt (by first | rfl | assumption) hk)); (apply steps_cons; case h1 => (apply A_pure; intro c u H' w' hG; have hS' := hG.sub; have hS2' := hG.subOld; (repeat (first | refine depGo_eq rfl rfl rfl ?_ | (refine depGo_fact rfl rfl rfl ?_; intro v hv) | refine depGo_skip rfl ?_ | refine depGo_none rfl ?_)); apply Pure1.mk; intro K hk; exact W_index (by first | rfl | assumption) (by first | rfl | assumption) (by first | assumption | omega | decide) (by first | rfl | assumption) hk)); (apply steps_cons; case h1 => (apply A_pure; intro c u H' w' hG; have hS' := hG.sub; have hS2' := hG.subOld; (repeat (first | refine depGo_eq rfl rfl rfl ?_ | (refine depGo_fact rfl rfl rfl ?_; intro v hv) | refine depGo_skip rfl ?_ | refine depGo_none rfl ?_)); apply Pure1.mk; intro K hk; exact W_field (by first | rfl | assumption) hk)); (apply steps_cons; case h1 => (apply A_pure; intro c u H' w' hG; have hS' := hG.sub; have hS2' := hG.subOld; (repeat (first | refine depGo_eq rfl rfl rfl ?_ | (refine depGo_fact rfl rfl rfl ?_; intro v hv) | refine depGo_skip rfl ?_ | refine depGo_none rfl ?_)); apply Pure1.mk; intro K hk; exact W_loadKey (by first | rfl | assumption) (by assumption) (by first | assumption | omega) (by assumption) hk)); (apply steps_cons; case h1 => (apply A_pure; intro c u H' w' hG; have hS' := hG.sub; have hS2' := hG.subOld; (repeat (first | refine depGo_eq rfl rfl rfl ?_ | (refine depGo_fact rfl rfl rfl ?_; intro v hv) | refine depGo_skip rfl ?_ | refine depGo_none rfl ?_)); apply Pure1.mk; intro K hk; exact W_sneqF (by first | rfl | assumption) (by first | rfl | assumption) (by first | assumption | rfl) hk)); exact trivial)
        · (intro H' w' hG; (repeat (first | refine fin_eq rfl rfl ?_ | (refine fin_fact rfl ?_; intro v hv) | refine fin_none rfl ?_)); refine fin_nil ?_)
          (refine CW_false (by first | rfl | assumption) ?_; refine CW_skip ?_; refine CW_region rfl ?_; refine S_op ?_; refine W_add1 (by first | rfl | assumption) (by omega) ?_; refine S_op ?_; refine W_moveInt (by first | rfl | assumption) ?_; refine S_nil ?_)
          exact ⟨(by repeat (first | exact AgreeOff.over | refine AgreeOff.upd rfl ?_ | refine AgreeOff.over2 rfl ?_)), q - 1, by omega, i + 1, _, rfl, hG2.trans hG, by omega, by omega⟩
      · (refine CW_seq ?_; refine CW_region rfl ?_; refine S_op ?_; refine W_lssF (by first | rfl | assumption) (by first | rfl | assumption) (by first | omega | rfl) ?_; refine S_nil ?_; refine CW_seq ?_; refine CW_false (by first | rfl | assumption) ?_; refine CW_exit ?_; refine CW_seq ?_; refine CW_region rfl ?_; refine S_op ?_; refine W_movePtr (by first | rfl | assumption) ?_; refine S_op ?_; refine W_moveStr (by first | rfl | assumption) ?_; refine S_op ?_; refine W_moveStr (by first | rfl | assumption) ?_)
        (refine S_op ?_; refine W_call hS (by rfl) (count_c _ t k k2 ht.at_ (by omega)) ?_); rintro v H w hG' rfl; replace hG := hG.trans hG'; replace hS := hG'.sub; replace hl2 := hl2.mono hG'.le; clear hG'
        rw [count_eq ht.rise]
        (refine S_op ?_; refine W_moveSl (by first | rfl | assumption) ?_; refine S_op ?_; refine W_moveStr (by first | rfl | assumption) ?_; refine S_op ?_; refine W_moveStr (by first | rfl | assumption) ?_)
        (refine S_op ?_; refine W_call hS (by rfl) (rCount_c _ A2 c2 t.items k k2 hl2 (by omega)) ?_); rintro v H w hG' rfl; replace hG := hG.trans hG'; replace hS := hG'.sub; clear hG'
        (refine S_op ?_; refine W_eqlT (by first | rfl | assumption) (by first | rfl | assumption) (by first | omega | rfl) ?_; refine S_op ?_; refine W_assignBool (by first | rfl | assumption) ?_; refine S_nil ?_; refine CW_ret ?_)
        exact ⟨_, ResW_one (v := .bool _) rfl, _, hG, by simp⟩
end Go.Proofs.Ytgaabmoknpifnaa
/- Regions that draw, with several effects, one behind the other. Conditions: none. -/
namespace Go.Proofs.Ytgaabmoknpifnaa
open Go.RowKit
set_option linter.unusedVariables false
/-- Behind c effects M c holds. H0, w0: the call's beginning; Hr: the region's. -/
structure GN (H0 : HF) (w0 : World) (Hr : HF) (M : Nat → HF → World → Prop) (c : Nat) (H : HF) (w : World) : Prop where
  grow : Grow H0 w0 H w
  le : HLe Hr H
  m : M c H w
  cm : ∀ c, Closed (M c)
section
variable {H0 Hr H H' : HF} {w0 w w' : World} {M : Nat → HF → World → Prop} {c : Nat}
theorem GN.sub (h : GN H0 w0 Hr M c H w) : Sub H w := h.grow.sub
theorem GN.subOld (h : GN H0 w0 Hr M c H w) : Sub Hr w := ⟨fun b o e => h.grow.sub.out b o (h.le b o e)⟩
theorem GN.trans (h : GN H0 w0 Hr M c H w) (k : Grow H w H' w') : GN H0 w0 Hr M c H' w' := ⟨h.grow.trans k, h.le.trans k.le, h.cm _ _ _ _ _ h.m k, h.cm⟩
theorem GN.next (h : GN H0 w0 Hr M c H w) (hg : Grow H0 w0 H w') (hf : M (c + 1) H w') : GN H0 w0 Hr M (c + 1) H w' := ⟨hg, h.le, hf, h.cm⟩
variable {P : Program} {r : Option Nat} {n : Nat} {f : Fr}
theorem CW_region_gn {rid : Nat} {ops : Array Oper} {Qn Qr : Fr → World → Prop} {Qx : Nat → Fr → World → Prop} (M : Nat → HF → World → Prop) (c0 : Nat) (Φ : List Fact) (es : List (Option Nat)) (Ds : List (Option Nat)) (D : List Nat)
    (hm : P.follows .mixedOrders = true) (hd : dstsOk n ops = true) (he : edgesOk ops = true) (hDs : ops.toList.map (·.dst) = Ds) (hD : dstsOf ops.toList = D) (hu : decide D.Nodup = true) (hef : effOk ops es = true) (heu : effUniq es = true)
    (hl : (es.any fun e => e == some c0) = true) (hG : Grow H0 w0 H w) (hM : M 0 H w) (cm : ∀ c, Closed (M c)) (hst : StepsAny P r (GN H0 w0 H M) Φ ops Ds D f ops.toList Φ es)
    (hfin : ∀ c H' w', c0 < c → Grow H0 w0 H' w' → HLe H H' → M c H' w' → FinAny Qn H' w' ops.toList Φ f) : CW P r n (.region rid ops true) Qn Qr Qx f w := by
  refine CW_region_any (H := H) (GN H0 w0 H M) Φ es Ds D hm hd he hDs hD hu hef heu ⟨hG.trans (Grow.drew hG.sub), HLe.refl _, cm _ _ _ _ _ hM (Grow.drew hG.sub), cm⟩ hst ?_
  intro c H' w' hG hc
  simp only [List.any_eq_true] at hl
  obtain ⟨e, he1, he2⟩ := hl
  obtain ⟨j, hj, hje⟩ := List.mem_iff_getElem.1 he1
  have hes : es[j]? = some (some c0) := by
    rw [List.getElem?_eq_getElem hj, hje]
    simpa using he2
  exact hfin c H' w' (hc j c0 hes) hG.grow hG.le hG.m
end
end Go.Proofs.Ytgaabmoknpifnaa
/- slices.Backward, walked. Conditions: sizes. -/
namespace Go.Proofs.Ytgaabmoknpifnaa
open Go.Proofs Go.RowKit
set_option linter.unusedVariables false
attribute [local irreducible] CW CWD SeqW OpW CallV
set_option maxHeartbeats 4000000
/-- The numbers below n, from above. -/
def downN (n : Nat) : List Nat := (List.range n).reverse
def downTo (n i : Nat) : List Nat := ((List.range n).drop i).reverse
theorem downTo_step {n i : Nat} (h : i < n) : downTo n i = downTo n (i + 1) ++ [i] := by
  unfold downTo
  rw [List.drop_eq_getElem_cons (by simpa using h)]
  simp
theorem downTo_top (n : Nat) : downTo n n = [] := by simp [downTo]
theorem downTo_zero (n : Nat) : downTo n 0 = downN n := rfl
theorem downN_split {n i : Nat} (h : i < n) : downN n = downTo n (i + 1) ++ i :: downN i := by
  have e : List.range n = List.range i ++ i :: (List.range n).drop (i + 1) := by
    have h1 := List.take_append_drop i (List.range n)
    rw [List.drop_eq_getElem_cons (by simpa using h), List.take_range] at h1
    rw [Nat.min_eq_left (by omega)] at h1
    simpa using h1.symm
  unfold downN downTo
  conv => lhs; rw [e]
  simp
def encBE (l : List Ent) (i : Nat) : List Value := [.int .i64 (i : Int), .agg #[.string (ent l i).key, .string (ent l i).val]]
def encBV (vs : List Value) (i : Nat) : List Value := [.int .i64 (i : Int), vs.getD i (.pointer none)]
theorem back1E_it {H : HF} {w : World} {l : List Ent} {A : Option Addr} {n c a : Nat} {T : TypeId} (hn : n = l.length) (hb : n ≤ 1000000) (hl : EntsAt H A l) (ha : H a = some (.cells #[.slice A n c] T (0, 0))) :
    IterAt Try.prog 85 [.pointer (some ⟨a, 0, none⟩)] (encBE l) (downN n) (fun _ => False) H w := by
  skip
  intro y J Jx X0 hyc _ hX0 hJ hJx hy hS hj
  obtain ⟨H0, rfl⟩ : ∃ H0, H0 = H := ⟨_, rfl⟩
  obtain ⟨w0, rfl⟩ : ∃ w0, w0 = w := ⟨_, rfl⟩
  refine CallW_of_CW Try.func85 rfl Try.ntmps85 Try.results85 rfl ?_
  have hG := Grow.refl hS
  have hI := Its.start hS hj
  (refine CW_seq ?_; refine CW_region rfl ?_; refine S_op ?_; refine W_loadHL (by first | rfl | assumption) (by assumption) (by rfl) (by assumption) ?_; refine S_op ?_; refine W_len (by first | rfl | assumption) ?_)
  refine S_op (W_sub (q := (n : Int) - 1) (by rfl) (by rfl) (IntWalk.i64_in _ (by omega)) ?_)
  (refine S_op ?_; refine W_assignInt (by first | rfl | assumption) ?_; refine S_nil ?_; refine CW_block ?_)
  refine CW_loopM [3, 7, 8, 9, 10, 11, 12, 13, 14, 15, 16, 17, 18] (fun m u w2 => ∃ (i : Nat) (X : Nat → Prop) (H2 : HF), u 3 = .int .i64 ((i : Int) - 1) ∧ i ≤ n ∧ i ≤ m ∧ HLe H0 H2 ∧ Its J X0 H0 w0 X (downTo n i) H2 w2)
    (m := n) ⟨n, X0, H0, rfl, Nat.le_refl _, Nat.le_refl _, HLe.refl _, by rw [downTo_top]; exact hI⟩ ?_
  clear hI hG hS hj
  rintro m u w ⟨i, X, H, h3, hi, hm, hle, hI⟩
  have hS := hI.sub
  have hG := Grow.refl hS
  replace ha := hle _ _ ha
  replace hl := hl.mono hle
  cases i with
  | zero =>
    replace h3 : u 3 = .int .i64 (-1) := h3
    (refine CW_seq ?_; refine CW_seq ?_; refine CW_region rfl ?_; refine S_op ?_; refine W_moveInt (by first | rfl | assumption) ?_; refine S_op ?_; refine W_geqF (by first | rfl | assumption) (by first | rfl | assumption) (by first | omega | rfl) ?_; refine S_nil ?_; refine CW_false (by first | rfl | assumption) ?_; refine CW_exit ?_; refine xblk_hit ?_)
    exact ⟨_, ResW_zero, Went.end (v := .bool true) (.inl ⟨rfl, X, H, hI⟩)⟩
  | succ i =>
    replace h3 : u 3 = .int .i64 (i : Int) := by rw [h3]; congr 1; omega
    have hlt : i < n := by omega
    obtain ⟨bb, off, hA, hrow⟩ := hl.some (show i < l.length by omega)
    have hlt2 : i < l.length := by omega
    (refine CW_seq ?_; refine CW_seq ?_; refine CW_region rfl ?_; refine S_op ?_; refine W_moveInt (by first | rfl | assumption) ?_; refine S_op ?_; refine W_geqT (by first | rfl | assumption) (by first | rfl | assumption) (by first | omega | rfl) ?_; refine S_nil ?_; refine CW_true (by first | rfl | assumption) ?_; refine CW_skip ?_; refine CW_seq ?_; refine CW_block ?_; refine CW_seq ?_; refine CW_region rfl ?_; refine S_op ?_; refine W_move rfl ?_; refine S_op ?_; refine W_moveInt (by first | rfl | assumption) ?_; refine S_op ?_; refine W_loadHL (by first | rfl | assumption) (by assumption) (by rfl) (by assumption) ?_; refine S_op ?_; refine W_moveInt (by first | rfl | assumption) ?_; refine S_op ?_; refine W_index (by first | rfl | assumption) (by first | rfl | assumption) (by first | assumption | omega | decide) (by first | rfl | assumption) ?_; refine S_op ?_; refine W_loadEnt (by first | rfl | assumption) (by assumption) (by first | assumption | omega) (by assumption) ?_)
    skip
    refine S_op ?_
    refine W_callVal (by rfl) (by rfl) ((hy.at (x := i) (r := downN i) (downN_split hlt) (Its.start hS hI.has)).mono ?_)
    clear hG hS
    rintro v w (⟨rfl, X2, H3, hK⟩ | ⟨rfl, X2, H3, p, r, he, hK⟩)
    · (refine S_op ?_; refine W_not (by first | rfl | assumption) ?_; refine S_nil ?_; refine CW_false (by first | rfl | assumption) ?_; refine CW_skip ?_; refine CW_region rfl ?_; refine S_op ?_; refine W_moveInt (by first | rfl | assumption) ?_)
      refine S_op (W_sub (q := (i : Int) - 1) (by rfl) (by rfl) (IntWalk.i64_in _ (by omega)) ?_)
      (refine S_op ?_; refine W_assignInt (by first | rfl | assumption) ?_; refine S_nil ?_)
      exact ⟨(by repeat (first | exact AgreeOff.over | refine AgreeOff.upd rfl ?_ | refine AgreeOff.over2 rfl ?_)), m - 1, by omega, i, X2, H3, rfl, by omega, by omega, hle.trans hK.le, by rw [downTo_step hlt]; exact hI.trans hK⟩
    · (refine S_op ?_; refine W_not (by first | rfl | assumption) ?_; refine S_nil ?_; refine CW_true (by first | rfl | assumption) ?_; refine CW_ret ?_)
      exact ⟨_, ResW_zero, Went.end (v := .bool false) (.inr ⟨rfl, _, _, p, r, he, hI.trans hK⟩)⟩
theorem back1V_it {H : HF} {w : World} {vs : List Value} {A : Option Addr} {n c a : Nat} {T : TypeId} (hn : n = vs.length) (hb : n ≤ 1000000) (hl : SlAt H A vs) (ha : H a = some (.cells #[.slice A n c] T (0, 0))) :
    IterAt Try.prog 86 [.pointer (some ⟨a, 0, none⟩)] (encBV vs) (downN n) (fun _ => False) H w := by
  skip
  intro y J Jx X0 hyc _ hX0 hJ hJx hy hS hj
  obtain ⟨H0, rfl⟩ : ∃ H0, H0 = H := ⟨_, rfl⟩
  obtain ⟨w0, rfl⟩ : ∃ w0, w0 = w := ⟨_, rfl⟩
  refine CallW_of_CW Try.func86 rfl Try.ntmps86 Try.results86 rfl ?_
  have hG := Grow.refl hS
  have hI := Its.start hS hj
  (refine CW_seq ?_; refine CW_region rfl ?_; refine S_op ?_; refine W_loadHL (by first | rfl | assumption) (by assumption) (by rfl) (by assumption) ?_; refine S_op ?_; refine W_len (by first | rfl | assumption) ?_)
  refine S_op (W_sub (q := (n : Int) - 1) (by rfl) (by rfl) (IntWalk.i64_in _ (by omega)) ?_)
  (refine S_op ?_; refine W_assignInt (by first | rfl | assumption) ?_; refine S_nil ?_; refine CW_block ?_)
  refine CW_loopM [3, 7, 8, 9, 10, 11, 12, 13, 14, 15, 16, 17, 18] (fun m u w2 => ∃ (i : Nat) (X : Nat → Prop) (H2 : HF), u 3 = .int .i64 ((i : Int) - 1) ∧ i ≤ n ∧ i ≤ m ∧ HLe H0 H2 ∧ Its J X0 H0 w0 X (downTo n i) H2 w2)
    (m := n) ⟨n, X0, H0, rfl, Nat.le_refl _, Nat.le_refl _, HLe.refl _, by rw [downTo_top]; exact hI⟩ ?_
  clear hI hG hS hj
  rintro m u w ⟨i, X, H, h3, hi, hm, hle, hI⟩
  have hS := hI.sub
  have hG := Grow.refl hS
  replace ha := hle _ _ ha
  replace hl := hl.mono hle
  cases i with
  | zero =>
    replace h3 : u 3 = .int .i64 (-1) := h3
    (refine CW_seq ?_; refine CW_seq ?_; refine CW_region rfl ?_; refine S_op ?_; refine W_moveInt (by first | rfl | assumption) ?_; refine S_op ?_; refine W_geqF (by first | rfl | assumption) (by first | rfl | assumption) (by first | omega | rfl) ?_; refine S_nil ?_; refine CW_false (by first | rfl | assumption) ?_; refine CW_exit ?_; refine xblk_hit ?_)
    exact ⟨_, ResW_zero, Went.end (v := .bool true) (.inl ⟨rfl, X, H, hI⟩)⟩
  | succ i =>
    replace h3 : u 3 = .int .i64 (i : Int) := by rw [h3]; congr 1; omega
    have hlt : i < n := by omega
    have hlt2 : i < vs.length := by omega
    obtain ⟨bb, off, hA, hrow⟩ : ∃ b off, A = some ⟨b, off, none⟩ ∧ Row H b off vs := by
      rcases hl with h | h
      · subst h; simp at hlt2
      · exact h
    have hget : vs[i * 1]? = some (vs.getD i (.pointer none)) := by simp [hlt2]
    (refine CW_seq ?_; refine CW_seq ?_; refine CW_region rfl ?_; refine S_op ?_; refine W_moveInt (by first | rfl | assumption) ?_; refine S_op ?_; refine W_geqT (by first | rfl | assumption) (by first | rfl | assumption) (by first | omega | rfl) ?_; refine S_nil ?_; refine CW_true (by first | rfl | assumption) ?_; refine CW_skip ?_; refine CW_seq ?_; refine CW_block ?_; refine CW_seq ?_; refine CW_region rfl ?_; refine S_op ?_; refine W_move rfl ?_; refine S_op ?_; refine W_moveInt (by first | rfl | assumption) ?_; refine S_op ?_; refine W_loadHL (by first | rfl | assumption) (by assumption) (by rfl) (by assumption) ?_; refine S_op ?_; refine W_moveInt (by first | rfl | assumption) ?_; refine S_op ?_; refine W_index (by first | rfl | assumption) (by first | rfl | assumption) (by first | assumption | omega | decide) (by first | rfl | assumption) ?_)
    refine S_op (W_loadRow (by rfl) hrow hget hS ?_)
    skip
    refine S_op ?_
    refine W_callVal (by rfl) (by rfl) ((hy.at (x := i) (r := downN i) (downN_split hlt) (Its.start hS hI.has)).mono ?_)
    clear hG hS
    rintro v w (⟨rfl, X2, H3, hK⟩ | ⟨rfl, X2, H3, p, r, he, hK⟩)
    · (refine S_op ?_; refine W_not (by first | rfl | assumption) ?_; refine S_nil ?_; refine CW_false (by first | rfl | assumption) ?_; refine CW_skip ?_; refine CW_region rfl ?_; refine S_op ?_; refine W_moveInt (by first | rfl | assumption) ?_)
      refine S_op (W_sub (q := (i : Int) - 1) (by rfl) (by rfl) (IntWalk.i64_in _ (by omega)) ?_)
      (refine S_op ?_; refine W_assignInt (by first | rfl | assumption) ?_; refine S_nil ?_)
      exact ⟨(by repeat (first | exact AgreeOff.over | refine AgreeOff.upd rfl ?_ | refine AgreeOff.over2 rfl ?_)), m - 1, by omega, i, X2, H3, rfl, by omega, by omega, hle.trans hK.le, by rw [downTo_step hlt]; exact hI.trans hK⟩
    · (refine S_op ?_; refine W_not (by first | rfl | assumption) ?_; refine S_nil ?_; refine CW_true (by first | rfl | assumption) ?_; refine CW_ret ?_)
      exact ⟨_, ResW_zero, Went.end (v := .bool false) (.inr ⟨rfl, _, _, p, r, he, hI.trans hK⟩)⟩
theorem backE_c (H : HF) (l : List Ent) (A : Option Addr) (c : Nat) (hb : l.length ≤ 1000000) (hl : EntsAt H A l) :
    Fn Try.prog 67 [.slice A l.length c] H fun v H' => IterV Try.prog (encBE l) (downN l.length) v H' := by
  refine Fn_of_CW Try.func67 rfl Try.ntmps67 Try.results67 rfl fun w hS => ?_; have hG := Grow.refl hS; have hS0 := hS
  (refine CW_seq ?_; refine CW_region rfl ?_)
  (refine S_op (W_box1 hS (by rfl) (by first | rfl | assumption) ?_)); intro H w _ hG' h1; replace hG := hG.trans hG'; replace hS := hG'.sub; replace hl := hl.mono hG'.le; clear hG'
  (refine S_op ?_; refine W_assign rfl ?_; refine S_nil ?_; refine CW_seq ?_; refine CW_region rfl ?_)
  refine S_op (W_makeFunc rfl rfl ?_)
  (refine S_op ?_; refine W_assignFun (by first | rfl | assumption) ?_; refine S_nil ?_; refine CW_ret ?_)
  exact ⟨_, ResW_one (v := .func _ _ _) rfl, H, hG, _, _, inferInstance, rfl, fun H1 w1 hle => back1E_it rfl hb (hl.mono hle) (hle _ _ h1)⟩
theorem backV_c (H : HF) (vs : List Value) (A : Option Addr) (n c : Nat) (hn : n = vs.length) (hb : n ≤ 1000000) (hl : SlAt H A vs) :
    Fn Try.prog 68 [.slice A n c] H fun v H' => IterV Try.prog (encBV vs) (downN n) v H' := by
  refine Fn_of_CW Try.func68 rfl Try.ntmps68 Try.results68 rfl fun w hS => ?_; have hG := Grow.refl hS; have hS0 := hS
  (refine CW_seq ?_; refine CW_region rfl ?_)
  (refine S_op (W_box1 hS (by rfl) (by first | rfl | assumption) ?_)); intro H w _ hG' h1; replace hG := hG.trans hG'; replace hS := hG'.sub; replace hl := hl.mono hG'.le; clear hG'
  (refine S_op ?_; refine W_assign rfl ?_; refine S_nil ?_; refine CW_seq ?_; refine CW_region rfl ?_)
  refine S_op (W_makeFunc rfl rfl ?_)
  (refine S_op ?_; refine W_assignFun (by first | rfl | assumption) ?_; refine S_nil ?_; refine CW_ret ?_)
  exact ⟨_, ResW_one (v := .func _ _ _) rfl, H, hG, _, _, inferInstance, rfl, fun H1 w1 hle => back1V_it hn hb (hl.mono hle) (hle _ _ h1)⟩
end Go.Proofs.Ytgaabmoknpifnaa
/- Results that lie in cells of the call's own; struct variables that are written once. Conditions: each law's own premises. -/
namespace Go.Proofs.Ytgaabmoknpifnaa
open Go.RowKit
set_option linter.unusedVariables false
/-- What a result variable yields. -/
def RV (P : Program) (f : Fr) (w : World) : ResultVar → Value → Prop
  | .tmp t, v => f t = v
  | .cell a T, v => ∃ b, f a = .pointer (some ⟨b, 0, none⟩) ∧ (loadVar T ⟨b, 0, none⟩).run P w = .ok v w
section
variable {P : Program} {f : Fr} {w : World} {H : HF}
theorem Rep.at' {n : Nat} {a : Act} (ha : Rep n a f) (t : Nat) : a.tmps[t]?.getD undef = f t := by
  have := ha.at_ t
  rwa [Array.getD_eq_getD_getElem?] at this
theorem RV_cell {s a b : Nat} {T : TypeId} {vs : List Value} [TyAgg P T] [TySize P T s] (hx : f a = .pointer (some ⟨b, 0, none⟩)) (hm : Mut H w b vs) (hl : vs.length = s) : RV P f w (.cell a T) (.agg vs.toArray) := by
  refine ⟨b, hx, ?_⟩
  have := run_loadCells_list (P := P) w ⟨b, 0, none⟩ vs (fun j v hj => by rw [add_lit']; exact Sub.mut_or hm (by simpa using hj))
  rw [hl] at this
  simp [loadVar, TyAgg.agg (P := P) (T := T), TySize.size (P := P) (T := T), this]
theorem RV_cellH {s a b : Nat} {T E : TypeId} {fr : Nat × Nat} {vs : List Value} [TyAgg P T] [TySize P T s] (hx : f a = .pointer (some ⟨b, 0, none⟩)) (hb : H b = some (.cells vs.toArray E fr)) (hS : Sub H w) (hl : vs.length = s) : RV P f w (.cell a T) (.agg vs.toArray) := by
  refine ⟨b, hx, ?_⟩
  have := run_loadCells_list (P := P) w ⟨b, 0, none⟩ vs (fun j v hj => by rw [add_lit', Nat.zero_add]; exact hS.cell hb (by simpa using hj))
  rw [hl] at this
  simp [loadVar, TyAgg.agg (P := P) (T := T), TySize.size (P := P) (T := T), this]
theorem ResW_v1 {r1 : ResultVar} {v1 : Value} (h1 : RV P f w r1 v1) : ResW P #[r1] f w v1 := by
  intro n a fn ha hr
  cases r1 with
  | tmp t => simp only [RV] at h1; simp [results, hr, ha.at', h1]
  | cell x t => obtain ⟨b, h1, k1⟩ := h1; simp [results, hr, ha.at', h1, k1, asAddr]
theorem ResW_v2 {r1 r2 : ResultVar} {v1 v2 : Value} (h1 : RV P f w r1 v1) (h2 : RV P f w r2 v2) : ResW P #[r1, r2] f w (.tuple #[v1, v2]) := by
  intro n a fn ha hr
  cases r1 with
  | tmp t =>
    simp only [RV] at h1
    cases r2 with
    | tmp t => simp only [RV] at h2; simp [results, hr, ha.at', h1, h2]
    | cell x t => obtain ⟨b2, h2, k2⟩ := h2; simp [results, hr, ha.at', h1, h2, k2, asAddr]
  | cell x t =>
    obtain ⟨b, h1, k1⟩ := h1
    cases r2 with
    | tmp t => simp only [RV] at h2; simp [results, hr, ha.at', h1, k1, h2, asAddr]
    | cell x t => obtain ⟨b2, h2, k2⟩ := h2; simp [results, hr, ha.at', h1, k1, h2, k2, asAddr]
theorem ResW_v3 {r1 r2 r3 : ResultVar} {v1 v2 v3 : Value} (h1 : RV P f w r1 v1) (h2 : RV P f w r2 v2) (h3 : RV P f w r3 v3) : ResW P #[r1, r2, r3] f w (.tuple #[v1, v2, v3]) := by
  intro n a fn ha hr
  cases r1 with
  | tmp t =>
    simp only [RV] at h1
    cases r2 with
    | tmp t =>
      simp only [RV] at h2
      cases r3 with
      | tmp t => simp only [RV] at h3; simp [results, hr, ha.at', h1, h2, h3]
      | cell x t => obtain ⟨b3, h3, k3⟩ := h3; simp [results, hr, ha.at', h1, h2, h3, k3, asAddr]
    | cell x t =>
      obtain ⟨b2, h2, k2⟩ := h2
      cases r3 with
      | tmp t => simp only [RV] at h3; simp [results, hr, ha.at', h1, h2, k2, h3, asAddr]
      | cell x t => obtain ⟨b3, h3, k3⟩ := h3; simp [results, hr, ha.at', h1, h2, k2, h3, k3, asAddr]
  | cell x t =>
    obtain ⟨b, h1, k1⟩ := h1
    cases r2 with
    | tmp t =>
      simp only [RV] at h2
      cases r3 with
      | tmp t => simp only [RV] at h3; simp [results, hr, ha.at', h1, k1, h2, h3, asAddr]
      | cell x t => obtain ⟨b3, h3, k3⟩ := h3; simp [results, hr, ha.at', h1, k1, h2, h3, k3, asAddr]
    | cell x t =>
      obtain ⟨b2, h2, k2⟩ := h2
      cases r3 with
      | tmp t => simp only [RV] at h3; simp [results, hr, ha.at', h1, k1, h2, k2, h3, asAddr]
      | cell x t => obtain ⟨b3, h3, k3⟩ := h3; simp [results, hr, ha.at', h1, k1, h2, k2, h3, k3, asAddr]
end
end Go.Proofs.Ytgaabmoknpifnaa
/- walk.down, walked: it gives a tree's entries from above, while keep takes their keys. Conditions: none but the tree's. -/
namespace Go.Proofs.Ytgaabmoknpifnaa
open Go.Proofs Go.RowKit
set_option linter.unusedVariables false
attribute [local irreducible] CW CWD SeqW OpW CallV
set_option maxHeartbeats 4000000
theorem RV_cell1 {P : Program} {f : Fr} {H : HF} {w : World} {a b : Nat} {T : TypeId} {v : Value} [TyOne P T] (hx : f a = .pointer (some ⟨b, 0, none⟩)) (hm : Mut H w b [v]) : RV P f w (.cell a T) v := by
  exact ⟨b, hx, by simp [loadVar, TyOne.agg (P := P) (T := T), Sub.mut_or hm (j := 0) rfl]⟩
def downL (kf : ByteArray → Bool) (l : List Ent) : List Ent := (l.filter fun e => kf e.key).reverse
theorem downL_append (kf : ByteArray → Bool) (l m : List Ent) : downL kf (l ++ m) = downL kf m ++ downL kf l := by simp [downL, List.filter_append]
/-- What the bodies have given behind the numbers of pre. -/
def gaveE (kf : ByteArray → Bool) (l : List Ent) (pre : List Nat) : List Ent := pre.flatMap fun i => downL kf [ent l i]
def gaveV (kf : ByteArray → Bool) (K : List (List Ent)) (pre : List Nat) : List Ent := pre.flatMap fun i => downL kf (K.getD i [])
theorem gaveE_all (kf : ByteArray → Bool) (l : List Ent) : gaveE kf l (downN l.length) = downL kf l := by
  suffices h : ∀ n, n ≤ l.length → gaveE kf l (downN n) = downL kf (l.take n) by
    have := h l.length (Nat.le_refl _); rwa [List.take_length] at this
  intro n
  induction n with
  | zero => intro _; simp [gaveE, downN, downL]
  | succ n ih =>
    intro hn
    have e : downN (n + 1) = n :: downN n := by simp [downN, List.range_succ]
    have e2 : l.take (n + 1) = l.take n ++ [ent l n] := by rw [take_succ' (by omega)]; simp [ent, show n < l.length by omega]
    rw [e, e2, downL_append, ← ih (by omega)]
    simp [gaveE]
theorem gaveV_all (kf : ByteArray → Bool) (K : List (List Ent)) : gaveV kf K (downN K.length) = downL kf K.flatten := by
  suffices h : ∀ n, n ≤ K.length → gaveV kf K (downN n) = downL kf (K.take n).flatten by
    have := h K.length (Nat.le_refl _); rwa [List.take_length] at this
  intro n
  induction n with
  | zero => intro _; simp [gaveV, downN, downL]
  | succ n ih =>
    intro hn
    have e : downN (n + 1) = n :: downN n := by simp [downN, List.range_succ]
    have e2 : K.take (n + 1) = K.take n ++ [K.getD n []] := by rw [take_succ' (by omega)]; simp [show n < K.length by omega]
    rw [e, e2, List.flatten_append, downL_append, ← ih (by omega)]
    simp [gaveV]
theorem gaveE_next (kf : ByteArray → Bool) (l : List Ent) (pre : List Nat) (i : Nat) : gaveE kf l (pre ++ [i]) = gaveE kf l pre ++ (if kf (ent l i).key then [ent l i] else []) := by
  simp only [gaveE, List.flatMap_append, List.flatMap_singleton, downL]
  congr 1
  cases h : kf (ent l i).key <;> simp [h]
theorem gaveV_next (kf : ByteArray → Bool) (K : List (List Ent)) (pre : List Nat) (i : Nat) : gaveV kf K (pre ++ [i]) = gaveV kf K pre ++ downL kf (K.getD i []) := by
  simp [gaveV]
/-- keep's value. -/
def KeepV (kv : Value) (kf : ByteArray → Bool) (H : HF) : Prop := ∀ H1 w1 s, HLe H H1 → Sub H1 w1 → CallV Try.prog kv [.string s] w1 fun v w' => ∃ H2, Grow H1 w1 H2 w' ∧ v = .bool (kf s)
theorem KeepV.mono {kv : Value} {kf : ByteArray → Bool} {H H' : HF} (h : KeepV kv kf H) (hle : HLe H H') : KeepV kv kf H' := fun H1 w1 s h1 => h H1 w1 s (hle.trans h1)
section
variable {xs : List Ent} {y kv : Value} {J Jx : Inv Ent} {kf : ByteArray → Bool}
theorem down_node (hJ : Stable J) (hJx : Stable Jx) (hy : Yields Try.prog y encP xs J Jx) (hyc : y.cells = #[y]) (hkc : kv.cells = #[kv]) {H0 : HF} {w0 : World} {X0 : Nat → Prop} {pre0 rest0 : List Ent} {p : Option Addr} {es : List Ent} {vs : List Value} {K : List (List Ent)} {lo hi : ByteArray}
    (hX0 : ∀ k, X0 k → k < w0.heap.size) (hkv : KeepV kv kf H0) (hp : p ≠ none) (hes : es.length ≤ 1000) (hvs : vs.length ≤ 1000) (hKl : K.length = vs.length) (h0 : es = [] ∨ K.flatten = [])
    (hEnds : ∀ H1, HLe H0 H1 → Fn Try.prog 64 [.pointer p] H1 fun v _ => v = .tuple #[.string lo, .string hi])
    (hEnt : ∀ H1, HLe H0 H1 → Fn Try.prog 65 [.pointer p] H1 fun v H' => IsEnts v es H')
    (hKids : ∀ H1, HLe H0 H1 → Fn Try.prog 66 [.pointer p] H1 fun v H' => IsSl 1 v vs.length vs H')
    (hlo : kf lo = false → ∀ e ∈ es ++ K.flatten, kf e.key = false)
    (hrec : ∀ i, i < vs.length → ∀ H1 w1 X pre rest, HLe H0 H1 → (∀ k, X k → k < w1.heap.size) → Sub H1 w1 → xs = pre ++ downL kf (K.getD i []) ++ rest → J X pre H1 w1 →
      CallW Try.prog 50 [vs.getD i (.pointer none), kv, y].toArray w1 (Went xs J Jx X H1 w1 (pre ++ downL kf (K.getD i []))))
    (hS : Sub H0 w0) (hxs : xs = pre0 ++ downL kf (es ++ K.flatten) ++ rest0) (hj : J X0 pre0 H0 w0) :
    CallW Try.prog 50 [.pointer p, kv, y].toArray w0 (Went xs J Jx X0 H0 w0 (pre0 ++ downL kf (es ++ K.flatten))) := by
  obtain ⟨a, rfl⟩ : ∃ a, p = some a := by cases p with | none => exact absurd rfl hp | some a => exact ⟨a, rfl⟩
  refine CallW_of_CWD Try.func50 rfl Try.ntmps50 Try.results50 rfl ?_
  have hG := Grow.refl hS
  have hI0 := Its.start hS hj
  (refine CWD_seq ?_; refine CWD_region rfl ?_)
  (refine S_op (W_box1 hS (by rfl) (by first | rfl | assumption) ?_)); intro H w _ hG' h4; replace hG := hG.trans hG'; replace hS := hG'.sub; clear hG'
  skip
  (refine S_op (W_box1 hS (by rfl) (by first | rfl | assumption) ?_)); intro H w _ hG' h5; replace hG := hG.trans hG'; replace hS := hG'.sub; replace h4 := hG'.le _ _ h4; clear hG'
  skip
  (refine S_op (W_alloc hS ?_)); intro w c6b hG' c6h c6; replace c6h := Nat.le_trans hG.below.size (Nat.le_of_eq c6h); replace hG := hG.trans hG'; replace hS := hG'.sub; clear hG'
  (refine S_nil ?_; refine CWD_seq ?_; refine CWD_seq ?_; refine CWD_region rfl ?_; refine S_op ?_; refine W_movePtr (by first | rfl | assumption) ?_)
  (refine S_op ?_; refine W_call hS (by rfl) (hEnds _ hG.le) ?_); rintro v H w hG' rfl; replace hG := hG.trans hG'; replace hS := hG'.sub; replace h4 := hG'.le _ _ h4; replace h5 := hG'.le _ _ h5; replace c6 := c6.grow hG'; clear hG'
  (refine S_op ?_; refine W_moveTup (by first | rfl | assumption) ?_; refine S_op ?_; refine W_extract (by first | rfl | assumption) (by rfl) ?_; refine S_op ?_; refine W_extract (by first | rfl | assumption) (by rfl) ?_; refine S_op ?_; refine W_assignStr (by first | rfl | assumption) ?_; refine S_op ?_; refine W_assignStr (by first | rfl | assumption) ?_; refine S_nil ?_; refine CWD_seq ?_; refine CWD_region rfl ?_; refine S_op ?_; refine W_movePtr (by first | rfl | assumption) ?_; refine S_op ?_; refine W_peqnil (by first | rfl | assumption) (by first | rfl | assumption) ?_; refine S_op ?_; refine W_moveBool (by first | rfl | assumption) ?_; refine S_want (by rfl) ?_; refine W_loadHL (by first | rfl | assumption) (by assumption) (by rfl) (by assumption) ?_; refine S_want (by rfl) ?_; refine W_moveStr (by first | rfl | assumption) ?_)
  refine S_want (by rfl) ?_
  refine W_callVal (by rfl) (by rfl) ((hkv H w lo hG.le hS).mono ?_)
  rintro v w ⟨H, hG', rfl⟩
  replace hG := hG.trans hG'
  replace hS := hG'.sub
  replace h4 := hG'.le _ _ h4
  replace h5 := hG'.le _ _ h5
  replace c6 := c6.grow hG'
  clear hG'
  have hfin : downL kf (es ++ K.flatten) = downL kf es ++ downL kf K.flatten := by
    rcases h0 with h | h
    · rw [h]; simp [downL]
    · rw [h]; simp [downL]
  cases hkl : kf lo with
  | false =>
    have e : downL kf (es ++ K.flatten) = [] := by
      have : (es ++ K.flatten).filter (fun e => kf e.key) = [] := by
        rw [List.filter_eq_nil_iff]
        intro x hx
        simp [hlo hkl x hx]
      simp only [downL, this, List.reverse_nil]
    rw [e, List.append_nil]
    (refine S_want (by rfl) ?_; refine W_not (by first | rfl | assumption) ?_; refine S_op ?_; refine W_pickF (by first | rfl | assumption) (by first | rfl | assumption) ?_; refine S_nil ?_; refine CWD_true (by first | rfl | assumption) ?_; refine CWD_seq ?_; refine CWD_region rfl ?_)
    (refine S_op0 (W_storeM (o := 0) (vs := [.bool true]) (by rfl) (by rfl) c6 (by rfl) (OneCells.of_all (by rfl)) (by rfl) (Nat.le_of_ble_eq_true (by rfl)) ?_)); intro w hgb' hm'; replace hG := hG.grownBy hgb' (fun g h => by cases h; exact ⟨c6.out, c6h⟩); replace hS := hG.sub; replace c6 : Mut _ w c6b ([.bool true]) := hm'; clear hm'; clear hgb'
    (refine S_nil ?_; refine CWD_ret ?_)
    exact FinD_nil ⟨_, ResW_v1 (RV_cell1 rfl c6), .inl ⟨rfl, _, _, hI0.step hJ hG⟩⟩
  | true =>
    rw [hfin] at hxs ⊢
    (refine S_want (by rfl) ?_; refine W_not (by first | rfl | assumption) ?_; refine S_op ?_; refine W_pickF (by first | rfl | assumption) (by first | rfl | assumption) ?_; refine S_nil ?_; refine CWD_false (by first | rfl | assumption) ?_; refine CWD_skip ?_; refine CWD_seq ?_; refine CWD_seq ?_; refine CWD_region rfl ?_; refine S_op ?_; refine W_movePtr (by first | rfl | assumption) ?_)
    (refine S_op ?_; refine W_call hS (by rfl) (hEnt _ hG.le) ?_); rintro v H w hG' hv; replace hG := hG.trans hG'; replace hS := hG'.sub; replace h4 := hG'.le _ _ h4; replace h5 := hG'.le _ _ h5; replace c6 := c6.grow hG'; clear hG'
    obtain ⟨A, c, rfl, hc, hl⟩ := hv
    skip
    (refine S_op ?_; refine W_call hS (by rfl) (backE_c H es A c (by omega) hl) ?_); rintro v H w hG' hv; replace hG := hG.trans hG'; replace hS := hG'.sub; replace hl := hl.mono hG'.le; replace h4 := hG'.le _ _ h4; replace h5 := hG'.le _ _ h5; replace c6 := c6.grow hG'; clear hG'
    obtain ⟨gf, lb, hfc, rfl, hit⟩ := hv
    (refine S_nil ?_; refine CWD_block ?_)
    have hI : Its J X0 H0 w0 (orNew X0 w0 w) (pre0 ++ gaveE kf es []) H w := by simpa [gaveE] using hI0.step hJ hG
    refine CWD_rangeBox (S := fun _ => False) (Inn J X0 H0 w0 [c6b] (fun pre => pre0 ++ gaveE kf es pre) (fun _ H2 w2 => HLe H H2 ∧ Mut H2 w2 c6b [.bool false])) (retI (InnX xs Jx X0 H0 w0 [c6b] (fun H2 w2 => Mut H2 w2 c6b [.bool false])))
      (Inn.good hJ hX0 ?_) (retI.stable (InnX.stable hJx hX0 ?_)) ⟨_, hI, fun _ h => h.elim, ?_, HLe.refl _, c6⟩ rfl hS (fun _ => rfl) (by decide) (fun w1 _ => hit H w1 (HLe.refl _)) (fun _ h => h.elim) ?_ ?_ ?_ ?_
    · rintro S pre H w H' w' hs hT ⟨h1, h2⟩
      exact ⟨h1.trans hT.le, h2.turn hT (hs _ (by simp))⟩
    · rintro S pre H w H' w' hs hT h2
      exact h2.turn hT (hs _ (by simp))
    · intro b hb
      simp at hb; subst hb
      exact ⟨fun h => h, .inr ⟨c6h, c6.lt⟩, c6h, c6.lt⟩
    · intro l x H1 W hS
      have hG := Grow.refl hS
      (refine CW_region rfl ?_)
      (refine S_op (W_alloc hS ?_)); intro w c10b hG' c10h c10; replace c10h := Nat.le_trans hG.below.size (Nat.le_of_eq c10h); replace hG := hG.trans hG'; replace hS := hG'.sub; clear hG'
      skip
      (refine S_op0 (W_storeM (o := 0) (vs := [.string (ent es x).key, .string (ent es x).val]) (by rfl) (by rfl) c10 (by rfl) (OneCells.of_all (by rfl)) (by rfl) (Nat.le_of_ble_eq_true (by rfl)) ?_)); intro w hgb' hm'; replace hG := hG.grownBy hgb' (fun g h => by cases h; exact ⟨c10.out, c10h⟩); replace hS := hG.sub; replace c10 : Mut _ w c10b ([.string (ent es x).key, .string (ent es x).val]) := hm'; clear hm'; clear hgb'
      (refine S_nil ?_)
      refine ⟨c10b, _, c10h, hG, c10, ?_⟩
      clear c10 hG hS c6
      rintro l X pre rest H W hx hS ⟨X1, hI, hXi, hbs, hle, c6⟩ ⟨hX10, c10⟩
      replace h4 := hle _ _ h4
      replace h5 := hle _ _ h5
      have hL := Its.start hS hI.has
      have hG := Grow.refl hS
      have h6 := hbs c6b (by simp)
      (refine CW_block ?_; refine CW_seq ?_; refine CW_region rfl ?_; refine S_op ?_; refine W_loadHL (by first | rfl | assumption) (by assumption) (by rfl) (by assumption) ?_; refine S_op ?_; refine W_field (by first | rfl | assumption) ?_; refine S_op ?_; refine W_loadM (by first | rfl | assumption) (by assumption) (by rfl) ?_)
      refine S_op ?_
      refine W_callVal (by rfl) (by rfl) ((hkv H W (ent es x).key hI.le hS).mono ?_)
      rintro v w ⟨H, hG', rfl⟩
      replace hG := hG.trans hG'
      replace hS := hG'.sub
      replace h4 := hG'.le _ _ h4
      replace h5 := hG'.le _ _ h5
      replace c6 := c6.grow hG'
      replace c10 := c10.grow hG'
      replace hle := hle.trans hG'.le
      have hL1 := hL.step hJ hG
      cases hk : kf (ent es x).key with
      | false =>
        have e : pre0 ++ gaveE kf es (pre ++ [x]) = pre0 ++ gaveE kf es pre := by rw [gaveE_next, hk]; simp
        (refine S_op ?_; refine W_moveBool (by first | rfl | assumption) ?_; refine S_pass (by rfl) ?_; refine S_pass (by rfl) ?_; refine S_pass (by rfl) ?_; refine S_pass (by rfl) ?_; refine S_pass (by rfl) ?_; refine S_pass (by rfl) ?_; refine S_pass (by rfl) ?_; refine S_op ?_; refine W_pickF (by first | rfl | assumption) (by first | rfl | assumption) ?_; refine S_nil ?_; refine CW_false (by first | rfl | assumption) ?_; refine CW_skip ?_)
        refine Inn.next (pre' := pre ++ [x]) (g := fun pre => pre0 ++ gaveE kf es pre) (X' := orNew X1 W w) (H' := H) hI hXi hbs ?_ ⟨hle, c6⟩
        show Its _ _ _ _ _ (pre0 ++ gaveE kf es (pre ++ [x])) _ _
        rw [e]; exact hL1
      | true =>
        have e : pre0 ++ gaveE kf es (pre ++ [x]) = pre0 ++ gaveE kf es pre ++ [ent es x] := by rw [gaveE_next, hk]; simp
        have hxs2 : xs = (pre0 ++ gaveE kf es pre) ++ ent es x :: (gaveE kf es rest ++ downL kf K.flatten ++ rest0) := by
          rw [hxs, ← gaveE_all, hx]
          simp [gaveE, downL, hk]
        (refine S_op ?_; refine W_moveBool (by first | rfl | assumption) ?_; refine S_want (by rfl) ?_; refine W_loadHL (by first | rfl | assumption) (by assumption) (by rfl) (by assumption) ?_; refine S_want (by rfl) ?_; refine W_field (by first | rfl | assumption) ?_; refine S_want (by rfl) ?_; refine W_loadM (by first | rfl | assumption) (by assumption) (by rfl) ?_; refine S_want (by rfl) ?_; refine W_field (by first | rfl | assumption) ?_; refine S_want (by rfl) ?_; refine W_loadM (by first | rfl | assumption) (by assumption) (by rfl) ?_)
        refine S_want (by rfl) ?_
        refine W_callVal (by rfl) (by rfl) ((hy.at hxs2 (Its.start hS hL1.has)).mono ?_)
        clear c10 hG hS
        rintro v w4 (⟨rfl, X2, H3, hK⟩ | ⟨rfl, X2, H3, p, r, he, hK⟩)
        · (refine S_want (by rfl) ?_; refine W_not (by first | rfl | assumption) ?_; refine S_op ?_; refine W_pickT (by first | rfl | assumption) (by first | rfl | assumption) ?_; refine S_nil ?_; refine CW_false (by first | rfl | assumption) ?_; refine CW_skip ?_)
          refine Inn.next (pre' := pre ++ [x]) (g := fun pre => pre0 ++ gaveE kf es pre) (X' := X2) (H' := H3) hI hXi hbs ?_ ⟨hle.trans hK.le, c6.turn hK.turn (fun h => h (.inl h6.2.1))⟩
          show Its _ _ _ _ _ (pre0 ++ gaveE kf es (pre ++ [x])) _ _
          rw [e]; exact hL1.trans hK
        · replace c6 := c6.turn hK.turn (fun h => h (.inl h6.2.1))
          have hS := hK.sub
          (refine S_want (by rfl) ?_; refine W_not (by first | rfl | assumption) ?_; refine S_op ?_; refine W_pickT (by first | rfl | assumption) (by first | rfl | assumption) ?_; refine S_nil ?_; refine CW_true (by first | rfl | assumption) ?_; refine CW_seq ?_; refine CW_region rfl ?_)
          refine S_op0 (W_storeM (o := 0) (vs := [.bool false]) (by rfl) (by rfl) c6 (by rfl) (OneCells.of_all (by rfl)) (by rfl) (Nat.le_of_ble_eq_true (by rfl)) ?_)
          intro w5 hgb c7
          have hT5 : Turn (fun k => k = c6b) H3 w4 H3 w5 := (Turn.refl hS).grownBy hgb (fun g h => by cases h; exact ⟨c6.out, .inr rfl⟩)
          (refine S_nil ?_; refine CW_ret ?_)
          exact Inn.stopT (φx := fun H2 w2 => Mut H2 w2 c6b [.bool false]) (pre' := pre ++ [x]) hX0 hJx hI hXi hbs he (hL1.trans hK) hT5 (fun k hk => by simp [hk]) c7
    · rintro D X H w hD hM hS hle' hXs hXD ⟨X1, hI, hXi, hbs, hle, c6⟩
      have h6 := hbs c6b (by simp)
      have hD6 : c6b ≠ D := fun e => h6.1 (by rw [e]; exact hXD)
      have hDX := hXi D hXD
      replace h4 := hle _ _ h4
      replace h5 := hle _ _ h5
      replace hI : Its J X0 H0 w0 X1 (pre0 ++ downL kf es) H w := by
        have h := hI
        simp only [gaveE_all] at h
        exact h
      have hG := Grow.refl hS
      clear hit hle hle' hbs hXs hXi
      (refine CWD_seq ?_; refine CWD_seq ?_; refine CWD_region rfl ?_; refine S_op ?_; refine W_movePtr (by first | rfl | assumption) ?_)
      (refine S_op ?_; refine W_call hS (by rfl) (hKids _ hI.le) ?_); rintro v H w hG' hv; replace hG := hG.trans hG'; replace hS := hG'.sub; replace h4 := hG'.le _ _ h4; replace h5 := hG'.le _ _ h5; replace c6 := c6.grow hG'; replace hM := hM.grow hG'; clear hG'
      obtain ⟨B, d, rfl, hd, hsl, hvl⟩ := hv
      skip
      (refine S_op ?_; refine W_call hS (by rfl) (backV_c H vs B vs.length d rfl (by omega) hsl) ?_); rintro v H w hG' hv; replace hG := hG.trans hG'; replace hS := hG'.sub; replace hsl := hsl.mono hG'.le; replace h4 := hG'.le _ _ h4; replace h5 := hG'.le _ _ h5; replace c6 := c6.grow hG'; replace hM := hM.grow hG'; clear hG'
      obtain ⟨gf2, lb2, hfc2, rfl, hit2⟩ := hv
      (refine S_nil ?_; refine CWD_block ?_)
      replace hI := hI.step hJ hG
      refine CWD_range (S := fun _ => False) (Inn J X0 H0 w0 [c6b, D] (fun pre => pre0 ++ downL kf es ++ gaveV kf K pre) (fun _ H2 w2 => HLe H H2 ∧ Mut H2 w2 c6b [.bool false] ∧ MarkAt H2 w2 D)) (retI (InnX xs Jx X0 H0 w0 [c6b, D] (fun H2 w2 => Mut H2 w2 c6b [.bool false] ∧ MarkAt H2 w2 D)))
        (Inn.good hJ hX0 ?_) (retI.stable (InnX.stable hJx hX0 ?_)) ⟨_, by simpa [gaveV] using hI, fun _ h => h.elim, ?_, HLe.refl _, c6, hM⟩ rfl hS (fun _ => rfl) (by decide) (fun w1 _ => hit2 H w1 (HLe.refl _)) (fun _ h => h.elim) ?_ ?_ ?_ ?_
      · rintro S pre H w H' w' hs hT ⟨h1, h2, h3⟩
        exact ⟨h1.trans hT.le, h2.turn hT (hs _ (by simp)), h3.turn hT (hs _ (by simp))⟩
      · rintro S pre H w H' w' hs hT ⟨h2, h3⟩
        exact ⟨h2.turn hT (hs _ (by simp)), h3.turn hT (hs _ (by simp))⟩
      · intro b hb
        simp at hb
        rcases hb with rfl | rfl
        · exact ⟨fun h => h, .inl h6.2.1, h6.2.2.1, c6.lt⟩
        · exact ⟨fun h => h, .inl hDX.1, hDX.2, hM.lt⟩
      · intro l x W
        (refine CW_region rfl ?_; refine S_op ?_; refine W_assign rfl ?_; refine S_nil ?_)
        refine ⟨rfl, ?_⟩
        clear c6 hM hG hS hI h6
        rintro l X pre rest H W hx hS ⟨X2, hI, hXi, hbs, hle, c6, hM⟩ _
        replace h4 := hle _ _ h4
        replace h5 := hle _ _ h5
        have h6 := hbs c6b (by simp)
        have h7 := hbs D (by simp)
        have hlt : x < vs.length := by
          have : x ∈ downN vs.length := by rw [hx]; simp
          simpa [downN] using this
        have e : pre0 ++ downL kf es ++ gaveV kf K (pre ++ [x]) = pre0 ++ downL kf es ++ gaveV kf K pre ++ downL kf (K.getD x []) := by rw [gaveV_next]; simp
        have hxs2 : xs = (pre0 ++ downL kf es ++ gaveV kf K pre) ++ downL kf (K.getD x []) ++ (gaveV kf K rest ++ rest0) := by
          rw [hxs, ← gaveV_all, hKl, hx]
          simp [gaveV]
        (refine CW_block ?_; refine CW_seq ?_; refine CW_region rfl ?_; refine S_op ?_; refine W_move rfl ?_; refine S_op ?_; refine W_loadHL (by first | rfl | assumption) (by assumption) (by rfl) (by assumption) ?_; refine S_op ?_; refine W_loadHL (by first | rfl | assumption) (by assumption) (by rfl) (by assumption) ?_)
        refine S_op ?_
        refine W_callW (vs := [vs.getD x (.pointer none), kv, y]) (by rfl) ((hrec x hlt H W X2 _ _ hI.le (hI.bnd hX0) hS hxs2 hI.has).mono ?_)
        rintro v w4 (⟨rfl, X3, H3, hK⟩ | ⟨rfl, X3, H3, p, r, he, hK⟩)
        · (refine S_op ?_; refine W_not (by first | rfl | assumption) ?_; refine S_nil ?_; refine CW_false (by first | rfl | assumption) ?_; refine CW_skip ?_)
          refine Inn.next (pre' := pre ++ [x]) (g := fun pre => pre0 ++ downL kf es ++ gaveV kf K pre) (X' := X3) (H' := H3) hI hXi hbs ?_ ⟨hle.trans hK.le, c6.turn hK.turn (fun h => h h6.2.1), hM.turn hK.turn (fun h => h h7.2.1)⟩
          show Its _ _ _ _ _ (pre0 ++ downL kf es ++ gaveV kf K (pre ++ [x])) _ _
          rw [e]; exact hK
        · replace c6 := c6.turn hK.turn (fun h => h h6.2.1)
          replace hM := hM.turn hK.turn (fun h => h h7.2.1)
          have hS := hK.sub
          (refine S_op ?_; refine W_not (by first | rfl | assumption) ?_; refine S_nil ?_; refine CW_true (by first | rfl | assumption) ?_; refine CW_seq ?_; refine CW_region rfl ?_)
          refine S_op0 (W_storeM (o := 0) (vs := [.bool false]) (by rfl) (by rfl) c6 (by rfl) (OneCells.of_all (by rfl)) (by rfl) (Nat.le_of_ble_eq_true (by rfl)) ?_)
          intro w5 hgb c7
          have hT5 : Turn (fun k => k = c6b) H3 w4 H3 w5 := (Turn.refl hS).grownBy hgb (fun g h => by cases h; exact ⟨c6.out, .inr rfl⟩)
          replace hM := hM.other hgb (fun e => hD6 (Option.some.inj e))
          (refine S_nil ?_; refine CW_ret ?_)
          exact Inn.stopT (φx := fun H2 w2 => Mut H2 w2 c6b [.bool false] ∧ MarkAt H2 w2 D) (pre' := pre ++ [x]) hX0 hJx hI hXi hbs he hK hT5 (fun k hk => by simp [hk]) ⟨c7, hM⟩
      · clear c6 hM hG hS hI h6
        rintro E X H w hE hN hS hle' hXs hXE ⟨X3, hI, hXi, hbs, hle, c6, hM⟩
        have h6 := hbs c6b (by simp)
        have h7 := hbs D (by simp)
        have hE6 : c6b ≠ E := fun e => h6.1 (by rw [e]; exact hXE)
        have hne : E ≠ D := fun e => h7.1 (by rw [← e]; exact hXE)
        have hEX := hXi E hXE
        replace hI : Its J X0 H0 w0 X3 (pre0 ++ (downL kf es ++ downL kf K.flatten)) H w := by
          have h := hI
          simp only [← hKl, gaveV_all, List.append_assoc] at h
          exact h
        (refine CWD_seq ?_; refine CWD_region rfl ?_)
        refine S_op0 (W_storeM (o := 0) (vs := [.bool true]) (by rfl) (by rfl) c6 (by rfl) (OneCells.of_all (by rfl)) (by rfl) (Nat.le_of_ble_eq_true (by rfl)) ?_)
        intro w5 hgb c7
        have hT5 : Turn (fun k => k = c6b) H w H w5 := (Turn.refl hS).grownBy hgb (fun g h => by cases h; exact ⟨c6.out, .inr rfl⟩)
        have hI5 := hI.own hJ hT5 (fun k hk => by subst hk; exact ⟨h6.2.1, fun h => by have := hX0 _ h; have := h6.2.2.1; omega⟩)
        replace hM := hM.other hgb (fun e => hD6 (Option.some.inj e))
        replace hN := hN.other hgb (fun e => hE6 (Option.some.inj e))
        (refine S_nil ?_; refine CWD_ret ?_)
        refine FinD_two hM hN hne hT5.sub fun w' hT => ?_
        have hI6 := hI5.own hJ hT (fun k hk => by
          rcases hk with rfl | rfl
          · exact ⟨.inl h7.2.1, fun h => by have := hX0 _ h; have := h7.2.2.1; omega⟩
          · exact ⟨.inl hEX.1, fun h => by have := hX0 _ h; have := hEX.2; omega⟩)
        exact ⟨_, ResW_v1 (RV_cell1 rfl (c7.turn hT (by rintro (e | e); exact hD6 e; exact hE6 e))), .inl ⟨rfl, _, _, hI6⟩⟩
      · clear c6 hM hG hS hI h6
        rintro E X H w pre rest hx hE hN hS hle' hXs hXE ⟨X3, p, r, he, hI, hXi, hbs, c6, hM⟩
        have h6 := hbs c6b (by simp)
        have h7 := hbs D (by simp)
        have hE6 : c6b ≠ E := fun e => h6.1 (by rw [e]; exact hXE)
        have hne : E ≠ D := fun e => h7.1 (by rw [← e]; exact hXE)
        have hEX := hXi E hXE
        skip
        refine FinD_two hM hN hne hS fun w' hT => ?_
        have hI6 := hI.own hJx hT (fun k hk => by
          rcases hk with rfl | rfl
          · exact ⟨h7.2.1, fun h => by have := hX0 _ h; have := h7.2.2.1; omega⟩
          · exact ⟨hEX.1, fun h => by have := hX0 _ h; have := hEX.2; omega⟩)
        exact ⟨_, ResW_v1 (RV_cell1 rfl (c6.turn hT (by rintro (e | e); exact hD6 e; exact hE6 e))), .inr ⟨rfl, _, _, p, r, he, hI6⟩⟩
      · exact fun _ _ _ _ _ _ _ _ _ _ _ _ _ _ h => False.elim h
    · rintro D X H' W' pre rest hx hD hM hS' hle' hXs hXD ⟨X1, p, r, he, hI, hXi, hbs, c6⟩
      skip
      refine FinD_one hM hS' fun w' hT => ?_
      exact ⟨_, ResW_v1 (RV_cell1 rfl (c6.turn hT (fun e => (hbs c6b (by simp)).1 (by rw [e]; exact hXD)))), .inr ⟨rfl, _, _, p, r, he, hI.closed hX0 hJx (hXi D hXD).1 (hXi D hXD).2 hT⟩⟩
    · exact fun _ _ _ _ _ _ _ _ _ _ _ _ _ _ h => False.elim h
end
end Go.Proofs.Ytgaabmoknpifnaa
/- walk.Back and walk.BackFrom, walked. Conditions: none but the tree's. -/
namespace Go.Proofs.Ytgaabmoknpifnaa
open Go.Proofs Go.RowKit
set_option linter.unusedVariables false
attribute [local irreducible] CW CWD SeqW OpW CallV
set_option maxHeartbeats 4000000
section
variable {xs : List Ent} {y kv : Value} {J Jx : Inv Ent} {kf : ByteArray → Bool}
theorem down_nil (hJ : Stable J) (hyc : y.cells = #[y]) (hkc : kv.cells = #[kv]) {H0 : HF} {w0 : World} {X0 : Nat → Prop} {pre : List Ent} (hS : Sub H0 w0) (hj : J X0 pre H0 w0) :
    CallW Try.prog 50 [.pointer none, kv, y].toArray w0 (Went xs J Jx X0 H0 w0 pre) := by
  refine CallW_of_CWD Try.func50 rfl Try.ntmps50 Try.results50 rfl ?_
  have hG := Grow.refl hS
  have hI0 := Its.start hS hj
  (refine CWD_seq ?_; refine CWD_region rfl ?_)
  (refine S_op (W_box1 hS (by rfl) (by first | rfl | assumption) ?_)); intro H w _ hG' h4; replace hG := hG.trans hG'; replace hS := hG'.sub; clear hG'
  skip
  (refine S_op (W_box1 hS (by rfl) (by first | rfl | assumption) ?_)); intro H w _ hG' h5; replace hG := hG.trans hG'; replace hS := hG'.sub; replace h4 := hG'.le _ _ h4; clear hG'
  skip
  (refine S_op (W_alloc hS ?_)); intro w c6b hG' c6h c6; replace c6h := Nat.le_trans hG.below.size (Nat.le_of_eq c6h); replace hG := hG.trans hG'; replace hS := hG'.sub; clear hG'
  (refine S_nil ?_; refine CWD_seq ?_; refine CWD_seq ?_; refine CWD_region rfl ?_; refine S_op ?_; refine W_movePtr (by first | rfl | assumption) ?_)
  (refine S_op ?_; refine W_call hS (by rfl) (ends_nil (H := H)) ?_); rintro v H w hG' rfl; replace hG := hG.trans hG'; replace hS := hG'.sub; replace h4 := hG'.le _ _ h4; replace h5 := hG'.le _ _ h5; replace c6 := c6.grow hG'; clear hG'
  (refine S_op ?_; refine W_moveTup (by first | rfl | assumption) ?_; refine S_op ?_; refine W_extract (by first | rfl | assumption) (by rfl) ?_; refine S_op ?_; refine W_extract (by first | rfl | assumption) (by rfl) ?_; refine S_op ?_; refine W_assignStr (by first | rfl | assumption) ?_; refine S_op ?_; refine W_assignStr (by first | rfl | assumption) ?_; refine S_nil ?_; refine CWD_seq ?_; refine CWD_region rfl ?_; refine S_op ?_; refine W_movePtr (by first | rfl | assumption) ?_; refine S_op ?_; refine W_peqnil (by first | rfl | assumption) (by first | rfl | assumption) ?_; refine S_op ?_; refine W_moveBool (by first | rfl | assumption) ?_; refine S_pass (by rfl) ?_; refine S_pass (by rfl) ?_; refine S_pass (by rfl) ?_; refine S_pass (by rfl) ?_; refine S_op ?_; refine W_pickT (by first | rfl | assumption) (by first | rfl | assumption) ?_; refine S_nil ?_; refine CWD_true (by first | rfl | assumption) ?_; refine CWD_seq ?_; refine CWD_region rfl ?_)
  (refine S_op0 (W_storeM (o := 0) (vs := [.bool true]) (by rfl) (by rfl) c6 (by rfl) (OneCells.of_all (by rfl)) (by rfl) (Nat.le_of_ble_eq_true (by rfl)) ?_)); intro w hgb' hm'; replace hG := hG.grownBy hgb' (fun g h => by cases h; exact ⟨c6.out, c6h⟩); replace hS := hG.sub; replace c6 : Mut _ w c6b ([.bool true]) := hm'; clear hm'; clear hgb'
  (refine S_nil ?_; refine CWD_ret ?_)
  exact FinD_nil ⟨_, ResW_v1 (RV_cell1 rfl c6), .inl ⟨rfl, _, _, hI0.step hJ hG⟩⟩
theorem down_c (hJ : Stable J) (hJx : Stable Jx) (hy : Yields Try.prog y encP xs J Jx) (hyc : y.cells = #[y]) (hkc : kv.cells = #[kv]) (hkd : ∀ a b, slt b a = false → kf b = true → kf a = true) (h : Nat) :
    ∀ (H0 : HF) (w0 : World) (x : Nd h) (X0 : Nat → Prop) (pre rest : List Ent), NodeAt H0 h x → (∀ k, X0 k → k < w0.heap.size) → KeepV kv kf H0 → Sub H0 w0 → xs = pre ++ downL kf (Nd.items h x) ++ rest → J X0 pre H0 w0 →
    CallW Try.prog 50 [x.ptr, kv, y].toArray w0 (Went xs J Jx X0 H0 w0 (pre ++ downL kf (Nd.items h x))) := by
  induction h with
  | zero =>
    intro H0 w0 x X0 pre rest hx hX0 hkv hS hxs hj
    have hxl : x.ents.length ≤ 4 := by have := hx.ok; simp only [Nd.Ok, leafB, Bool.and_eq_true, decide_eq_true_eq] at this; omega
    have e : Nd.items 0 x = x.ents ++ ([] : List (List Ent)).flatten := by simp [Nd.items]
    rw [e] at hxs ⊢
    refine down_node (vs := []) (K := []) hJ hJx hy hyc hkc hX0 hkv (by simp) (by omega) (by simp) rfl (.inr rfl) (fun H1 hle => ends_c (hx.mono hle)) (fun H1 hle => entries_c (hx.mono hle))
      (fun H1 hle => (kids_leaf (hx.mono hle)).mono fun v H' _ hv => ⟨none, 0, hv, Nat.le_refl _, .inl rfl, rfl⟩) ?_ (fun i hi => absurd hi (by simp)) hS hxs hj
    intro hl e he
    cases hk : kf e.key with
    | false => rfl
    | true =>
      have h1 : e ∈ Nd.items 0 x := by simpa [Nd.items] using he
      rw [hkd x.lo e.key (Nd.lo_le hx.ok h1) hk] at hl; cases hl
  | succ h ih =>
    intro H0 w0 x X0 pre rest hx hX0 hkv hS hxs hj
    have hxl := hx.ok.2.1
    have e : Nd.items (h + 1) x = [] ++ (x.kids.map (Nd.items h)).flatten := by simp [Nd.items, List.flatMap]
    have e2 := e
    rw [e] at hxs ⊢
    refine down_node (es := []) (vs := x.kids.map Nd.ptr) (K := x.kids.map (Nd.items h)) hJ hJx hy hyc hkc hX0 hkv (by simp) (by simp) (by simp; omega) (by simp) (.inl rfl) (fun H1 hle => ends_c (hx.mono hle)) (fun H1 hle => entries_c (hx.mono hle))
      (fun H1 hle => (kids_c (hx.mono hle)).mono fun v H' _ hv => by simpa using hv) ?_ ?_ hS hxs hj
    · intro hl e he
      cases hk : kf e.key with
      | false => rfl
      | true =>
        have h1 : e ∈ Nd.items (h + 1) x := by rw [e2]; exact he
        rw [hkd x.lo e.key (Nd.lo_le hx.ok h1) hk] at hl; cases hl
    · intro i hi H1 w1 X pre' rest' hle hX hS1 hxs1 hj1
      have hi2 : i < x.kids.length := by simpa using hi
      have h1 : (x.kids.map Nd.ptr).getD i (.pointer none) = x.kids[i].ptr := by simp [hi2]
      have h2 : (x.kids.map (Nd.items h)).getD i [] = Nd.items h x.kids[i] := by simp [hi2]
      rw [h2] at hxs1 ⊢
      rw [h1]
      exact ih H1 w1 x.kids[i] X pre' rest' ((hx.kids x.kids[i] (List.getElem_mem _)).mono hle) hX (hkv.mono hle) hS1 hxs1 hj1
theorem down_t (hJ : Stable J) (hJx : Stable Jx) (hy : Yields Try.prog y encP xs J Jx) (hyc : y.cells = #[y]) (hkc : kv.cells = #[kv]) (hkd : ∀ a b, slt b a = false → kf b = true → kf a = true) {H0 : HF} {w0 : World} {t : Tr} {X0 : Nat → Prop} (ht : Tr.At H0 t)
    (hX0 : ∀ k, X0 k → k < w0.heap.size) (hkv : KeepV kv kf H0) (hS : Sub H0 w0) (hxs : xs = downL kf t.items) (hj : J X0 [] H0 w0) :
    CallW Try.prog 50 [t.val, kv, y].toArray w0 (Went xs J Jx X0 H0 w0 xs) := by
  cases t with
  | none =>
    have : xs = [] := by rw [hxs]; simp [downL, Tr.items]
    subst this
    exact down_nil hJ hyc hkc hS hj
  | some x =>
    subst hxs
    exact down_c (xs := downL kf (Nd.items x.1 x.2)) hJ hJx hy hyc hkc hkd x.1 H0 w0 x.2 X0 [] [] ht hX0 hkv hS (by simp) hj
end
theorem keepAll_c (H : HF) (s : ByteArray) : Fn Try.prog 54 [.string s] H fun v _ => v = .bool true := by
  refine Fn_of_CW Try.func54 rfl Try.ntmps54 Try.results54 rfl fun w hS => ?_; have hG := Grow.refl hS; have hS0 := hS
  (refine CW_seq ?_; refine CW_region rfl ?_; refine S_op ?_; refine W_assignBool (by first | rfl | assumption) ?_; refine S_nil ?_; refine CW_seq ?_; refine CW_region rfl ?_; refine S_op ?_; refine W_assignBool (by first | rfl | assumption) ?_; refine S_nil ?_; refine CW_ret ?_)
  exact ⟨_, ResW_one (v := .bool _) rfl, H, hG, rfl⟩
theorem sle_eq (s k : ByteArray) : (slt s k || decide (s = k)) = !slt k s := by
  cases h1 : slt k s with
  | true =>
    have h2 := slt_asymm h1
    have h3 := slt_ne h1
    simp [h2, Ne.symm h3]
  | false =>
    cases h2 : slt s k with
    | true => simp
    | false => simp [slt_total h2 h1]
theorem keepTo_c (H : HF) (s k : ByteArray) (b : Nat) (T : TypeId) (hb : H b = some (.cells #[.string k] T (0, 0))) : Fn Try.prog 51 [.string s, .pointer (some ⟨b, 0, none⟩)] H fun v _ => v = .bool (!slt k s) := by
  refine Fn_of_CW Try.func51 rfl Try.ntmps51 Try.results51 rfl fun w hS => ?_; have hG := Grow.refl hS; have hS0 := hS
  (refine CW_seq ?_; refine CW_region rfl ?_; refine S_op ?_; refine W_assignBool (by first | rfl | assumption) ?_; refine S_nil ?_; refine CW_seq ?_; refine CW_region rfl ?_; refine S_op ?_; refine W_moveStr (by first | rfl | assumption) ?_; refine S_op ?_; refine W_loadHL (by first | rfl | assumption) (by assumption) (by rfl) (by assumption) ?_; refine S_op ?_; refine W_sleq (by first | rfl | assumption) (by first | rfl | assumption) ?_; refine S_op ?_; refine W_assignBool (by first | rfl | assumption) ?_; refine S_nil ?_; refine CW_ret ?_)
  exact ⟨_, ResW_one (v := .bool _) rfl, H, hG, by rw [sle_eq]⟩
theorem keepAll_v (H : HF) : KeepV (.func (.func 54) #[] #[]) (fun _ => true) H := fun H1 w1 s _ hS => CallV_func (keepAll_c H1 s w1 hS)
theorem keepTo_v {H : HF} {k : ByteArray} {b : Nat} {T : TypeId} (hb : H b = some (.cells #[.string k] T (0, 0))) : KeepV (.func (.func 51) #[] #[.pointer (some ⟨b, 0, none⟩)]) (fun s => !slt k s) H :=
  fun H1 w1 s hle hS => CallV_func (keepTo_c H1 s k b T (hle _ _ hb) w1 hS)
def toL (k : ByteArray) (l : List Ent) : List Ent := downL (fun s => !slt k s) l
theorem downAll (l : List Ent) : downL (fun _ => true) l = l.reverse := by simp [downL]
theorem back1_it {H : HF} {w : World} {t : Tr} {a : Nat} {T : TypeId} (ht : Tr.At H t) (ha : H a = some (.cells #[t.val] T (0, 0))) :
    IterAt Try.prog 53 [.pointer (some ⟨a, 0, none⟩)] encP t.items.reverse (fun _ => False) H w := by
  intro y J Jx X0 hyc _ hX0 hJ hJx hy hS hj
  refine CallW_of_CW Try.func53 rfl Try.ntmps53 Try.results53 rfl ?_
  have hG := Grow.refl hS
  (refine CW_region rfl ?_; refine S_op ?_; refine W_loadHL (by first | rfl | assumption) (by assumption) (by rfl) (by assumption) ?_; refine S_op ?_; refine W_move rfl ?_)
  refine S_op ?_
  refine W_callW (vs := [t.val, .func (.func 54) #[] #[], y]) (by rfl) ((down_t (kf := fun _ => true) hJ hJx hy hyc rfl (fun _ _ _ _ => rfl) ht hX0 (keepAll_v H) hS (downAll _).symm hj).mono ?_)
  rintro v w' hw
  (refine S_nil ?_)
  exact ⟨_, ResW_zero, Went.end hw⟩
theorem backFrom1_it {H : HF} {w : World} {t : Tr} {k : ByteArray} {a b : Nat} {T U : TypeId} (ht : Tr.At H t) (ha : H a = some (.cells #[t.val] T (0, 0))) (hb : H b = some (.cells #[.string k] U (0, 0))) :
    IterAt Try.prog 49 [.pointer (some ⟨a, 0, none⟩), .pointer (some ⟨b, 0, none⟩)] encP (toL k t.items) (fun _ => False) H w := by
  intro y J Jx X0 hyc _ hX0 hJ hJx hy hS hj
  refine CallW_of_CW Try.func49 rfl Try.ntmps49 Try.results49 rfl ?_
  have hG := Grow.refl hS
  (refine CW_region rfl ?_; refine S_op ?_; refine W_loadHL (by first | rfl | assumption) (by assumption) (by rfl) (by assumption) ?_)
  refine S_op (W_makeFunc rfl rfl ?_)
  (refine S_op ?_; refine W_move rfl ?_)
  refine S_op ?_
  refine W_callW (vs := [t.val, .func (.func 51) #[] #[.pointer (some ⟨b, 0, none⟩)], y]) (by rfl) ((down_t hJ hJx hy hyc rfl ?_ ht hX0 (keepTo_v hb) hS rfl hj).mono ?_)
  · intro a b hab hkb
    cases hka : slt k a with
    | false => rfl
    | true =>
      simp only [Bool.not_eq_true'] at hkb
      have := slt_of_le_of_lt hkb hka
      rw [hab] at this; cases this
  · rintro v w' hw
    (refine S_nil ?_)
    exact ⟨_, ResW_zero, Went.end hw⟩
theorem back_c (H : HF) (t : Tr) (ht : Tr.At H t) : Fn Try.prog 27 [t.val] H fun v H' => IterV Try.prog encP t.items.reverse v H' := by
  have hc := Tr.val_cells t
  refine Fn_of_CW Try.func27 rfl Try.ntmps27 Try.results27 rfl fun w hS => ?_; have hG := Grow.refl hS; have hS0 := hS
  (refine CW_seq ?_; refine CW_region rfl ?_)
  (refine S_op (W_box1 hS (by rfl) (by first | rfl | assumption) ?_)); intro H w _ hG' h1; replace hG := hG.trans hG'; replace hS := hG'.sub; replace ht := ht.mono hG'.le; clear hG'
  (refine S_op ?_; refine W_assign rfl ?_; refine S_nil ?_; refine CW_seq ?_; refine CW_region rfl ?_)
  refine S_op (W_makeFunc rfl rfl ?_)
  (refine S_op ?_; refine W_assignFun (by first | rfl | assumption) ?_; refine S_nil ?_; refine CW_ret ?_)
  exact ⟨_, ResW_one (v := .func _ _ _) rfl, H, hG, _, _, inferInstance, rfl, fun H1 w1 hle => back1_it (ht.mono hle) (hle _ _ h1)⟩
theorem backFrom_c (H : HF) (t : Tr) (k : ByteArray) (ht : Tr.At H t) : Fn Try.prog 22 [t.val, .string k] H fun v H' => IterV Try.prog encP (toL k t.items) v H' := by
  have hc := Tr.val_cells t
  refine Fn_of_CW Try.func22 rfl Try.ntmps22 Try.results22 rfl fun w hS => ?_; have hG := Grow.refl hS; have hS0 := hS
  (refine CW_seq ?_; refine CW_region rfl ?_)
  (refine S_op (W_box1 hS (by rfl) (by first | rfl | assumption) ?_)); intro H w _ hG' h2; replace hG := hG.trans hG'; replace hS := hG'.sub; replace ht := ht.mono hG'.le; clear hG'
  skip
  (refine S_op (W_box1 hS (by rfl) (by first | rfl | assumption) ?_)); intro H w _ hG' h3; replace hG := hG.trans hG'; replace hS := hG'.sub; replace ht := ht.mono hG'.le; replace h2 := hG'.le _ _ h2; clear hG'
  (refine S_op ?_; refine W_assign rfl ?_; refine S_nil ?_; refine CW_seq ?_; refine CW_region rfl ?_)
  refine S_op (W_makeFunc rfl rfl ?_)
  (refine S_op ?_; refine W_assignFun (by first | rfl | assumption) ?_; refine S_nil ?_; refine CW_ret ?_)
  exact ⟨_, ResW_one (v := .func _ _ _) rfl, H, hG, _, _, inferInstance, rfl, fun H1 w1 hle => backFrom1_it (ht.mono hle) (hle _ _ h2) (hle _ _ h3)⟩
end Go.Proofs.Ytgaabmoknpifnaa
