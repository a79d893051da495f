/- tree: put, Put: walked, with what they make. Conditions: sizes. -/
import Derived.Test.YtnjeoobcejlojaaTree2
namespace Go.Proofs.Ytnjeoobcejlojaa
open Go.Proofs Go.RowKit
set_option linter.unusedVariables false
attribute [local irreducible] CW SeqW OpW
set_option maxHeartbeats 4000000
/-- What a node becomes with an entry. -/
structure PutOut (h : Nat) (x : Nd h) (e : Ent) (ks : List (Nd h)) : Prop where
  items : ks.flatMap (Nd.items h) = withL (Nd.items h x) e
  len : ks.length = 1 ∨ ks.length = 2
  full : Nd.full h x = true → ∀ k ∈ ks, Nd.full h k = true
  two : Nd.full h x = true → (Nd.enough h x = true ∨ ks.length = 2) → ∀ k ∈ ks, Nd.enough h k = true
  blocks : ∃ N : List Nat, N.length ≤ 2 * (h + 1) ∧ ∀ k ∈ ks, ∀ b ∈ Nd.blocks h k, b ∈ N ∨ b ∈ Nd.blocks h x
theorem entOk_withL {l : List Ent} {e : Ent} (hl : ∀ x ∈ l, entOk x = true) (he : entOk e = true) : ∀ x ∈ withL l e, entOk x = true := by
  intro x hx
  rcases mem_withL hx with rfl | h
  · exact he
  · exact hl x h
theorem put_leaf {x : Nd 0} {e : Ent} (hx : Nd.Ok 0 x) {out : List (Nd 0)} (hout : leavesOut (withL x.ents e) out) : PutOut 0 x e out := by
  have hb := hx
  simp only [Nd.Ok, leafB, Bool.and_eq_true, decide_eq_true_eq] at hb
  have hlen := withL_length hb.1.2 e
  have h5 : x.ents.length ≤ (withL x.ents e).length ∧ (withL x.ents e).length ≤ x.ents.length + 1 := by rw [hlen]; split <;> omega
  rcases hout with ⟨h1, _⟩ | ⟨h1, h2, b, rfl⟩ | ⟨h1, b1, b2, rfl⟩
  · omega
  · refine ⟨by simp [Nd.items, Nd.ents_leaf], .inl rfl, fun _ k hk => ?_, fun _ he k hk => ?_, [b], by simp, fun k hk q hq => ?_⟩
    · simp at hk; subst hk; rfl
    · rw [List.mem_singleton] at hk; subst hk
      show decide (2 ≤ (withL x.ents e).length) = true
      rw [decide_eq_true_eq]
      rcases he with he | he
      · have he : decide (2 ≤ x.ents.length) = true := he
        rw [decide_eq_true_eq] at he; omega
      · simp at he
    · simp at hk; subst hk
      simp [Nd.blocks, Nd.blk_leaf] at hq
      simp [hq]
  · refine ⟨by simp [Nd.items, Nd.ents_leaf], .inr rfl, fun _ k hk => ?_, fun _ he k hk => ?_, [b1, b2], by simp, fun k hk q hq => ?_⟩
    · simp at hk; rcases hk with rfl | rfl <;> rfl
    · have hh : 2 ≤ half (withL x.ents e).length ∧ half (withL x.ents e).length ≤ (withL x.ents e).length ∧ 2 ≤ (withL x.ents e).length - half (withL x.ents e).length := by unfold half; omega
      simp at hk
      rcases hk with rfl | rfl <;> simp [Nd.enough, Nd.ents_leaf] <;> omega
    · simp at hk
      rcases hk with rfl | rfl <;> simp [Nd.blocks, Nd.blk_leaf] at hq <;> simp [hq]
section
variable {h : Nat} {x : Nd (h + 1)} {e : Ent} {a b sub : List (Nd h)} {m : Nd h}
theorem put_items (hx : Nd.Ok (h + 1) x) (h1 : x.kids = a ++ m :: b) (h3 : Below' (a.flatMap (Nd.items h)) e.key) (h4 : Above (b.flatMap (Nd.items h)) e.key) (hs : PutOut h m e sub) :
    (a ++ sub ++ b).flatMap (Nd.items h) = withL (Nd.items (h + 1) x) e := by
  rw [Nd.withL_kid hx h1 h3 h4, List.flatMap_append, List.flatMap_append, hs.items]
theorem put_branch (hx : Nd.Ok (h + 1) x) (h1 : x.kids = a ++ m :: b) (h3 : Below' (a.flatMap (Nd.items h)) e.key) (h4 : Above (b.flatMap (Nd.items h)) e.key) (hs : PutOut h m e sub)
    {out : List (Nd (h + 1))} (hout : branchesOut (a ++ sub ++ b) out) : PutOut (h + 1) x e out := by
  have hit := put_items hx h1 h3 h4 hs
  have hn : (a ++ sub ++ b).length = a.length + sub.length + b.length := by simp; omega
  have hxn : x.kids.length = a.length + 1 + b.length := by rw [h1]; simp; omega
  have hsl := hs.len
  have hkids : Nd.full (h + 1) x = true → ∀ k ∈ a ++ sub ++ b, Nd.enough h k = true ∧ Nd.full h k = true := by
    intro hf k hk
    have hfk := Nd.full_kids hf
    rw [h1] at hfk
    have hm := hfk m (by simp)
    simp only [List.mem_append] at hk
    rcases hk with (hk | hk) | hk
    · exact hfk k (by simp [hk])
    · exact ⟨hs.two hm.2 (.inl hm.1) k hk, hs.full hm.2 k hk⟩
    · exact hfk k (by simp [hk])
  obtain ⟨N, hN, hNb⟩ := hs.blocks
  have hkb : ∀ k ∈ a ++ sub ++ b, ∀ q ∈ Nd.blocks h k, q ∈ N ∨ q ∈ Nd.blocks (h + 1) x := by
    intro k hk q hq
    simp only [Nd.blocks, List.mem_cons, List.mem_flatMap]
    rw [h1]
    simp only [List.mem_append] at hk
    rcases hk with (hk | hk) | hk
    · exact .inr (.inr ⟨k, by simp [hk], hq⟩)
    · rcases hNb k hk q hq with h | h
      · exact .inl h
      · exact .inr (.inr ⟨m, by simp, h⟩)
    · exact .inr (.inr ⟨k, by simp [hk], hq⟩)
  rcases hout with ⟨h5, h6, g, rfl⟩ | ⟨h5, g1, g2, rfl⟩
  · refine ⟨?_, .inl rfl, fun hf k hk => ?_, fun hf he k hk => ?_, g :: N, by simp; omega, fun k hk q hq => ?_⟩
    · show ([Nd.branch g (a ++ sub ++ b)] : List (Nd (h + 1))).flatMap (fun y => y.kids.flatMap (Nd.items h)) = _
      simp only [List.flatMap_cons, List.flatMap_nil, List.append_nil, Nd.kids_branch]
      exact hit
    · rw [List.mem_singleton] at hk; subst hk
      simp only [Nd.full, Nd.kids_branch, List.all_eq_true, Bool.and_eq_true]
      exact hkids hf
    · rw [List.mem_singleton] at hk; subst hk
      show decide (3 ≤ (a ++ sub ++ b).length) = true
      rw [decide_eq_true_eq]
      rcases he with he | he
      · simp only [Nd.enough, decide_eq_true_eq] at he; omega
      · simp at he
    · rw [List.mem_singleton] at hk; subst hk
      simp only [Nd.blocks, Nd.kids_branch, Nd.blk_branch, List.mem_cons, List.mem_flatMap] at hq
      rcases hq with rfl | ⟨y, hy, hq⟩
      · exact .inl (by simp)
      · rcases hkb y hy q hq with h | h
        · exact .inl (by simp [h])
        · exact .inr h
  · have hsp := List.take_append_drop (half (a ++ sub ++ b).length) (a ++ sub ++ b)
    have hhalf : 3 ≤ half (a ++ sub ++ b).length ∧ half (a ++ sub ++ b).length ≤ (a ++ sub ++ b).length ∧ 3 ≤ (a ++ sub ++ b).length - half (a ++ sub ++ b).length := by unfold half; omega
    generalize a ++ sub ++ b = l at *
    refine ⟨?_, .inr rfl, fun hf k hk => ?_, fun hf he k hk => ?_, g1 :: g2 :: N, by simp; omega, fun k hk q hq => ?_⟩
    · show ([Nd.branch g1 (l.take (half l.length)), Nd.branch g2 (l.drop (half l.length))] : List (Nd (h + 1))).flatMap (fun y => y.kids.flatMap (Nd.items h)) = _
      simp only [List.flatMap_cons, List.flatMap_nil, List.append_nil, Nd.kids_branch]
      rw [← List.flatMap_append, hsp]
      exact hit
    · simp at hk
      rcases hk with rfl | rfl <;> simp only [Nd.full, Nd.kids_branch, List.all_eq_true, Bool.and_eq_true]
      · exact fun k hk => hkids hf k (List.mem_of_mem_take hk)
      · exact fun k hk => hkids hf k (List.mem_of_mem_drop hk)
    · simp at hk
      rcases hk with rfl | rfl <;> simp [Nd.enough, Nd.kids_branch] <;> omega
    · simp at hk
      rcases hk with rfl | rfl <;> simp only [Nd.blocks, Nd.kids_branch, Nd.blk_branch, List.mem_cons, List.mem_flatMap] at hq
      · rcases hq with rfl | ⟨y, hy, hq⟩
        · exact .inl (by simp)
        · rcases hkb y (List.mem_of_mem_take hy) q hq with h | h
          · exact .inl (by simp [h])
          · exact .inr h
      · rcases hq with rfl | ⟨y, hy, hq⟩
        · exact .inl (by simp)
        · rcases hkb y (List.mem_of_mem_drop hy) q hq with h | h
          · exact .inl (by simp [h])
          · exact .inr h
end
theorem nds_of {H : HF} {h : Nat} {v : Value} {l : List (Nd h)} (hv : IsSl 1 v l.length (l.map Nd.ptr) H) (hl : AllAt H h l) : NdsAt H h v l := by
  obtain ⟨A, c, rfl, h2, h3, h4⟩ := hv
  exact ⟨A, c, rfl, h2, h3, hl⟩
theorem put_c (h : Nat) : ∀ (H : HF) (x : Nd h) (e : Ent), NodeAt H h x → entOk e = true → h ≤ 800000 →
    Fn Try.prog 72 [x.ptr, .agg #[.string e.key, .string e.val]] H fun v H' => ∃ ks, NdsAt H' h v ks ∧ PutOut h x e ks ∧ ∀ k ∈ ks, H k.blk = none := by
  induction h with
  | zero =>
    intro H x e hx he hh
    refine Fn_of_CW Try.func72 rfl Try.ntmps72 Try.results72 rfl fun w hS => ?_; have hG := Grow.refl hS; have hS0 := hS
    (refine CW_seq ?_; refine CW_region rfl ?_)
    (refine S_op (W_boxAgg hS (by rfl) ?_)); intro H w _ hG' hb; replace hG := hG.trans hG'; replace hS := hG'.sub; replace hx := hx.mono hG'.le; clear hG'
    (refine S_op ?_; refine W_assignSl (by first | rfl | assumption) ?_; refine S_nil ?_; refine CW_seq ?_; refine CW_seq ?_; refine CW_region rfl ?_; refine S_op ?_; refine W_movePtr (by first | rfl | assumption) ?_)
    (refine S_op ?_; refine W_call hS (by rfl) (height_c hx) ?_); rintro v H w hG' rfl; replace hG := hG.trans hG'; replace hS := hG'.sub; replace hx := hx.mono hG'.le; replace hb := hG'.le _ _ hb; clear hG'
    have hok := hx.ok
    have hok2 := hok
    simp only [Nd.Ok, leafB, Bool.and_eq_true, decide_eq_true_eq] at hok2
    have hr := rise_withL e hok2.1.2
    have hoe := entOk_withL (Nd.ok_ents hok) he
    have hwl := withL_length_le x.ents e
    have hle := hG.le
    (refine S_op ?_; refine W_leqT (by first | rfl | assumption) (by first | rfl | assumption) (by first | omega | rfl) ?_; refine S_nil ?_; refine CW_true (by first | rfl | assumption) ?_; refine CW_seq ?_)
    apply CW_region_grow [_, _, _, _, _, _] [none, none, none, none, none, none] [some 10, some 11, some 12, some 13, some 14, some 4] [10, 11, 12, 13, 14, 4] mixed rfl rfl rfl rfl (by decide) rfl (by assumption)
    · ((apply steps_cons; case h1 => (apply A_pure; intro c u H' w' hG; have hS' := hG.sub; have hS2' := hG.subOld; (repeat (first | refine depGo_eq rfl rfl rfl ?_ | (refine depGo_fact rfl rfl rfl ?_; intro v hv) | refine depGo_skip rfl ?_ | refine depGo_none rfl ?_)); apply Pure1.mk; intro K hk; exact W_movePtr (by first | rfl | assumption) hk)))
      (apply steps_cons; case h1 => (refine A_fact (φ := (fun v H => IsEnts v x.ents H)) ?_; intro c' u H' w' hG; have hS' := hG.sub; (repeat (first | refine depGo_eq rfl rfl rfl ?_ | (refine depGo_fact rfl rfl rfl ?_; intro v hv) | refine depGo_skip rfl ?_ | refine depGo_none rfl ?_)); refine depGo_nil ?_; refine W_call hS' (by rfl) (entries_c (hx.mono hG.le)) ?_; intro v H3 w3 hG3 hr; exact ⟨H3, hG3.le, hG.trans hG3, fun H'' hle => hr.mono hle⟩))
      ((apply steps_cons; case h1 => (apply A_pure; intro c u H' w' hG; have hS' := hG.sub; have hS2' := hG.subOld; (repeat (first | refine depGo_eq rfl rfl rfl ?_ | (refine depGo_fact rfl rfl rfl ?_; intro v hv) | refine depGo_skip rfl ?_ | refine depGo_none rfl ?_)); apply Pure1.mk; intro K hk; exact W_loadWhole (by first | rfl | assumption) (by assumption) (by rfl) (by assumption) hk)))
      (apply steps_cons; case h1 => (refine A_fact (φ := (fun v H => IsEnts v (withL x.ents e) H)) ?_; intro c' u H' w' hG'; have hS' := hG'.sub; (repeat (first | refine depGo_eq rfl rfl rfl ?_ | (refine depGo_fact rfl rfl rfl ?_; intro v hv) | refine depGo_skip rfl ?_ | refine depGo_none rfl ?_)); obtain ⟨A1, c1, rfl, hc1, hl1⟩ := hv; refine depGo_nil ?_; refine W_call hS' (by rfl) (with_c H' A1 c1 x.ents e hl1 hc1 (by omega)) ?_; intro v H3 w3 hG3 hr; exact ⟨H3, hG3.le, hG'.trans hG3, fun H'' hle => hr.mono hle⟩))
      (apply steps_cons; case h1 => (refine A_fact (φ := (fun v H3 => ∃ out, NdsAt H3 0 v out ∧ leavesOut (withL x.ents e) out ∧ ∀ k ∈ out, H k.blk = none)) ?_; intro c' u H' w' hG'; have hS' := hG'.sub; (repeat (first | refine depGo_eq rfl rfl rfl ?_ | (refine depGo_fact rfl rfl rfl ?_; intro v hv) | refine depGo_skip rfl ?_ | refine depGo_none rfl ?_)); obtain ⟨A1, c1, rfl, hc1, hl1⟩ := hv; refine depGo_nil ?_; refine W_call hS' (by rfl) (leaves_c H' A1 c1 (withL x.ents e) hl1 hc1 hr hoe (by omega)) ?_; intro v H3 w3 hG3 hr; exact ⟨H3, hG3.le, hG'.trans hG3, fun H'' hle => (by
          obtain ⟨out, h1, h2, h3⟩ := hr
          exact ⟨out, h1.mono hle, h2, fun k hk => hG'.le.none (h3 k hk)⟩)⟩))
      apply steps_cons; case h1 => (refine A_fact (φ := (fun v H3 => ∃ out, NdsAt H3 0 v out ∧ leavesOut (withL x.ents e) out ∧ ∀ k ∈ out, H k.blk = none)) ?_; intro c u H' w' hG; (repeat (first | refine depGo_eq rfl rfl rfl ?_ | (refine depGo_fact rfl rfl rfl ?_; intro v hv) | refine depGo_skip rfl ?_ | refine depGo_none rfl ?_)); refine depGo_nil ?_; refine W_assign (by rfl) ?_; exact ⟨H', HLe.refl _, hG, fun H'' hle => (fun ⟨out, h1, h2, h3⟩ hle => ⟨out, h1.mono hle, h2, h3⟩) hv hle⟩)
      exact trivial
    · intro H' w' hG'
      (repeat (first | refine fin_eq rfl rfl ?_ | (refine fin_fact rfl ?_; intro v hv) | refine fin_none rfl ?_)); refine fin_nil ?_
      (refine CW_ret ?_)
      obtain ⟨out, h1, h2, h3⟩ := hv
      exact ⟨_, ResW_one (v := v) rfl, H', hG.trans hG', out, h1, put_leaf hok h2, fun k hk => hle.none (h3 k hk)⟩
  | succ h ih =>
    intro H x e hx he hh
    refine Fn_of_CW Try.func72 rfl Try.ntmps72 Try.results72 rfl fun w hS => ?_; have hG := Grow.refl hS; have hS0 := hS
    (refine CW_seq ?_; refine CW_region rfl ?_)
    (refine S_op (W_boxAgg hS (by rfl) ?_)); intro H w _ hG' hb; replace hG := hG.trans hG'; replace hS := hG'.sub; replace hx := hx.mono hG'.le; clear hG'
    (refine S_op ?_; refine W_assignSl (by first | rfl | assumption) ?_; refine S_nil ?_; refine CW_seq ?_; refine CW_seq ?_; refine CW_region rfl ?_; refine S_op ?_; refine W_movePtr (by first | rfl | assumption) ?_)
    (refine S_op ?_; refine W_call hS (by rfl) (height_c hx) ?_); rintro v H w hG' rfl; replace hG := hG.trans hG'; replace hS := hG'.sub; replace hx := hx.mono hG'.le; replace hb := hG'.le _ _ hb; clear hG'
    (refine S_op ?_; refine W_leqF (by first | rfl | assumption) (by first | rfl | assumption) (by first | omega | rfl) ?_; refine S_nil ?_; refine CW_false (by first | rfl | assumption) ?_; refine CW_skip ?_; refine CW_seq ?_; refine CW_region rfl ?_; refine S_op ?_; refine W_movePtr (by first | rfl | assumption) ?_)
    (refine S_op ?_; refine W_call hS (by rfl) (kids_c hx) ?_); rintro v H w hG' hv; replace hG := hG.trans hG'; replace hS := hG'.sub; replace hx := hx.mono hG'.le; replace hb := hG'.le _ _ hb; clear hG'
    obtain ⟨B, d, rfl, hd, hsl, _⟩ := hv
    have hok := hx.ok
    have h6 := hok.2.1
    (refine S_op ?_; refine W_assignSl (by first | rfl | assumption) ?_; refine S_nil ?_; refine CW_seq ?_; refine CW_region rfl ?_; refine S_op ?_; refine W_moveSl (by first | rfl | assumption) ?_; refine S_op ?_; refine W_field (by first | rfl | assumption) ?_; refine S_op ?_; refine W_loadHL (by first | rfl | assumption) (by assumption) (by rfl) (by assumption) ?_)
    (refine S_op ?_; refine W_call hS (by rfl) (kid_c H B d h x.kids e.key hsl hx.kids (by omega)) ?_); rintro v H w hG' rfl; replace hG := hG.trans hG'; replace hS := hG'.sub; replace hx := hx.mono hG'.le; replace hsl := hsl.mono hG'.le; replace hb := hG'.le _ _ hb; clear hG'
    obtain ⟨a, b, h1, h2, h3, h4, _, _⟩ := Nd.kidOf_split hok e.key
    generalize Nd.kidOf x e.key = m at *
    have hq : a.length < x.kids.length := by rw [h1]; simp
    have hget : (x.kids.map Nd.ptr)[a.length * 1]? = some m.ptr := by rw [h1]; simp
    obtain ⟨bb, off, hA, hrow⟩ := slAt_some hsl hq
    have hm : NodeAt H h m := hx.kids m (by rw [h1]; simp)
    have hka : AllAt H h a := fun k hk => hx.kids k (by rw [h1]; simp [hk])
    have hkb : AllAt H h b := fun k hk => hx.kids k (by rw [h1]; simp [hk])
    have hbl : x.kids.length - (a.length + 1) = b.length := by rw [h1]; simp; omega
    have hxn : x.kids.length = a.length + 1 + b.length := by rw [h1]; simp; omega
    have hs1 : SlAt H B (a.map Nd.ptr) := by have := SlAt.take hsl a.length; rw [h1] at this; simpa using this
    have hs2 : SlAt H (slAddr B d (a.length + 1) 1) (b.map Nd.ptr) := by
      have := SlAt.drop (l := a.length + 1) (sz := 1) hsl (by simp) hd
      rw [h1] at this
      rw [show (List.map Nd.ptr (a ++ m :: b)).drop ((a.length + 1) * 1) = b.map Nd.ptr by
        rw [Nat.mul_one, List.map_append, List.map_cons, List.drop_append, List.length_map, List.drop_eq_nil_of_le (by simp)]
        simp [show a.length + 1 - a.length = 1 by omega]] at this
      exact this
    have hle := hG.le
    rw [h2]
    (refine S_op ?_; refine W_assignInt (by first | rfl | assumption) ?_; refine S_nil ?_; refine CW_seq ?_)
    apply CW_region_grow [_, _, _, _, _, _, _, _, _, _, _, _, _, _, _, _, _] [none, none, none, none, none, none, none, none, none, none, none, none, none, none, none, none, none] [some 21, some 22, some 23, some 24, some 25, some 26, some 27, some 28, some 29, some 30, some 31, some 32, some 33, some 34, some 35, some 36, some 4] [21, 22, 23, 24, 25, 26, 27, 28, 29, 30, 31, 32, 33, 34, 35, 36, 4] mixed rfl rfl rfl rfl (by decide) rfl (by assumption)
    · ((apply steps_cons; case h1 => (apply A_pure; intro c u H' w' hG; have hS' := hG.sub; have hS2' := hG.subOld; (repeat (first | refine depGo_eq rfl rfl rfl ?_ | (refine depGo_fact rfl rfl rfl ?_; intro v hv) | refine depGo_skip rfl ?_ | refine depGo_none rfl ?_)); apply Pure1.mk; intro K hk; exact W_moveSl (by first | rfl | assumption) hk)); (apply steps_cons; case h1 => (apply A_pure; intro c u H' w' hG; have hS' := hG.sub; have hS2' := hG.subOld; (repeat (first | refine depGo_eq rfl rfl rfl ?_ | (refine depGo_fact rfl rfl rfl ?_; intro v hv) | refine depGo_skip rfl ?_ | refine depGo_none rfl ?_)); apply Pure1.mk; intro K hk; exact W_moveInt (by first | rfl | assumption) hk)); (apply steps_cons; case h1 => (apply A_pure; intro c u H' w' hG; have hS' := hG.sub; have hS2' := hG.subOld; (repeat (first | refine depGo_eq rfl rfl rfl ?_ | (refine depGo_fact rfl rfl rfl ?_; intro v hv) | refine depGo_skip rfl ?_ | refine depGo_none rfl ?_)); apply Pure1.mk; intro K hk; exact W_sliceHi (by first | rfl | assumption) (by first | rfl | assumption) (by omega) hk)); (apply steps_cons; case h1 => (apply A_pure; intro c u H' w' hG; have hS' := hG.sub; have hS2' := hG.subOld; (repeat (first | refine depGo_eq rfl rfl rfl ?_ | (refine depGo_fact rfl rfl rfl ?_; intro v hv) | refine depGo_skip rfl ?_ | refine depGo_none rfl ?_)); apply Pure1.mk; intro K hk; exact W_moveSl (by first | rfl | assumption) hk)); (apply steps_cons; case h1 => (apply A_pure; intro c u H' w' hG; have hS' := hG.sub; have hS2' := hG.subOld; (repeat (first | refine depGo_eq rfl rfl rfl ?_ | (refine depGo_fact rfl rfl rfl ?_; intro v hv) | refine depGo_skip rfl ?_ | refine depGo_none rfl ?_)); apply Pure1.mk; intro K hk; exact W_moveInt (by first | rfl | assumption) hk)); (apply steps_cons; case h1 => (apply A_pure; intro c u H' w' hG; have hS' := hG.sub; have hS2' := hG.subOld; (repeat (first | refine depGo_eq rfl rfl rfl ?_ | (refine depGo_fact rfl rfl rfl ?_; intro v hv) | refine depGo_skip rfl ?_ | refine depGo_none rfl ?_)); apply Pure1.mk; intro K hk; exact W_index (by first | rfl | assumption) (by first | rfl | assumption) (by first | assumption | omega | decide) (by first | rfl | assumption) hk)))
      apply steps_cons; case h1 => (apply A_pure; intro c u H' w' hG'; have hS2' := hG'.subOld; (repeat (first | refine depGo_eq rfl rfl rfl ?_ | (refine depGo_fact rfl rfl rfl ?_; intro v hv) | refine depGo_skip rfl ?_ | refine depGo_none rfl ?_)); apply Pure1.mk; intro K hk; exact W_loadRow (j := a.length * 1) (by rfl) hrow hget hS2' hk)
      ((apply steps_cons; case h1 => (apply A_pure; intro c u H' w' hG; have hS' := hG.sub; have hS2' := hG.subOld; (repeat (first | refine depGo_eq rfl rfl rfl ?_ | (refine depGo_fact rfl rfl rfl ?_; intro v hv) | refine depGo_skip rfl ?_ | refine depGo_none rfl ?_)); apply Pure1.mk; intro K hk; exact W_loadWhole (by first | rfl | assumption) (by assumption) (by rfl) (by assumption) hk)))
      (apply steps_cons; case h1 => (refine A_fact (φ := (fun v H3 => ∃ sub, NdsAt H3 h v sub ∧ PutOut h m e sub)) ?_; intro c' u H' w' hG; have hS' := hG.sub; (repeat (first | refine depGo_eq rfl rfl rfl ?_ | (refine depGo_fact rfl rfl rfl ?_; intro v hv) | refine depGo_skip rfl ?_ | refine depGo_none rfl ?_)); refine depGo_nil ?_; refine W_call hS' (by rfl) (ih H' m e (hm.mono hG.le) he (by omega)) ?_; intro v H3 w3 hG3 hr; exact ⟨H3, hG3.le, hG.trans hG3, fun H'' hle => (by
          obtain ⟨sub, h1, h2, h3⟩ := hr
          exact ⟨sub, h1.mono hle, h2⟩)⟩))
      ((apply steps_cons; case h1 => (apply A_pure; intro c u H' w' hG; have hS' := hG.sub; have hS2' := hG.subOld; (repeat (first | refine depGo_eq rfl rfl rfl ?_ | (refine depGo_fact rfl rfl rfl ?_; intro v hv) | refine depGo_skip rfl ?_ | refine depGo_none rfl ?_)); apply Pure1.mk; intro K hk; exact W_moveSl (by first | rfl | assumption) hk)); (apply steps_cons; case h1 => (apply A_pure; intro c u H' w' hG; have hS' := hG.sub; have hS2' := hG.subOld; (repeat (first | refine depGo_eq rfl rfl rfl ?_ | (refine depGo_fact rfl rfl rfl ?_; intro v hv) | refine depGo_skip rfl ?_ | refine depGo_none rfl ?_)); apply Pure1.mk; intro K hk; exact W_moveInt (by first | rfl | assumption) hk)); (apply steps_cons; case h1 => (apply A_pure; intro c u H' w' hG; have hS' := hG.sub; have hS2' := hG.subOld; (repeat (first | refine depGo_eq rfl rfl rfl ?_ | (refine depGo_fact rfl rfl rfl ?_; intro v hv) | refine depGo_skip rfl ?_ | refine depGo_none rfl ?_)); apply Pure1.mk; intro K hk; exact W_add1 (by first | rfl | assumption) (by omega) hk)); (apply steps_cons; case h1 => (apply A_pure; intro c u H' w' hG; have hS' := hG.sub; have hS2' := hG.subOld; (repeat (first | refine depGo_eq rfl rfl rfl ?_ | (refine depGo_fact rfl rfl rfl ?_; intro v hv) | refine depGo_skip rfl ?_ | refine depGo_none rfl ?_)); apply Pure1.mk; intro K hk; exact W_sliceLo (by first | rfl | assumption) (by first | rfl | assumption) (by omega) hk)))
      apply steps_cons
      · refine A_fact (φ := fun v H3 => ∃ sub, IsCat 1 v 3 (a.length + (sub.length + b.length)) (a.map Nd.ptr ++ (sub.map Nd.ptr ++ b.map Nd.ptr)) H3 ∧ AllAt H3 h sub ∧ PutOut h m e sub) ?_
        intro c' u H' w' hG'
        have hS' := hG'.sub
        (repeat (first | refine depGo_eq rfl rfl rfl ?_ | (refine depGo_fact rfl rfl rfl ?_; intro v hv) | refine depGo_skip rfl ?_ | refine depGo_none rfl ?_))
        obtain ⟨sub, ⟨B2, d2, rfl, hd2, hsl2, hk2⟩, hp⟩ := hv
        have i1 : IsSl 1 (.slice B a.length d) a.length (a.map Nd.ptr) H' := ⟨B, d, rfl, by omega, hs1.mono hG'.le, by simp⟩
        have i2 : IsSl 1 (.slice B2 sub.length d2) sub.length (sub.map Nd.ptr) H' := ⟨B2, d2, rfl, hd2, hsl2, by simp⟩
        have i3 : IsSl 1 (.slice (slAddr B d (a.length + 1) 1) (x.kids.length - (a.length + 1)) (d - (a.length + 1))) b.length (b.map Nd.ptr) H' := ⟨_, _, by rw [hbl], by omega, hs2.mono hG'.le, by simp⟩
        refine depGo_nil ?_
        refine W_buildOnes hS' (by omega) (by rfl) (by rfl) ?_
        intro H3 w3 g hG3 hb3 _ _
        exact ⟨H3, hG3.le, hG'.trans hG3, fun H'' hle => ⟨sub, (isCat3 hb3 hG3.le i1 i2 i3 (ptr_one _) (ptr_one _) (ptr_one _)).mono hle, (hk2.mono hG3.le).mono hle, hp⟩⟩
      (apply steps_cons; case h1 => (refine A_fact (φ := (fun v H3 => ∃ sub, NdsAt H3 h v (a ++ sub ++ b) ∧ PutOut h m e sub)) ?_; intro c' u H' w' hG'; have hS' := hG'.sub; (repeat (first | refine depGo_eq rfl rfl rfl ?_ | (refine depGo_fact rfl rfl rfl ?_; intro v hv) | refine depGo_skip rfl ?_ | refine depGo_none rfl ?_)); rename_i v1 hv1; obtain ⟨sub, hcat, hk2, hp⟩ := hv1; refine depGo_nil ?_; refine W_call hS' (by rfl) ((have hsn := hp.len; cat_Node H' _ _ _ _ hcat (by omega) (by omega))) ?_; intro v H3 w3 hG3 hr; exact ⟨H3, hG3.le, hG'.trans hG3, fun H'' hle => ⟨sub, nds_of (by
          have e1 : (a ++ sub ++ b).length = a.length + (sub.length + b.length) := by rw [List.length_append, List.length_append]; omega
          rw [e1, List.map_append, List.map_append, List.append_assoc]; exact hr.mono hle) (((hka.mono hG'.le).append hk2).append (hkb.mono hG'.le) |>.mono hG3.le |>.mono hle), hp⟩⟩))
      (apply steps_cons; case h1 => (refine A_fact (φ := (fun v H3 => ∃ sub out, NdsAt H3 (h + 1) v out ∧ branchesOut (a ++ sub ++ b) out ∧ PutOut h m e sub ∧ ∀ k ∈ out, H k.blk = none)) ?_; intro c' u H' w' hG'; have hS' := hG'.sub; (repeat (first | refine depGo_eq rfl rfl rfl ?_ | (refine depGo_fact rfl rfl rfl ?_; intro v hv) | refine depGo_skip rfl ?_ | refine depGo_none rfl ?_)); obtain ⟨sub, ⟨B3, d3, rfl, hd3, hsl3, hk3⟩, hp⟩ := hv; refine depGo_nil ?_; refine W_call hS' (by rfl) ((branches_c H' B3 d3 h (a ++ sub ++ b) hsl3 hk3 hd3 (by have hsn := hp.len; have h5 := hok.1; simp; omega) (by have hsn := hp.len; simp; omega) ((Nd.chain_iff hk3.ok).2 (by rw [put_items hok h1 h3 h4 hp]; exact rise_withL e hok.2.2.2)) (by omega))) ?_; intro v H3 w3 hG3 hr; exact ⟨H3, hG3.le, hG'.trans hG3, fun H'' hle => (by
          obtain ⟨out, q1, q2, q3⟩ := hr
          exact ⟨sub, out, q1.mono hle, q2, hp, fun k hk => hG'.le.none (q3 k hk)⟩)⟩))
      apply steps_cons; case h1 => (refine A_fact (φ := (fun v H3 => ∃ sub out, NdsAt H3 (h + 1) v out ∧ branchesOut (a ++ sub ++ b) out ∧ PutOut h m e sub ∧ ∀ k ∈ out, H k.blk = none)) ?_; intro c u H' w' hG; (repeat (first | refine depGo_eq rfl rfl rfl ?_ | (refine depGo_fact rfl rfl rfl ?_; intro v hv) | refine depGo_skip rfl ?_ | refine depGo_none rfl ?_)); refine depGo_nil ?_; refine W_assign (by rfl) ?_; exact ⟨H', HLe.refl _, hG, fun H'' hle => (fun ⟨sub, out, q1, q2, q3, q4⟩ hle => ⟨sub, out, q1.mono hle, q2, q3, q4⟩) hv hle⟩)
      exact trivial
    · intro H' w' hG'
      (repeat (first | refine fin_eq rfl rfl ?_ | (refine fin_fact rfl ?_; intro v hv) | refine fin_none rfl ?_)); refine fin_nil ?_
      (refine CW_ret ?_)
      obtain ⟨sub, out, q1, q2, q3, q4⟩ := hv
      exact ⟨_, ResW_one (v := v) rfl, H', hG.trans hG', out, q1, put_branch hok h1 h3 h4 q3 q2, fun k hk => hle.none (q4 k hk)⟩
/-! ### Put -/
def Tr.blocks : Tr → List Nat
  | none => []
  | some x => Nd.blocks x.1 x.2
structure Putted (H : HF) (t : Tr) (e : Ent) (t' : Tr) : Prop where
  items : t'.items = withL t.items e
  full : t.full = true → t'.full = true
  same : look t.items e.key = some e → t' = t
  fresh : look t.items e.key ≠ some e → ∃ (h : Nat) (x : Nd h), t' = trOf x ∧ H x.blk = none
  blocks : ∃ N : List Nat, N.length ≤ 2 * t.height + 1 ∧ ∀ b ∈ t'.blocks, b ∈ N ∨ b ∈ t.blocks
theorem Tr.At.ok {H : HF} {t : Tr} (ht : Tr.At H t) : riseB t.items = true ∧ ∀ e ∈ t.items, entOk e = true := by
  cases t with
  | none => exact ⟨rfl, by intro e he; cases he⟩
  | some x => exact ⟨(Nd.ok_len (NodeAt.ok ht)).2, Nd.ok_ents (NodeAt.ok ht)⟩
theorem withL_same {l : List Ent} (hr : riseB l = true) {e : Ent} (h : look l e.key = some e) : withL l e = l := by
  rcases split_at hr e.key with ⟨p, q, rfl, h1, h2⟩ | ⟨p, x, q, rfl, h1, hx, h2⟩
  · rw [look_no h1 h2] at h; cases h
  · rw [look_yes h1 hx h2] at h
    cases h
    rw [withL_yes h1 rfl h2]
theorem look_iff {l : List Ent} {e : Ent} : look l e.key = some e ↔ lookB l e.key = true ∧ lookV l e.key = e.val := by
  cases hl : look l e.key with
  | none => simp [lookB, hl]
  | some x =>
    have hk := (look_at hl).2.2.2
    simp only [lookB, lookV, hl, Option.isSome_some, Option.map_some, Option.getD_some, true_and, Option.some.injEq]
    constructor
    · intro h; rw [h]
    · intro h; cases x; cases e; simp_all
theorem putted_same {H : HF} {t : Tr} {e : Ent} (ht : Tr.At H t) (h : look t.items e.key = some e) : Putted H t e t :=
  ⟨(withL_same ht.ok.1 h).symm, fun h => h, fun _ => rfl, fun h2 => absurd h h2, [], by simp, fun b hb => .inr hb⟩
theorem putted_one {H : HF} {h : Nat} {x y : Nd h} {e : Ent} (hp : PutOut h x e [y]) (hf : H y.blk = none) (hn : look (Nd.items h x) e.key ≠ some e) : Putted H (trOf x) e (trOf y) := by
  obtain ⟨N, hN, hb⟩ := hp.blocks
  refine ⟨by have := hp.items; rw [List.flatMap_singleton] at this; exact this, fun hfx => hp.full hfx y (by simp), fun h => absurd h hn, fun _ => ⟨h, y, rfl, hf⟩, N, by simp [Tr.height, trOf]; omega, fun b hb2 => hb y (by simp) b hb2⟩
theorem putted_two {H : HF} {h : Nat} {x y z : Nd h} {e : Ent} {g : Nat} (hp : PutOut h x e [y, z]) (hf : H g = none) (hn : look (Nd.items h x) e.key ≠ some e) : Putted H (trOf x) e (trOf (Nd.branch g [y, z])) := by
  obtain ⟨N, hN, hb⟩ := hp.blocks
  refine ⟨?_, fun hfx => ?_, fun h => absurd h hn, fun _ => ⟨h + 1, _, rfl, hf⟩, g :: N, by simp [Tr.height, trOf]; omega, fun b hb2 => ?_⟩
  · have := hp.items
    show ([y, z] : List (Nd h)).flatMap (Nd.items h) = _
    exact this
  · show ([y, z] : List (Nd h)).all (fun k => Nd.enough h k && Nd.full h k) = true
    simp only [List.all_eq_true, Bool.and_eq_true]
    exact fun k hk => ⟨hp.two hfx (.inr rfl) k hk, hp.full hfx k hk⟩
  · have hb2 : b ∈ Nd.blocks (h + 1) (Nd.branch g [y, z]) := hb2
    simp only [Nd.blocks, Nd.kids_branch, Nd.blk_branch, List.mem_cons, List.mem_flatMap] at hb2
    rcases hb2 with rfl | ⟨k, hk, hb2⟩
    · exact .inl (by simp)
    · rcases hb k (by simpa using hk) b hb2 with h | h
      · exact .inl (by simp [h])
      · exact .inr h
theorem putted_nil {H : HF} {e : Ent} {b : Nat} (hf : H b = none) : Putted H none e (trOf (Nd.leaf b [e])) :=
  ⟨rfl, fun _ => rfl, fun h => (by cases h), fun _ => ⟨0, _, rfl, hf⟩, [b], by simp [Tr.height], fun q hq => .inl hq⟩
theorem Putted.old {H0 H : HF} {t t' : Tr} {e : Ent} (h : Putted H t e t') (hle : HLe H0 H) : Putted H0 t e t' :=
  ⟨h.items, h.full, h.same, fun hn => by
    obtain ⟨k, x, h1, h2⟩ := h.fresh hn
    exact ⟨k, x, h1, hle.none h2⟩, h.blocks⟩
theorem put_nil_c (H : HF) (e : Ent) (he : entOk e = true) : Fn Try.prog 72 [.pointer none, .agg #[.string e.key, .string e.val]] H fun v H' => ∃ b, OneAt H H' 0 v (.leaf b [e]) := by
  refine Fn_of_CW Try.func72 rfl Try.ntmps72 Try.results72 rfl fun w hS => ?_; have hG := Grow.refl hS; have hS0 := hS
  (refine CW_seq ?_; refine CW_region rfl ?_)
  (refine S_op (W_boxAgg hS (by rfl) ?_)); intro H w _ hG' hb; replace hG := hG.trans hG'; replace hS := hG'.sub; clear hG'
  (refine S_op ?_; refine W_assignSl (by first | rfl | assumption) ?_; refine S_nil ?_; refine CW_seq ?_; refine CW_seq ?_; refine CW_region rfl ?_; refine S_op ?_; refine W_movePtr (by first | rfl | assumption) ?_)
  (refine S_op ?_; refine W_call hS (by rfl) (height_nil (H := H)) ?_); rintro v H w hG' rfl; replace hG := hG.trans hG'; replace hS := hG'.sub; replace hb := hG'.le _ _ hb; clear hG'
  have hle := hG.le
  (refine S_op ?_; refine W_leqT (by first | rfl | assumption) (by first | rfl | assumption) (by first | omega | rfl) ?_; refine S_nil ?_; refine CW_true (by first | rfl | assumption) ?_; refine CW_seq ?_)
  apply CW_region_grow [_, _, _, _, _, _] [none, none, none, none, none, none] [some 10, some 11, some 12, some 13, some 14, some 4] [10, 11, 12, 13, 14, 4] mixed rfl rfl rfl rfl (by decide) rfl (by assumption)
  · ((apply steps_cons; case h1 => (apply A_pure; intro c u H' w' hG; have hS' := hG.sub; have hS2' := hG.subOld; (repeat (first | refine depGo_eq rfl rfl rfl ?_ | (refine depGo_fact rfl rfl rfl ?_; intro v hv) | refine depGo_skip rfl ?_ | refine depGo_none rfl ?_)); apply Pure1.mk; intro K hk; exact W_movePtr (by first | rfl | assumption) hk)))
    (apply steps_cons; case h1 => (refine A_fact (φ := (fun v H => v = .slice none 0 0)) ?_; intro c' u H' w' hG; have hS' := hG.sub; (repeat (first | refine depGo_eq rfl rfl rfl ?_ | (refine depGo_fact rfl rfl rfl ?_; intro v hv) | refine depGo_skip rfl ?_ | refine depGo_none rfl ?_)); refine depGo_nil ?_; refine W_call hS' (by rfl) (entries_nil) ?_; intro v H3 w3 hG3 hr; exact ⟨H3, hG3.le, hG.trans hG3, fun H'' hle => hr⟩))
    ((apply steps_cons; case h1 => (apply A_pure; intro c u H' w' hG; have hS' := hG.sub; have hS2' := hG.subOld; (repeat (first | refine depGo_eq rfl rfl rfl ?_ | (refine depGo_fact rfl rfl rfl ?_; intro v hv) | refine depGo_skip rfl ?_ | refine depGo_none rfl ?_)); apply Pure1.mk; intro K hk; exact W_loadWhole (by first | rfl | assumption) (by assumption) (by rfl) (by assumption) hk)))
    (apply steps_cons; case h1 => (refine A_fact (φ := (fun v H => IsEnts v [e] H)) ?_; intro c' u H' w' hG; have hS' := hG.sub; (repeat (first | refine depGo_eq rfl rfl rfl ?_ | (refine depGo_fact rfl rfl rfl ?_; intro v hv) | refine depGo_skip rfl ?_ | refine depGo_none rfl ?_)); refine depGo_nil ?_; refine W_call hS' (by rfl) (with_c H' none 0 [] e (.inl rfl) (Nat.le_refl _) (by simp)) ?_; intro v H3 w3 hG3 hr; exact ⟨H3, hG3.le, hG.trans hG3, fun H'' hle => hr.mono hle⟩))
    (apply steps_cons; case h1 => (refine A_fact (φ := (fun v H3 => ∃ b, OneAt H H3 0 v (.leaf b [e]))) ?_; intro c' u H' w' hG'; have hS' := hG'.sub; (repeat (first | refine depGo_eq rfl rfl rfl ?_ | (refine depGo_fact rfl rfl rfl ?_; intro v hv) | refine depGo_skip rfl ?_ | refine depGo_none rfl ?_)); obtain ⟨A1, c1, rfl, hc1, hl1⟩ := hv; refine depGo_nil ?_; refine W_call hS' (by rfl) (leaves1_c H' A1 c1 [e] hl1 hc1 (by simp [leafB, riseB, he])) ?_; intro v H3 w3 hG3 hr; exact ⟨H3, hG3.le, hG'.trans hG3, fun H'' hle => (by
        obtain ⟨b, g, E, h1, h2, h3, h4⟩ := hr
        exact ⟨b, g, E, h1, hle _ _ h2, h3.mono hle, hG'.le.none h4⟩)⟩))
    apply steps_cons; case h1 => (refine A_fact (φ := (fun v H3 => ∃ b, OneAt H H3 0 v (.leaf b [e]))) ?_; intro c u H' w' hG; (repeat (first | refine depGo_eq rfl rfl rfl ?_ | (refine depGo_fact rfl rfl rfl ?_; intro v hv) | refine depGo_skip rfl ?_ | refine depGo_none rfl ?_)); refine depGo_nil ?_; refine W_assign (by rfl) ?_; exact ⟨H', HLe.refl _, hG, fun H'' hle => (fun ⟨b, h1⟩ hle => ⟨b, h1.mono hle⟩) hv hle⟩)
    exact trivial
  · intro H' w' hG'
    (repeat (first | refine fin_eq rfl rfl ?_ | (refine fin_fact rfl ?_; intro v hv) | refine fin_none rfl ?_)); refine fin_nil ?_
    (refine CW_ret ?_)
    obtain ⟨b, g, E, h1, h2, h3, h4⟩ := hv
    exact ⟨_, ResW_one (v := v) rfl, H', hG.trans hG', b, g, E, h1, h2, h3, hle.none h4⟩
theorem put_t (H : HF) (t : Tr) (e : Ent) (ht : Tr.At H t) (hh : t.height ≤ 800000) :
    Fn Try.prog 47 [t.val, .agg #[.string e.key, .string e.val]] H fun v H' =>
      (rKey e.key ≠ 0 ∧ v = .tuple #[.pointer none, .int .i64 (rKey e.key : Nat)]) ∨ (rKey e.key = 0 ∧ rValue e.val ≠ 0 ∧ v = .tuple #[.pointer none, .int .i64 (rValue e.val : Nat)]) ∨
      (entOk e = true ∧ ∃ t', v = .tuple #[Tr.val t', .int .i64 0] ∧ Tr.At H' t' ∧ Putted H t e t') := by
  refine Fn_of_CW Try.func47 rfl Try.ntmps47 Try.results47 rfl fun w hS => ?_; have hG := Grow.refl hS; have hS0 := hS
  (refine CW_seq ?_; refine CW_region rfl ?_)
  (refine S_op (W_boxAgg hS (by rfl) ?_)); intro H w _ hG' hb; replace hG := hG.trans hG'; replace hS := hG'.sub; replace ht := ht.mono hG'.le; clear hG'
  (refine S_op ?_; refine W_assignPtr (by first | rfl | assumption) ?_; refine S_op ?_; refine W_assignInt (by first | rfl | assumption) ?_; refine S_nil ?_; refine CW_seq ?_; refine CW_seq ?_; refine CW_region rfl ?_; refine S_op ?_; refine W_field (by first | rfl | assumption) ?_; refine S_op ?_; refine W_loadHL (by first | rfl | assumption) (by assumption) (by rfl) (by assumption) ?_)
  (refine S_op ?_; refine W_call hS (by rfl) (key_c H e.key) ?_); rintro v H w hG' rfl; replace hG := hG.trans hG'; replace hS := hG'.sub; replace ht := ht.mono hG'.le; replace hb := hG'.le _ _ hb; clear hG'
  by_cases hk : rKey e.key = 0
  · (refine S_op ?_; refine W_assignInt (by first | rfl | assumption) ?_; refine S_nil ?_; refine CW_seq ?_; refine CW_region rfl ?_; refine S_op ?_; refine W_moveInt (by first | rfl | assumption) ?_; refine S_op ?_; refine W_neqF (by first | rfl | assumption) (by first | rfl | assumption) (by first | omega | rfl) ?_; refine S_nil ?_; refine CW_false (by first | rfl | assumption) ?_; refine CW_skip ?_; refine CW_seq ?_; refine CW_seq ?_; refine CW_region rfl ?_; refine S_op ?_; refine W_field (by first | rfl | assumption) ?_; refine S_op ?_; refine W_loadHL (by first | rfl | assumption) (by assumption) (by rfl) (by assumption) ?_)
    (refine S_op ?_; refine W_call hS (by rfl) (value_c H e.val) ?_); rintro v H w hG' rfl; replace hG := hG.trans hG'; replace hS := hG'.sub; replace ht := ht.mono hG'.le; replace hb := hG'.le _ _ hb; clear hG'
    by_cases hv : rValue e.val = 0
    · have he : entOk e = true := by simp [entOk, hk, hv]
      (refine S_op ?_; refine W_assignInt (by first | rfl | assumption) ?_; refine S_nil ?_; refine CW_seq ?_; refine CW_region rfl ?_; refine S_op ?_; refine W_moveInt (by first | rfl | assumption) ?_; refine S_op ?_; refine W_neqF (by first | rfl | assumption) (by first | rfl | assumption) (by first | omega | rfl) ?_; refine S_nil ?_; refine CW_false (by first | rfl | assumption) ?_; refine CW_skip ?_; refine CW_seq ?_; refine CW_seq ?_; refine CW_region rfl ?_; refine S_op ?_; refine W_movePtr (by first | rfl | assumption) ?_; refine S_op ?_; refine W_field (by first | rfl | assumption) ?_; refine S_op ?_; refine W_loadHL (by first | rfl | assumption) (by assumption) (by rfl) (by assumption) ?_)
      (refine S_op ?_; refine W_call hS (by rfl) (get_t ht e.key (by omega)) ?_); rintro v H w hG' rfl; replace hG := hG.trans hG'; replace hS := hG'.sub; replace ht := ht.mono hG'.le; replace hb := hG'.le _ _ hb; clear hG'
      have hle := hG.le
      by_cases hsame : look t.items e.key = some e
      · obtain ⟨q1, q2⟩ := look_iff.1 hsame
        rw [q1]
        (refine S_op ?_; refine W_moveTup (by first | rfl | assumption) ?_; refine S_op ?_; refine W_extract (by first | rfl | assumption) (by rfl) ?_; refine S_op ?_; refine W_extract (by first | rfl | assumption) (by rfl) ?_; refine S_op ?_; refine W_assignStr (by first | rfl | assumption) ?_; refine S_op ?_; refine W_assignBool (by first | rfl | assumption) ?_; refine S_nil ?_; refine CW_seq ?_; refine CW_region rfl ?_; refine S_op ?_; refine W_moveBool (by first | rfl | assumption) ?_; refine S_op ?_; refine W_moveBool (by first | rfl | assumption) ?_; refine S_want (by rfl) ?_; refine W_moveStr (by first | rfl | assumption) ?_; refine S_want (by rfl) ?_; refine W_field (by first | rfl | assumption) ?_; refine S_want (by rfl) ?_; refine W_loadHL (by first | rfl | assumption) (by assumption) (by rfl) (by assumption) ?_; refine S_want (by rfl) ?_; refine W_seqlT (by first | rfl | assumption) (by first | rfl | assumption) (by first | assumption | rfl) ?_; refine S_op ?_; refine W_pickT (by first | rfl | assumption) (by first | rfl | assumption) ?_; refine S_nil ?_; refine CW_true (by first | rfl | assumption) ?_; refine CW_seq ?_; refine CW_region rfl ?_; refine S_op ?_; refine W_movePtr (by first | rfl | assumption) ?_; refine S_op ?_; refine W_assignPtr (by first | rfl | assumption) ?_; refine S_op ?_; refine W_assignInt (by first | rfl | assumption) ?_; refine S_nil ?_; refine CW_ret ?_)
        exact ⟨_, ResW_two (v1 := t.val) (v2 := .int _ _) rfl rfl, H, hG, .inr (.inr ⟨he, t, rfl, ht, (putted_same ht hsame).old hle⟩)⟩
      · cases t with
        | none =>
          have q1 : lookB (Tr.items none) e.key = false := rfl
          rw [q1]
          (refine S_op ?_; refine W_moveTup (by first | rfl | assumption) ?_; refine S_op ?_; refine W_extract (by first | rfl | assumption) (by rfl) ?_; refine S_op ?_; refine W_extract (by first | rfl | assumption) (by rfl) ?_; refine S_op ?_; refine W_assignStr (by first | rfl | assumption) ?_; refine S_op ?_; refine W_assignBool (by first | rfl | assumption) ?_; refine S_nil ?_; refine CW_seq ?_; refine CW_region rfl ?_; refine S_op ?_; refine W_moveBool (by first | rfl | assumption) ?_; refine S_op ?_; refine W_moveBool (by first | rfl | assumption) ?_; refine S_pass (by rfl) ?_; refine S_pass (by rfl) ?_; refine S_pass (by rfl) ?_; refine S_pass (by rfl) ?_; refine S_op ?_; refine W_pickF (by first | rfl | assumption) (by first | rfl | assumption) ?_; refine S_nil ?_; refine CW_false (by first | rfl | assumption) ?_; refine CW_skip ?_; refine CW_seq ?_; refine CW_region rfl ?_; refine S_op ?_; refine W_movePtr (by first | rfl | assumption) ?_; refine S_op ?_; refine W_loadWhole (by first | rfl | assumption) (by assumption) (by rfl) (by assumption) ?_)
          (refine S_op ?_; refine W_call hS (by rfl) (put_nil_c H e he) ?_); rintro v H w hG' ⟨b, g, E, rfl, hg, hx, hf⟩; replace hG := hG.trans hG'; replace hS := hG'.sub; clear hG'
          skip
          (refine S_op ?_; refine W_call hS (by rfl) (branches0_c H _ 1 1 (Nat.le_refl _)) ?_); rintro v H w hG' rfl; replace hG := hG.trans hG'; replace hS := hG'.sub; replace hg := hG'.le _ _ hg; replace hx := hx.mono hG'.le; clear hG'
          (refine S_op ?_; refine W_index (by first | rfl | assumption) (by first | rfl | assumption) (by first | assumption | omega | decide) (by first | rfl | assumption) ?_; refine S_op ?_; refine W_loadHL (by first | rfl | assumption) (by assumption) (by rfl) (by assumption) ?_; refine S_op ?_; refine W_assignPtr (by first | rfl | assumption) ?_; refine S_op ?_; refine W_assignInt (by first | rfl | assumption) ?_; refine S_nil ?_; refine CW_ret ?_)
          exact ⟨_, ResW_two (v1 := .pointer _) (v2 := .int _ _) rfl rfl, H, hG, .inr (.inr ⟨he, trOf (Nd.leaf b [e]), rfl, hx, (putted_nil hf).old hle⟩)⟩
        | some x =>
          obtain ⟨h, x⟩ := x
          have hx : NodeAt H h x := ht
          have hh : h + 1 ≤ 800000 := hh
          have hns : ¬ (lookB (Tr.items (some ⟨h, x⟩)) e.key = true ∧ lookV (Tr.items (some ⟨h, x⟩)) e.key = e.val) := fun hq => hsame (look_iff.2 hq)
          cases hlb : lookB (Tr.items (some ⟨h, x⟩)) e.key with
          | false =>
            (refine S_op ?_; refine W_moveTup (by first | rfl | assumption) ?_; refine S_op ?_; refine W_extract (by first | rfl | assumption) (by rfl) ?_; refine S_op ?_; refine W_extract (by first | rfl | assumption) (by rfl) ?_; refine S_op ?_; refine W_assignStr (by first | rfl | assumption) ?_; refine S_op ?_; refine W_assignBool (by first | rfl | assumption) ?_; refine S_nil ?_; refine CW_seq ?_; refine CW_region rfl ?_; refine S_op ?_; refine W_moveBool (by first | rfl | assumption) ?_; refine S_op ?_; refine W_moveBool (by first | rfl | assumption) ?_; refine S_pass (by rfl) ?_; refine S_pass (by rfl) ?_; refine S_pass (by rfl) ?_; refine S_pass (by rfl) ?_; refine S_op ?_; refine W_pickF (by first | rfl | assumption) (by first | rfl | assumption) ?_; refine S_nil ?_; refine CW_false (by first | rfl | assumption) ?_; refine CW_skip ?_; refine CW_seq ?_; refine CW_region rfl ?_; refine S_op ?_; refine W_movePtr (by first | rfl | assumption) ?_; refine S_op ?_; refine W_loadWhole (by first | rfl | assumption) (by assumption) (by rfl) (by assumption) ?_)
            (refine S_op ?_; refine W_call hS (by rfl) (put_c h H x e hx he (by omega)) ?_); rintro v H w hG' ⟨ks, ⟨B, d, rfl, hd, hsl, hk⟩, hp, hf⟩; replace hG := hG.trans hG'; replace hS := hG'.sub; clear hG'
            have hl := hp.len
            match ks, hl with
            | [y], _ =>
              obtain ⟨bb, off, hA, hrow⟩ := slAt_some hsl (q := 0) (by simp)
              have hget : ([y].map Nd.ptr)[0 * 1]? = some y.ptr := rfl
              skip
              (refine S_op ?_; refine W_call hS (by rfl) (branches0_c H B 1 d (Nat.le_refl _)) ?_); rintro v H w hG' rfl; replace hG := hG.trans hG'; replace hS := hG'.sub; replace hk := hk.mono hG'.le; replace hrow := hrow.mono hG'.le; clear hG'
              have hq0 : 0 < [y].length := by simp
              (refine S_op ?_; refine W_index (by first | rfl | assumption) (by first | rfl | assumption) (by first | assumption | omega | decide) (by first | rfl | assumption) ?_)
              refine S_op (W_loadRow (j := 0 * 1) (by rfl) hrow hget hS ?_)
              (refine S_op ?_; refine W_assignPtr (by first | rfl | assumption) ?_; refine S_op ?_; refine W_assignInt (by first | rfl | assumption) ?_; refine S_nil ?_; refine CW_ret ?_)
              exact ⟨_, ResW_two (v1 := y.ptr) (v2 := .int _ _) rfl rfl, H, hG, .inr (.inr ⟨he, trOf y, rfl, hk y (by simp), (putted_one hp (hf y (by simp)) hsame).old hle⟩)⟩
            | [y, z], _ =>
              have hch : Nd.chain [y, z] = true := (Nd.chain_iff hk.ok).2 (by rw [hp.items]; exact rise_withL e (Nd.ok_len hx.ok).2)
              skip
              have hle2 := hG.le
              (refine S_op ?_; refine W_call hS (by rfl) (branches1_c H B d h [y, z] hsl hk hd (by simp) (by simp) hch (by omega)) ?_); rintro v H w hG' ⟨g, gg, E, rfl, hgg, hx2, hf2⟩; replace hG := hG.trans hG'; replace hS := hG'.sub; clear hG'
              (refine S_op ?_; refine W_index (by first | rfl | assumption) (by first | rfl | assumption) (by first | assumption | omega | decide) (by first | rfl | assumption) ?_; refine S_op ?_; refine W_loadHL (by first | rfl | assumption) (by assumption) (by rfl) (by assumption) ?_; refine S_op ?_; refine W_assignPtr (by first | rfl | assumption) ?_; refine S_op ?_; refine W_assignInt (by first | rfl | assumption) ?_; refine S_nil ?_; refine CW_ret ?_)
              exact ⟨_, ResW_two (v1 := .pointer _) (v2 := .int _ _) rfl rfl, H, hG, .inr (.inr ⟨he, trOf (Nd.branch g [y, z]), rfl, hx2, (putted_two hp (hle2.none hf2) hsame)⟩)⟩
          | true =>
            have hne : ¬ lookV (Tr.items (some ⟨h, x⟩)) e.key = e.val := fun hq => hns ⟨hlb, hq⟩
            (refine S_op ?_; refine W_moveTup (by first | rfl | assumption) ?_; refine S_op ?_; refine W_extract (by first | rfl | assumption) (by rfl) ?_; refine S_op ?_; refine W_extract (by first | rfl | assumption) (by rfl) ?_; refine S_op ?_; refine W_assignStr (by first | rfl | assumption) ?_; refine S_op ?_; refine W_assignBool (by first | rfl | assumption) ?_; refine S_nil ?_; refine CW_seq ?_; refine CW_region rfl ?_; refine S_op ?_; refine W_moveBool (by first | rfl | assumption) ?_; refine S_op ?_; refine W_moveBool (by first | rfl | assumption) ?_; refine S_want (by rfl) ?_; refine W_moveStr (by first | rfl | assumption) ?_; refine S_want (by rfl) ?_; refine W_field (by first | rfl | assumption) ?_; refine S_want (by rfl) ?_; refine W_loadHL (by first | rfl | assumption) (by assumption) (by rfl) (by assumption) ?_; refine S_want (by rfl) ?_; refine W_seqlF (by first | rfl | assumption) (by first | rfl | assumption) (by assumption) ?_; refine S_op ?_; refine W_pickT (by first | rfl | assumption) (by first | rfl | assumption) ?_; refine S_nil ?_; refine CW_false (by first | rfl | assumption) ?_; refine CW_skip ?_; refine CW_seq ?_; refine CW_region rfl ?_; refine S_op ?_; refine W_movePtr (by first | rfl | assumption) ?_; refine S_op ?_; refine W_loadWhole (by first | rfl | assumption) (by assumption) (by rfl) (by assumption) ?_)
            (refine S_op ?_; refine W_call hS (by rfl) (put_c h H x e hx he (by omega)) ?_); rintro v H w hG' ⟨ks, ⟨B, d, rfl, hd, hsl, hk⟩, hp, hf⟩; replace hG := hG.trans hG'; replace hS := hG'.sub; clear hG'
            have hl := hp.len
            match ks, hl with
            | [y], _ =>
              obtain ⟨bb, off, hA, hrow⟩ := slAt_some hsl (q := 0) (by simp)
              have hget : ([y].map Nd.ptr)[0 * 1]? = some y.ptr := rfl
              skip
              (refine S_op ?_; refine W_call hS (by rfl) (branches0_c H B 1 d (Nat.le_refl _)) ?_); rintro v H w hG' rfl; replace hG := hG.trans hG'; replace hS := hG'.sub; replace hk := hk.mono hG'.le; replace hrow := hrow.mono hG'.le; clear hG'
              have hq0 : 0 < [y].length := by simp
              (refine S_op ?_; refine W_index (by first | rfl | assumption) (by first | rfl | assumption) (by first | assumption | omega | decide) (by first | rfl | assumption) ?_)
              refine S_op (W_loadRow (j := 0 * 1) (by rfl) hrow hget hS ?_)
              (refine S_op ?_; refine W_assignPtr (by first | rfl | assumption) ?_; refine S_op ?_; refine W_assignInt (by first | rfl | assumption) ?_; refine S_nil ?_; refine CW_ret ?_)
              exact ⟨_, ResW_two (v1 := y.ptr) (v2 := .int _ _) rfl rfl, H, hG, .inr (.inr ⟨he, trOf y, rfl, hk y (by simp), (putted_one hp (hf y (by simp)) hsame).old hle⟩)⟩
            | [y, z], _ =>
              have hch : Nd.chain [y, z] = true := (Nd.chain_iff hk.ok).2 (by rw [hp.items]; exact rise_withL e (Nd.ok_len hx.ok).2)
              skip
              have hle2 := hG.le
              (refine S_op ?_; refine W_call hS (by rfl) (branches1_c H B d h [y, z] hsl hk hd (by simp) (by simp) hch (by omega)) ?_); rintro v H w hG' ⟨g, gg, E, rfl, hgg, hx2, hf2⟩; replace hG := hG.trans hG'; replace hS := hG'.sub; clear hG'
              (refine S_op ?_; refine W_index (by first | rfl | assumption) (by first | rfl | assumption) (by first | assumption | omega | decide) (by first | rfl | assumption) ?_; refine S_op ?_; refine W_loadHL (by first | rfl | assumption) (by assumption) (by rfl) (by assumption) ?_; refine S_op ?_; refine W_assignPtr (by first | rfl | assumption) ?_; refine S_op ?_; refine W_assignInt (by first | rfl | assumption) ?_; refine S_nil ?_; refine CW_ret ?_)
              exact ⟨_, ResW_two (v1 := .pointer _) (v2 := .int _ _) rfl rfl, H, hG, .inr (.inr ⟨he, trOf (Nd.branch g [y, z]), rfl, hx2, (putted_two hp (hle2.none hf2) hsame)⟩)⟩
    · (refine S_op ?_; refine W_assignInt (by first | rfl | assumption) ?_; refine S_nil ?_; refine CW_seq ?_; refine CW_region rfl ?_; refine S_op ?_; refine W_moveInt (by first | rfl | assumption) ?_; refine S_op ?_; refine W_neqT (by first | rfl | assumption) (by first | rfl | assumption) (by first | omega | rfl) ?_; refine S_nil ?_; refine CW_true (by first | rfl | assumption) ?_; refine CW_seq ?_; refine CW_region rfl ?_; refine S_op ?_; refine W_moveInt (by first | rfl | assumption) ?_; refine S_op ?_; refine W_assignPtr (by first | rfl | assumption) ?_; refine S_op ?_; refine W_assignInt (by first | rfl | assumption) ?_; refine S_nil ?_; refine CW_ret ?_)
      exact ⟨_, ResW_two (v1 := .pointer _) (v2 := .int _ _) rfl rfl, H, hG, .inr (.inl ⟨hk, hv, rfl⟩)⟩
  · (refine S_op ?_; refine W_assignInt (by first | rfl | assumption) ?_; refine S_nil ?_; refine CW_seq ?_; refine CW_region rfl ?_; refine S_op ?_; refine W_moveInt (by first | rfl | assumption) ?_; refine S_op ?_; refine W_neqT (by first | rfl | assumption) (by first | rfl | assumption) (by first | omega | rfl) ?_; refine S_nil ?_; refine CW_true (by first | rfl | assumption) ?_; refine CW_seq ?_; refine CW_region rfl ?_; refine S_op ?_; refine W_moveInt (by first | rfl | assumption) ?_; refine S_op ?_; refine W_assignPtr (by first | rfl | assumption) ?_; refine S_op ?_; refine W_assignInt (by first | rfl | assumption) ?_; refine S_nil ?_; refine CW_ret ?_)
    exact ⟨_, ResW_two (v1 := .pointer _) (v2 := .int _ _) rfl rfl, H, hG, .inl ⟨hk, rfl⟩⟩
end Go.Proofs.Ytnjeoobcejlojaa
