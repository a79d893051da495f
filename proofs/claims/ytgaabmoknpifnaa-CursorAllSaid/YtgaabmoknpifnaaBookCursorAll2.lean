/- Texts of this proof in one file, each with its conditions ahead of it. First: tree: put, Put: walked, with what they make. Conditions: sizes. -/
import Derived.Test.YtgaabmoknpifnaaBookCursorAll1
import Derived.Test.YtgaabmoknpifnaaPtrEq
namespace Go.Proofs.Ytgaabmoknpifnaa
open Go.Proofs Go.RowKit
set_option linter.unusedVariables false
attribute [local irreducible] CW SeqW OpW
set_option maxHeartbeats 4000000
/-- What a node becomes with an entry. -/
structure PutOut (h : Nat) (x : Nd h) (e : Ent) (ks : List (Nd h)) : Prop where
  items : ks.flatMap (Nd.items h) = withL (Nd.items h x) e
  len : ks.length = 1 ∨ ks.length = 2
  full : Nd.full h x = true → ∀ k ∈ ks, Nd.full h k = true
  two : Nd.full h x = true → (Nd.enough h x = true ∨ ks.length = 2) → ∀ k ∈ ks, Nd.enough h k = true
  blocks : ∃ N : List Nat, N.length ≤ 2 * (h + 1) ∧ ∀ k ∈ ks, ∀ b ∈ Nd.blocks h k, b ∈ N ∨ b ∈ Nd.blocks h x
theorem entOk_withL {l : List Ent} {e : Ent} (hl : ∀ x ∈ l, entOk x = true) (he : entOk e = true) : ∀ x ∈ withL l e, entOk x = true := by
  intro x hx
  rcases mem_withL hx with rfl | h
  · exact he
  · exact hl x h
theorem put_leaf {x : Nd 0} {e : Ent} (hx : Nd.Ok 0 x) {out : List (Nd 0)} (hout : leavesOut (withL x.ents e) out) : PutOut 0 x e out := by
  have hb := hx
  simp only [Nd.Ok, leafB, Bool.and_eq_true, decide_eq_true_eq] at hb
  have hlen := withL_length hb.1.2 e
  have h5 : x.ents.length ≤ (withL x.ents e).length ∧ (withL x.ents e).length ≤ x.ents.length + 1 := by rw [hlen]; split <;> omega
  rcases hout with ⟨h1, _⟩ | ⟨h1, h2, b, rfl⟩ | ⟨h1, b1, b2, rfl⟩
  · omega
  · refine ⟨by simp [Nd.items, Nd.ents_leaf], .inl rfl, fun _ k hk => ?_, fun _ he k hk => ?_, [b], by simp, fun k hk q hq => ?_⟩
    · simp at hk; subst hk; rfl
    · rw [List.mem_singleton] at hk; subst hk
      show decide (2 ≤ (withL x.ents e).length) = true
      rw [decide_eq_true_eq]
      rcases he with he | he
      · have he : decide (2 ≤ x.ents.length) = true := he
        rw [decide_eq_true_eq] at he; omega
      · simp at he
    · simp at hk; subst hk
      simp [Nd.blocks, Nd.blk_leaf] at hq
      simp [hq]
  · refine ⟨by simp [Nd.items, Nd.ents_leaf], .inr rfl, fun _ k hk => ?_, fun _ he k hk => ?_, [b1, b2], by simp, fun k hk q hq => ?_⟩
    · simp at hk; rcases hk with rfl | rfl <;> rfl
    · have hh : 2 ≤ half (withL x.ents e).length ∧ half (withL x.ents e).length ≤ (withL x.ents e).length ∧ 2 ≤ (withL x.ents e).length - half (withL x.ents e).length := by unfold half; omega
      simp at hk
      rcases hk with rfl | rfl <;> simp [Nd.enough, Nd.ents_leaf] <;> omega
    · simp at hk
      rcases hk with rfl | rfl <;> simp [Nd.blocks, Nd.blk_leaf] at hq <;> simp [hq]
section
variable {h : Nat} {x : Nd (h + 1)} {e : Ent} {a b sub : List (Nd h)} {m : Nd h}
theorem put_items (hx : Nd.Ok (h + 1) x) (h1 : x.kids = a ++ m :: b) (h3 : Below' (a.flatMap (Nd.items h)) e.key) (h4 : Above (b.flatMap (Nd.items h)) e.key) (hs : PutOut h m e sub) :
    (a ++ sub ++ b).flatMap (Nd.items h) = withL (Nd.items (h + 1) x) e := by
  rw [Nd.withL_kid hx h1 h3 h4, List.flatMap_append, List.flatMap_append, hs.items]
theorem put_branch (hx : Nd.Ok (h + 1) x) (h1 : x.kids = a ++ m :: b) (h3 : Below' (a.flatMap (Nd.items h)) e.key) (h4 : Above (b.flatMap (Nd.items h)) e.key) (hs : PutOut h m e sub)
    {out : List (Nd (h + 1))} (hout : branchesOut (a ++ sub ++ b) out) : PutOut (h + 1) x e out := by
  have hit := put_items hx h1 h3 h4 hs
  have hn : (a ++ sub ++ b).length = a.length + sub.length + b.length := by simp; omega
  have hxn : x.kids.length = a.length + 1 + b.length := by rw [h1]; simp; omega
  have hsl := hs.len
  have hkids : Nd.full (h + 1) x = true → ∀ k ∈ a ++ sub ++ b, Nd.enough h k = true ∧ Nd.full h k = true := by
    intro hf k hk
    have hfk := Nd.full_kids hf
    rw [h1] at hfk
    have hm := hfk m (by simp)
    simp only [List.mem_append] at hk
    rcases hk with (hk | hk) | hk
    · exact hfk k (by simp [hk])
    · exact ⟨hs.two hm.2 (.inl hm.1) k hk, hs.full hm.2 k hk⟩
    · exact hfk k (by simp [hk])
  obtain ⟨N, hN, hNb⟩ := hs.blocks
  have hkb : ∀ k ∈ a ++ sub ++ b, ∀ q ∈ Nd.blocks h k, q ∈ N ∨ q ∈ Nd.blocks (h + 1) x := by
    intro k hk q hq
    simp only [Nd.blocks, List.mem_cons, List.mem_flatMap]
    rw [h1]
    simp only [List.mem_append] at hk
    rcases hk with (hk | hk) | hk
    · exact .inr (.inr ⟨k, by simp [hk], hq⟩)
    · rcases hNb k hk q hq with h | h
      · exact .inl h
      · exact .inr (.inr ⟨m, by simp, h⟩)
    · exact .inr (.inr ⟨k, by simp [hk], hq⟩)
  rcases hout with ⟨h5, h6, g, rfl⟩ | ⟨h5, g1, g2, rfl⟩
  · refine ⟨?_, .inl rfl, fun hf k hk => ?_, fun hf he k hk => ?_, g :: N, by simp; omega, fun k hk q hq => ?_⟩
    · show ([Nd.branch g (a ++ sub ++ b)] : List (Nd (h + 1))).flatMap (fun y => y.kids.flatMap (Nd.items h)) = _
      simp only [List.flatMap_cons, List.flatMap_nil, List.append_nil, Nd.kids_branch]
      exact hit
    · rw [List.mem_singleton] at hk; subst hk
      simp only [Nd.full, Nd.kids_branch, List.all_eq_true, Bool.and_eq_true]
      exact hkids hf
    · rw [List.mem_singleton] at hk; subst hk
      show decide (3 ≤ (a ++ sub ++ b).length) = true
      rw [decide_eq_true_eq]
      rcases he with he | he
      · simp only [Nd.enough, decide_eq_true_eq] at he; omega
      · simp at he
    · rw [List.mem_singleton] at hk; subst hk
      simp only [Nd.blocks, Nd.kids_branch, Nd.blk_branch, List.mem_cons, List.mem_flatMap] at hq
      rcases hq with rfl | ⟨y, hy, hq⟩
      · exact .inl (by simp)
      · rcases hkb y hy q hq with h | h
        · exact .inl (by simp [h])
        · exact .inr h
  · have hsp := List.take_append_drop (half (a ++ sub ++ b).length) (a ++ sub ++ b)
    have hhalf : 3 ≤ half (a ++ sub ++ b).length ∧ half (a ++ sub ++ b).length ≤ (a ++ sub ++ b).length ∧ 3 ≤ (a ++ sub ++ b).length - half (a ++ sub ++ b).length := by unfold half; omega
    generalize a ++ sub ++ b = l at *
    refine ⟨?_, .inr rfl, fun hf k hk => ?_, fun hf he k hk => ?_, g1 :: g2 :: N, by simp; omega, fun k hk q hq => ?_⟩
    · show ([Nd.branch g1 (l.take (half l.length)), Nd.branch g2 (l.drop (half l.length))] : List (Nd (h + 1))).flatMap (fun y => y.kids.flatMap (Nd.items h)) = _
      simp only [List.flatMap_cons, List.flatMap_nil, List.append_nil, Nd.kids_branch]
      rw [← List.flatMap_append, hsp]
      exact hit
    · simp at hk
      rcases hk with rfl | rfl <;> simp only [Nd.full, Nd.kids_branch, List.all_eq_true, Bool.and_eq_true]
      · exact fun k hk => hkids hf k (List.mem_of_mem_take hk)
      · exact fun k hk => hkids hf k (List.mem_of_mem_drop hk)
    · simp at hk
      rcases hk with rfl | rfl <;> simp [Nd.enough, Nd.kids_branch] <;> omega
    · simp at hk
      rcases hk with rfl | rfl <;> simp only [Nd.blocks, Nd.kids_branch, Nd.blk_branch, List.mem_cons, List.mem_flatMap] at hq
      · rcases hq with rfl | ⟨y, hy, hq⟩
        · exact .inl (by simp)
        · rcases hkb y (List.mem_of_mem_take hy) q hq with h | h
          · exact .inl (by simp [h])
          · exact .inr h
      · rcases hq with rfl | ⟨y, hy, hq⟩
        · exact .inl (by simp)
        · rcases hkb y (List.mem_of_mem_drop hy) q hq with h | h
          · exact .inl (by simp [h])
          · exact .inr h
end
theorem nds_of {H : HF} {h : Nat} {v : Value} {l : List (Nd h)} (hv : IsSl 1 v l.length (l.map Nd.ptr) H) (hl : AllAt H h l) : NdsAt H h v l := by
  obtain ⟨A, c, rfl, h2, h3, h4⟩ := hv
  exact ⟨A, c, rfl, h2, h3, hl⟩
theorem put_c (h : Nat) : ∀ (H : HF) (x : Nd h) (e : Ent), NodeAt H h x → entOk e = true → h ≤ 800000 →
    Fn Try.prog 62 [x.ptr, .agg #[.string e.key, .string e.val]] H fun v H' => ∃ ks, NdsAt H' h v ks ∧ PutOut h x e ks ∧ ∀ k ∈ ks, H k.blk = none := by
  induction h with
  | zero =>
    intro H x e hx he hh
    refine Fn_of_CW Try.func62 rfl Try.ntmps62 Try.results62 rfl fun w hS => ?_; have hG := Grow.refl hS; have hS0 := hS
    (refine CW_seq ?_; refine CW_region rfl ?_)
    (refine S_op (W_boxAgg hS (by rfl) ?_)); intro H w _ hG' hb; replace hG := hG.trans hG'; replace hS := hG'.sub; replace hx := hx.mono hG'.le; clear hG'
    (refine S_op ?_; refine W_assignSl (by first | rfl | assumption) ?_; refine S_nil ?_; refine CW_seq ?_; refine CW_seq ?_; refine CW_region rfl ?_; refine S_op ?_; refine W_movePtr (by first | rfl | assumption) ?_)
    (refine S_op ?_; refine W_call hS (by rfl) (height_c hx) ?_); rintro v H w hG' rfl; replace hG := hG.trans hG'; replace hS := hG'.sub; replace hx := hx.mono hG'.le; replace hb := hG'.le _ _ hb; clear hG'
    have hok := hx.ok
    have hok2 := hok
    simp only [Nd.Ok, leafB, Bool.and_eq_true, decide_eq_true_eq] at hok2
    have hr := rise_withL e hok2.1.2
    have hoe := entOk_withL (Nd.ok_ents hok) he
    have hwl := withL_length_le x.ents e
    have hle := hG.le
    (refine S_op ?_; refine W_leqT (by first | rfl | assumption) (by first | rfl | assumption) (by first | omega | rfl) ?_; refine S_nil ?_; refine CW_true (by first | rfl | assumption) ?_; refine CW_seq ?_)
    apply CW_region_grow [_, _, _, _, _, _] [none, none, none, none, none, none] [some 10, some 11, some 12, some 13, some 14, some 4] [10, 11, 12, 13, 14, 4] mixed rfl rfl rfl rfl (by decide) rfl (by assumption)
    · ((apply steps_cons; case h1 => (apply A_pure; intro c u H' w' hG; have hS' := hG.sub; have hS2' := hG.subOld; (repeat (first | refine depGo_eq rfl rfl rfl ?_ | (refine depGo_fact rfl rfl rfl ?_; intro v hv) | refine depGo_skip rfl ?_ | refine depGo_none rfl ?_)); apply Pure1.mk; intro K hk; exact W_movePtr (by first | rfl | assumption) hk)))
      (apply steps_cons; case h1 => (refine A_fact (φ := (fun v H => IsEnts v x.ents H)) ?_; intro c' u H' w' hG; have hS' := hG.sub; (repeat (first | refine depGo_eq rfl rfl rfl ?_ | (refine depGo_fact rfl rfl rfl ?_; intro v hv) | refine depGo_skip rfl ?_ | refine depGo_none rfl ?_)); refine depGo_nil ?_; refine W_call hS' (by rfl) (entries_c (hx.mono hG.le)) ?_; intro v H3 w3 hG3 hr; exact ⟨H3, hG3.le, hG.trans hG3, fun H'' hle => hr.mono hle⟩))
      ((apply steps_cons; case h1 => (apply A_pure; intro c u H' w' hG; have hS' := hG.sub; have hS2' := hG.subOld; (repeat (first | refine depGo_eq rfl rfl rfl ?_ | (refine depGo_fact rfl rfl rfl ?_; intro v hv) | refine depGo_skip rfl ?_ | refine depGo_none rfl ?_)); apply Pure1.mk; intro K hk; exact W_loadWhole (by first | rfl | assumption) (by assumption) (by rfl) (by assumption) hk)))
      (apply steps_cons; case h1 => (refine A_fact (φ := (fun v H => IsEnts v (withL x.ents e) H)) ?_; intro c' u H' w' hG'; have hS' := hG'.sub; (repeat (first | refine depGo_eq rfl rfl rfl ?_ | (refine depGo_fact rfl rfl rfl ?_; intro v hv) | refine depGo_skip rfl ?_ | refine depGo_none rfl ?_)); obtain ⟨A1, c1, rfl, hc1, hl1⟩ := hv; refine depGo_nil ?_; refine W_call hS' (by rfl) (with_c H' A1 c1 x.ents e hl1 hc1 (by omega)) ?_; intro v H3 w3 hG3 hr; exact ⟨H3, hG3.le, hG'.trans hG3, fun H'' hle => hr.mono hle⟩))
      (apply steps_cons; case h1 => (refine A_fact (φ := (fun v H3 => ∃ out, NdsAt H3 0 v out ∧ leavesOut (withL x.ents e) out ∧ ∀ k ∈ out, H k.blk = none)) ?_; intro c' u H' w' hG'; have hS' := hG'.sub; (repeat (first | refine depGo_eq rfl rfl rfl ?_ | (refine depGo_fact rfl rfl rfl ?_; intro v hv) | refine depGo_skip rfl ?_ | refine depGo_none rfl ?_)); obtain ⟨A1, c1, rfl, hc1, hl1⟩ := hv; refine depGo_nil ?_; refine W_call hS' (by rfl) (leaves_c H' A1 c1 (withL x.ents e) hl1 hc1 hr hoe (by omega)) ?_; intro v H3 w3 hG3 hr; exact ⟨H3, hG3.le, hG'.trans hG3, fun H'' hle => (by
          obtain ⟨out, h1, h2, h3⟩ := hr
          exact ⟨out, h1.mono hle, h2, fun k hk => hG'.le.none (h3 k hk)⟩)⟩))
      apply steps_cons; case h1 => (refine A_fact (φ := (fun v H3 => ∃ out, NdsAt H3 0 v out ∧ leavesOut (withL x.ents e) out ∧ ∀ k ∈ out, H k.blk = none)) ?_; intro c u H' w' hG; (repeat (first | refine depGo_eq rfl rfl rfl ?_ | (refine depGo_fact rfl rfl rfl ?_; intro v hv) | refine depGo_skip rfl ?_ | refine depGo_none rfl ?_)); refine depGo_nil ?_; refine W_assign (by rfl) ?_; exact ⟨H', HLe.refl _, hG, fun H'' hle => (fun ⟨out, h1, h2, h3⟩ hle => ⟨out, h1.mono hle, h2, h3⟩) hv hle⟩)
      exact trivial
    · intro H' w' hG'
      (repeat (first | refine fin_eq rfl rfl ?_ | (refine fin_fact rfl ?_; intro v hv) | refine fin_none rfl ?_)); refine fin_nil ?_
      (refine CW_ret ?_)
      obtain ⟨out, h1, h2, h3⟩ := hv
      exact ⟨_, ResW_one (v := v) rfl, H', hG.trans hG', out, h1, put_leaf hok h2, fun k hk => hle.none (h3 k hk)⟩
  | succ h ih =>
    intro H x e hx he hh
    refine Fn_of_CW Try.func62 rfl Try.ntmps62 Try.results62 rfl fun w hS => ?_; have hG := Grow.refl hS; have hS0 := hS
    (refine CW_seq ?_; refine CW_region rfl ?_)
    (refine S_op (W_boxAgg hS (by rfl) ?_)); intro H w _ hG' hb; replace hG := hG.trans hG'; replace hS := hG'.sub; replace hx := hx.mono hG'.le; clear hG'
    (refine S_op ?_; refine W_assignSl (by first | rfl | assumption) ?_; refine S_nil ?_; refine CW_seq ?_; refine CW_seq ?_; refine CW_region rfl ?_; refine S_op ?_; refine W_movePtr (by first | rfl | assumption) ?_)
    (refine S_op ?_; refine W_call hS (by rfl) (height_c hx) ?_); rintro v H w hG' rfl; replace hG := hG.trans hG'; replace hS := hG'.sub; replace hx := hx.mono hG'.le; replace hb := hG'.le _ _ hb; clear hG'
    (refine S_op ?_; refine W_leqF (by first | rfl | assumption) (by first | rfl | assumption) (by first | omega | rfl) ?_; refine S_nil ?_; refine CW_false (by first | rfl | assumption) ?_; refine CW_skip ?_; refine CW_seq ?_; refine CW_region rfl ?_; refine S_op ?_; refine W_movePtr (by first | rfl | assumption) ?_)
    (refine S_op ?_; refine W_call hS (by rfl) (kids_c hx) ?_); rintro v H w hG' hv; replace hG := hG.trans hG'; replace hS := hG'.sub; replace hx := hx.mono hG'.le; replace hb := hG'.le _ _ hb; clear hG'
    obtain ⟨B, d, rfl, hd, hsl, _⟩ := hv
    have hok := hx.ok
    have h6 := hok.2.1
    (refine S_op ?_; refine W_assignSl (by first | rfl | assumption) ?_; refine S_nil ?_; refine CW_seq ?_; refine CW_region rfl ?_; refine S_op ?_; refine W_moveSl (by first | rfl | assumption) ?_; refine S_op ?_; refine W_field (by first | rfl | assumption) ?_; refine S_op ?_; refine W_loadHL (by first | rfl | assumption) (by assumption) (by rfl) (by assumption) ?_)
    (refine S_op ?_; refine W_call hS (by rfl) (kid_c H B d h x.kids e.key hsl hx.kids (by omega)) ?_); rintro v H w hG' rfl; replace hG := hG.trans hG'; replace hS := hG'.sub; replace hx := hx.mono hG'.le; replace hsl := hsl.mono hG'.le; replace hb := hG'.le _ _ hb; clear hG'
    obtain ⟨a, b, h1, h2, h3, h4, _, _⟩ := Nd.kidOf_split hok e.key
    generalize Nd.kidOf x e.key = m at *
    have hq : a.length < x.kids.length := by rw [h1]; simp
    have hget : (x.kids.map Nd.ptr)[a.length * 1]? = some m.ptr := by rw [h1]; simp
    obtain ⟨bb, off, hA, hrow⟩ := slAt_some hsl hq
    have hm : NodeAt H h m := hx.kids m (by rw [h1]; simp)
    have hka : AllAt H h a := fun k hk => hx.kids k (by rw [h1]; simp [hk])
    have hkb : AllAt H h b := fun k hk => hx.kids k (by rw [h1]; simp [hk])
    have hbl : x.kids.length - (a.length + 1) = b.length := by rw [h1]; simp; omega
    have hxn : x.kids.length = a.length + 1 + b.length := by rw [h1]; simp; omega
    have hs1 : SlAt H B (a.map Nd.ptr) := by have := SlAt.take hsl a.length; rw [h1] at this; simpa using this
    have hs2 : SlAt H (slAddr B d (a.length + 1) 1) (b.map Nd.ptr) := by
      have := SlAt.drop (l := a.length + 1) (sz := 1) hsl (by simp) hd
      rw [h1] at this
      rw [show (List.map Nd.ptr (a ++ m :: b)).drop ((a.length + 1) * 1) = b.map Nd.ptr by
        rw [Nat.mul_one, List.map_append, List.map_cons, List.drop_append, List.length_map, List.drop_eq_nil_of_le (by simp)]
        simp [show a.length + 1 - a.length = 1 by omega]] at this
      exact this
    have hle := hG.le
    rw [h2]
    (refine S_op ?_; refine W_assignInt (by first | rfl | assumption) ?_; refine S_nil ?_; refine CW_seq ?_)
    apply CW_region_grow [_, _, _, _, _, _, _, _, _, _, _, _, _, _, _, _, _] [none, none, none, none, none, none, none, none, none, none, none, none, none, none, none, none, none] [some 21, some 22, some 23, some 24, some 25, some 26, some 27, some 28, some 29, some 30, some 31, some 32, some 33, some 34, some 35, some 36, some 4] [21, 22, 23, 24, 25, 26, 27, 28, 29, 30, 31, 32, 33, 34, 35, 36, 4] mixed rfl rfl rfl rfl (by decide) rfl (by assumption)
    · ((apply steps_cons; case h1 => (apply A_pure; intro c u H' w' hG; have hS' := hG.sub; have hS2' := hG.subOld; (repeat (first | refine depGo_eq rfl rfl rfl ?_ | (refine depGo_fact rfl rfl rfl ?_; intro v hv) | refine depGo_skip rfl ?_ | refine depGo_none rfl ?_)); apply Pure1.mk; intro K hk; exact W_moveSl (by first | rfl | assumption) hk)); (apply steps_cons; case h1 => (apply A_pure; intro c u H' w' hG; have hS' := hG.sub; have hS2' := hG.subOld; (repeat (first | refine depGo_eq rfl rfl rfl ?_ | (refine depGo_fact rfl rfl rfl ?_; intro v hv) | refine depGo_skip rfl ?_ | refine depGo_none rfl ?_)); apply Pure1.mk; intro K hk; exact W_moveInt (by first | rfl | assumption) hk)); (apply steps_cons; case h1 => (apply A_pure; intro c u H' w' hG; have hS' := hG.sub; have hS2' := hG.subOld; (repeat (first | refine depGo_eq rfl rfl rfl ?_ | (refine depGo_fact rfl rfl rfl ?_; intro v hv) | refine depGo_skip rfl ?_ | refine depGo_none rfl ?_)); apply Pure1.mk; intro K hk; exact W_sliceHi (by first | rfl | assumption) (by first | rfl | assumption) (by omega) hk)); (apply steps_cons; case h1 => (apply A_pure; intro c u H' w' hG; have hS' := hG.sub; have hS2' := hG.subOld; (repeat (first | refine depGo_eq rfl rfl rfl ?_ | (refine depGo_fact rfl rfl rfl ?_; intro v hv) | refine depGo_skip rfl ?_ | refine depGo_none rfl ?_)); apply Pure1.mk; intro K hk; exact W_moveSl (by first | rfl | assumption) hk)); (apply steps_cons; case h1 => (apply A_pure; intro c u H' w' hG; have hS' := hG.sub; have hS2' := hG.subOld; (repeat (first | refine depGo_eq rfl rfl rfl ?_ | (refine depGo_fact rfl rfl rfl ?_; intro v hv) | refine depGo_skip rfl ?_ | refine depGo_none rfl ?_)); apply Pure1.mk; intro K hk; exact W_moveInt (by first | rfl | assumption) hk)); (apply steps_cons; case h1 => (apply A_pure; intro c u H' w' hG; have hS' := hG.sub; have hS2' := hG.subOld; (repeat (first | refine depGo_eq rfl rfl rfl ?_ | (refine depGo_fact rfl rfl rfl ?_; intro v hv) | refine depGo_skip rfl ?_ | refine depGo_none rfl ?_)); apply Pure1.mk; intro K hk; exact W_index (by first | rfl | assumption) (by first | rfl | assumption) (by first | assumption | omega | decide) (by first | rfl | assumption) hk)))
      apply steps_cons; case h1 => (apply A_pure; intro c u H' w' hG'; have hS2' := hG'.subOld; (repeat (first | refine depGo_eq rfl rfl rfl ?_ | (refine depGo_fact rfl rfl rfl ?_; intro v hv) | refine depGo_skip rfl ?_ | refine depGo_none rfl ?_)); apply Pure1.mk; intro K hk; exact W_loadRow (j := a.length * 1) (by rfl) hrow hget hS2' hk)
      ((apply steps_cons; case h1 => (apply A_pure; intro c u H' w' hG; have hS' := hG.sub; have hS2' := hG.subOld; (repeat (first | refine depGo_eq rfl rfl rfl ?_ | (refine depGo_fact rfl rfl rfl ?_; intro v hv) | refine depGo_skip rfl ?_ | refine depGo_none rfl ?_)); apply Pure1.mk; intro K hk; exact W_loadWhole (by first | rfl | assumption) (by assumption) (by rfl) (by assumption) hk)))
      (apply steps_cons; case h1 => (refine A_fact (φ := (fun v H3 => ∃ sub, NdsAt H3 h v sub ∧ PutOut h m e sub)) ?_; intro c' u H' w' hG; have hS' := hG.sub; (repeat (first | refine depGo_eq rfl rfl rfl ?_ | (refine depGo_fact rfl rfl rfl ?_; intro v hv) | refine depGo_skip rfl ?_ | refine depGo_none rfl ?_)); refine depGo_nil ?_; refine W_call hS' (by rfl) (ih H' m e (hm.mono hG.le) he (by omega)) ?_; intro v H3 w3 hG3 hr; exact ⟨H3, hG3.le, hG.trans hG3, fun H'' hle => (by
          obtain ⟨sub, h1, h2, h3⟩ := hr
          exact ⟨sub, h1.mono hle, h2⟩)⟩))
      ((apply steps_cons; case h1 => (apply A_pure; intro c u H' w' hG; have hS' := hG.sub; have hS2' := hG.subOld; (repeat (first | refine depGo_eq rfl rfl rfl ?_ | (refine depGo_fact rfl rfl rfl ?_; intro v hv) | refine depGo_skip rfl ?_ | refine depGo_none rfl ?_)); apply Pure1.mk; intro K hk; exact W_moveSl (by first | rfl | assumption) hk)); (apply steps_cons; case h1 => (apply A_pure; intro c u H' w' hG; have hS' := hG.sub; have hS2' := hG.subOld; (repeat (first | refine depGo_eq rfl rfl rfl ?_ | (refine depGo_fact rfl rfl rfl ?_; intro v hv) | refine depGo_skip rfl ?_ | refine depGo_none rfl ?_)); apply Pure1.mk; intro K hk; exact W_moveInt (by first | rfl | assumption) hk)); (apply steps_cons; case h1 => (apply A_pure; intro c u H' w' hG; have hS' := hG.sub; have hS2' := hG.subOld; (repeat (first | refine depGo_eq rfl rfl rfl ?_ | (refine depGo_fact rfl rfl rfl ?_; intro v hv) | refine depGo_skip rfl ?_ | refine depGo_none rfl ?_)); apply Pure1.mk; intro K hk; exact W_add1 (by first | rfl | assumption) (by omega) hk)); (apply steps_cons; case h1 => (apply A_pure; intro c u H' w' hG; have hS' := hG.sub; have hS2' := hG.subOld; (repeat (first | refine depGo_eq rfl rfl rfl ?_ | (refine depGo_fact rfl rfl rfl ?_; intro v hv) | refine depGo_skip rfl ?_ | refine depGo_none rfl ?_)); apply Pure1.mk; intro K hk; exact W_sliceLo (by first | rfl | assumption) (by first | rfl | assumption) (by omega) hk)))
      apply steps_cons
      · refine A_fact (φ := fun v H3 => ∃ sub, IsCat 1 v 3 (a.length + (sub.length + b.length)) (a.map Nd.ptr ++ (sub.map Nd.ptr ++ b.map Nd.ptr)) H3 ∧ AllAt H3 h sub ∧ PutOut h m e sub) ?_
        intro c' u H' w' hG'
        have hS' := hG'.sub
        (repeat (first | refine depGo_eq rfl rfl rfl ?_ | (refine depGo_fact rfl rfl rfl ?_; intro v hv) | refine depGo_skip rfl ?_ | refine depGo_none rfl ?_))
        obtain ⟨sub, ⟨B2, d2, rfl, hd2, hsl2, hk2⟩, hp⟩ := hv
        have i1 : IsSl 1 (.slice B a.length d) a.length (a.map Nd.ptr) H' := ⟨B, d, rfl, by omega, hs1.mono hG'.le, by simp⟩
        have i2 : IsSl 1 (.slice B2 sub.length d2) sub.length (sub.map Nd.ptr) H' := ⟨B2, d2, rfl, hd2, hsl2, by simp⟩
        have i3 : IsSl 1 (.slice (slAddr B d (a.length + 1) 1) (x.kids.length - (a.length + 1)) (d - (a.length + 1))) b.length (b.map Nd.ptr) H' := ⟨_, _, by rw [hbl], by omega, hs2.mono hG'.le, by simp⟩
        refine depGo_nil ?_
        refine W_buildOnes hS' (by omega) (by rfl) (by rfl) ?_
        intro H3 w3 g hG3 hb3 _ _
        exact ⟨H3, hG3.le, hG'.trans hG3, fun H'' hle => ⟨sub, (isCat3 hb3 hG3.le i1 i2 i3 (ptr_one _) (ptr_one _) (ptr_one _)).mono hle, (hk2.mono hG3.le).mono hle, hp⟩⟩
      (apply steps_cons; case h1 => (refine A_fact (φ := (fun v H3 => ∃ sub, NdsAt H3 h v (a ++ sub ++ b) ∧ PutOut h m e sub)) ?_; intro c' u H' w' hG'; have hS' := hG'.sub; (repeat (first | refine depGo_eq rfl rfl rfl ?_ | (refine depGo_fact rfl rfl rfl ?_; intro v hv) | refine depGo_skip rfl ?_ | refine depGo_none rfl ?_)); rename_i v1 hv1; obtain ⟨sub, hcat, hk2, hp⟩ := hv1; refine depGo_nil ?_; refine W_call hS' (by rfl) ((have hsn := hp.len; cat_Node H' _ _ _ _ hcat (by omega) (by omega))) ?_; intro v H3 w3 hG3 hr; exact ⟨H3, hG3.le, hG'.trans hG3, fun H'' hle => ⟨sub, nds_of (by
          have e1 : (a ++ sub ++ b).length = a.length + (sub.length + b.length) := by rw [List.length_append, List.length_append]; omega
          rw [e1, List.map_append, List.map_append, List.append_assoc]; exact hr.mono hle) (((hka.mono hG'.le).append hk2).append (hkb.mono hG'.le) |>.mono hG3.le |>.mono hle), hp⟩⟩))
      (apply steps_cons; case h1 => (refine A_fact (φ := (fun v H3 => ∃ sub out, NdsAt H3 (h + 1) v out ∧ branchesOut (a ++ sub ++ b) out ∧ PutOut h m e sub ∧ ∀ k ∈ out, H k.blk = none)) ?_; intro c' u H' w' hG'; have hS' := hG'.sub; (repeat (first | refine depGo_eq rfl rfl rfl ?_ | (refine depGo_fact rfl rfl rfl ?_; intro v hv) | refine depGo_skip rfl ?_ | refine depGo_none rfl ?_)); obtain ⟨sub, ⟨B3, d3, rfl, hd3, hsl3, hk3⟩, hp⟩ := hv; refine depGo_nil ?_; refine W_call hS' (by rfl) ((branches_c H' B3 d3 h (a ++ sub ++ b) hsl3 hk3 hd3 (by have hsn := hp.len; have h5 := hok.1; simp; omega) (by have hsn := hp.len; simp; omega) ((Nd.chain_iff hk3.ok).2 (by rw [put_items hok h1 h3 h4 hp]; exact rise_withL e hok.2.2.2)) (by omega))) ?_; intro v H3 w3 hG3 hr; exact ⟨H3, hG3.le, hG'.trans hG3, fun H'' hle => (by
          obtain ⟨out, q1, q2, q3⟩ := hr
          exact ⟨sub, out, q1.mono hle, q2, hp, fun k hk => hG'.le.none (q3 k hk)⟩)⟩))
      apply steps_cons; case h1 => (refine A_fact (φ := (fun v H3 => ∃ sub out, NdsAt H3 (h + 1) v out ∧ branchesOut (a ++ sub ++ b) out ∧ PutOut h m e sub ∧ ∀ k ∈ out, H k.blk = none)) ?_; intro c u H' w' hG; (repeat (first | refine depGo_eq rfl rfl rfl ?_ | (refine depGo_fact rfl rfl rfl ?_; intro v hv) | refine depGo_skip rfl ?_ | refine depGo_none rfl ?_)); refine depGo_nil ?_; refine W_assign (by rfl) ?_; exact ⟨H', HLe.refl _, hG, fun H'' hle => (fun ⟨sub, out, q1, q2, q3, q4⟩ hle => ⟨sub, out, q1.mono hle, q2, q3, q4⟩) hv hle⟩)
      exact trivial
    · intro H' w' hG'
      (repeat (first | refine fin_eq rfl rfl ?_ | (refine fin_fact rfl ?_; intro v hv) | refine fin_none rfl ?_)); refine fin_nil ?_
      (refine CW_ret ?_)
      obtain ⟨sub, out, q1, q2, q3, q4⟩ := hv
      exact ⟨_, ResW_one (v := v) rfl, H', hG.trans hG', out, q1, put_branch hok h1 h3 h4 q3 q2, fun k hk => hle.none (q4 k hk)⟩
/-! ### Put -/
def Tr.blocks : Tr → List Nat
  | none => []
  | some x => Nd.blocks x.1 x.2
structure Putted (H : HF) (t : Tr) (e : Ent) (t' : Tr) : Prop where
  items : t'.items = withL t.items e
  full : t.full = true → t'.full = true
  same : look t.items e.key = some e → t' = t
  fresh : look t.items e.key ≠ some e → ∃ (h : Nat) (x : Nd h), t' = trOf x ∧ H x.blk = none
  blocks : ∃ N : List Nat, N.length ≤ 2 * t.height + 1 ∧ ∀ b ∈ t'.blocks, b ∈ N ∨ b ∈ t.blocks
theorem Tr.At.ok {H : HF} {t : Tr} (ht : Tr.At H t) : riseB t.items = true ∧ ∀ e ∈ t.items, entOk e = true := by
  cases t with
  | none => exact ⟨rfl, by intro e he; cases he⟩
  | some x => exact ⟨(Nd.ok_len (NodeAt.ok ht)).2, Nd.ok_ents (NodeAt.ok ht)⟩
theorem withL_same {l : List Ent} (hr : riseB l = true) {e : Ent} (h : look l e.key = some e) : withL l e = l := by
  rcases split_at hr e.key with ⟨p, q, rfl, h1, h2⟩ | ⟨p, x, q, rfl, h1, hx, h2⟩
  · rw [look_no h1 h2] at h; cases h
  · rw [look_yes h1 hx h2] at h
    cases h
    rw [withL_yes h1 rfl h2]
theorem look_iff {l : List Ent} {e : Ent} : look l e.key = some e ↔ lookB l e.key = true ∧ lookV l e.key = e.val := by
  cases hl : look l e.key with
  | none => simp [lookB, hl]
  | some x =>
    have hk := (look_at hl).2.2.2
    simp only [lookB, lookV, hl, Option.isSome_some, Option.map_some, Option.getD_some, true_and, Option.some.injEq]
    constructor
    · intro h; rw [h]
    · intro h; cases x; cases e; simp_all
theorem putted_same {H : HF} {t : Tr} {e : Ent} (ht : Tr.At H t) (h : look t.items e.key = some e) : Putted H t e t :=
  ⟨(withL_same ht.ok.1 h).symm, fun h => h, fun _ => rfl, fun h2 => absurd h h2, [], by simp, fun b hb => .inr hb⟩
theorem putted_one {H : HF} {h : Nat} {x y : Nd h} {e : Ent} (hp : PutOut h x e [y]) (hf : H y.blk = none) (hn : look (Nd.items h x) e.key ≠ some e) : Putted H (trOf x) e (trOf y) := by
  obtain ⟨N, hN, hb⟩ := hp.blocks
  refine ⟨by have := hp.items; rw [List.flatMap_singleton] at this; exact this, fun hfx => hp.full hfx y (by simp), fun h => absurd h hn, fun _ => ⟨h, y, rfl, hf⟩, N, by simp [Tr.height, trOf]; omega, fun b hb2 => hb y (by simp) b hb2⟩
theorem putted_two {H : HF} {h : Nat} {x y z : Nd h} {e : Ent} {g : Nat} (hp : PutOut h x e [y, z]) (hf : H g = none) (hn : look (Nd.items h x) e.key ≠ some e) : Putted H (trOf x) e (trOf (Nd.branch g [y, z])) := by
  obtain ⟨N, hN, hb⟩ := hp.blocks
  refine ⟨?_, fun hfx => ?_, fun h => absurd h hn, fun _ => ⟨h + 1, _, rfl, hf⟩, g :: N, by simp [Tr.height, trOf]; omega, fun b hb2 => ?_⟩
  · have := hp.items
    show ([y, z] : List (Nd h)).flatMap (Nd.items h) = _
    exact this
  · show ([y, z] : List (Nd h)).all (fun k => Nd.enough h k && Nd.full h k) = true
    simp only [List.all_eq_true, Bool.and_eq_true]
    exact fun k hk => ⟨hp.two hfx (.inr rfl) k hk, hp.full hfx k hk⟩
  · have hb2 : b ∈ Nd.blocks (h + 1) (Nd.branch g [y, z]) := hb2
    simp only [Nd.blocks, Nd.kids_branch, Nd.blk_branch, List.mem_cons, List.mem_flatMap] at hb2
    rcases hb2 with rfl | ⟨k, hk, hb2⟩
    · exact .inl (by simp)
    · rcases hb k (by simpa using hk) b hb2 with h | h
      · exact .inl (by simp [h])
      · exact .inr h
theorem putted_nil {H : HF} {e : Ent} {b : Nat} (hf : H b = none) : Putted H none e (trOf (Nd.leaf b [e])) :=
  ⟨rfl, fun _ => rfl, fun h => (by cases h), fun _ => ⟨0, _, rfl, hf⟩, [b], by simp [Tr.height], fun q hq => .inl hq⟩
theorem Putted.old {H0 H : HF} {t t' : Tr} {e : Ent} (h : Putted H t e t') (hle : HLe H0 H) : Putted H0 t e t' :=
  ⟨h.items, h.full, h.same, fun hn => by
    obtain ⟨k, x, h1, h2⟩ := h.fresh hn
    exact ⟨k, x, h1, hle.none h2⟩, h.blocks⟩
theorem put_nil_c (H : HF) (e : Ent) (he : entOk e = true) : Fn Try.prog 62 [.pointer none, .agg #[.string e.key, .string e.val]] H fun v H' => ∃ b, OneAt H H' 0 v (.leaf b [e]) := by
  refine Fn_of_CW Try.func62 rfl Try.ntmps62 Try.results62 rfl fun w hS => ?_; have hG := Grow.refl hS; have hS0 := hS
  (refine CW_seq ?_; refine CW_region rfl ?_)
  (refine S_op (W_boxAgg hS (by rfl) ?_)); intro H w _ hG' hb; replace hG := hG.trans hG'; replace hS := hG'.sub; clear hG'
  (refine S_op ?_; refine W_assignSl (by first | rfl | assumption) ?_; refine S_nil ?_; refine CW_seq ?_; refine CW_seq ?_; refine CW_region rfl ?_; refine S_op ?_; refine W_movePtr (by first | rfl | assumption) ?_)
  (refine S_op ?_; refine W_call hS (by rfl) (height_nil (H := H)) ?_); rintro v H w hG' rfl; replace hG := hG.trans hG'; replace hS := hG'.sub; replace hb := hG'.le _ _ hb; clear hG'
  have hle := hG.le
  (refine S_op ?_; refine W_leqT (by first | rfl | assumption) (by first | rfl | assumption) (by first | omega | rfl) ?_; refine S_nil ?_; refine CW_true (by first | rfl | assumption) ?_; refine CW_seq ?_)
  apply CW_region_grow [_, _, _, _, _, _] [none, none, none, none, none, none] [some 10, some 11, some 12, some 13, some 14, some 4] [10, 11, 12, 13, 14, 4] mixed rfl rfl rfl rfl (by decide) rfl (by assumption)
  · ((apply steps_cons; case h1 => (apply A_pure; intro c u H' w' hG; have hS' := hG.sub; have hS2' := hG.subOld; (repeat (first | refine depGo_eq rfl rfl rfl ?_ | (refine depGo_fact rfl rfl rfl ?_; intro v hv) | refine depGo_skip rfl ?_ | refine depGo_none rfl ?_)); apply Pure1.mk; intro K hk; exact W_movePtr (by first | rfl | assumption) hk)))
    (apply steps_cons; case h1 => (refine A_fact (φ := (fun v H => v = .slice none 0 0)) ?_; intro c' u H' w' hG; have hS' := hG.sub; (repeat (first | refine depGo_eq rfl rfl rfl ?_ | (refine depGo_fact rfl rfl rfl ?_; intro v hv) | refine depGo_skip rfl ?_ | refine depGo_none rfl ?_)); refine depGo_nil ?_; refine W_call hS' (by rfl) (entries_nil) ?_; intro v H3 w3 hG3 hr; exact ⟨H3, hG3.le, hG.trans hG3, fun H'' hle => hr⟩))
    ((apply steps_cons; case h1 => (apply A_pure; intro c u H' w' hG; have hS' := hG.sub; have hS2' := hG.subOld; (repeat (first | refine depGo_eq rfl rfl rfl ?_ | (refine depGo_fact rfl rfl rfl ?_; intro v hv) | refine depGo_skip rfl ?_ | refine depGo_none rfl ?_)); apply Pure1.mk; intro K hk; exact W_loadWhole (by first | rfl | assumption) (by assumption) (by rfl) (by assumption) hk)))
    (apply steps_cons; case h1 => (refine A_fact (φ := (fun v H => IsEnts v [e] H)) ?_; intro c' u H' w' hG; have hS' := hG.sub; (repeat (first | refine depGo_eq rfl rfl rfl ?_ | (refine depGo_fact rfl rfl rfl ?_; intro v hv) | refine depGo_skip rfl ?_ | refine depGo_none rfl ?_)); refine depGo_nil ?_; refine W_call hS' (by rfl) (with_c H' none 0 [] e (.inl rfl) (Nat.le_refl _) (by simp)) ?_; intro v H3 w3 hG3 hr; exact ⟨H3, hG3.le, hG.trans hG3, fun H'' hle => hr.mono hle⟩))
    (apply steps_cons; case h1 => (refine A_fact (φ := (fun v H3 => ∃ b, OneAt H H3 0 v (.leaf b [e]))) ?_; intro c' u H' w' hG'; have hS' := hG'.sub; (repeat (first | refine depGo_eq rfl rfl rfl ?_ | (refine depGo_fact rfl rfl rfl ?_; intro v hv) | refine depGo_skip rfl ?_ | refine depGo_none rfl ?_)); obtain ⟨A1, c1, rfl, hc1, hl1⟩ := hv; refine depGo_nil ?_; refine W_call hS' (by rfl) (leaves1_c H' A1 c1 [e] hl1 hc1 (by simp [leafB, riseB, he])) ?_; intro v H3 w3 hG3 hr; exact ⟨H3, hG3.le, hG'.trans hG3, fun H'' hle => (by
        obtain ⟨b, g, E, h1, h2, h3, h4⟩ := hr
        exact ⟨b, g, E, h1, hle _ _ h2, h3.mono hle, hG'.le.none h4⟩)⟩))
    apply steps_cons; case h1 => (refine A_fact (φ := (fun v H3 => ∃ b, OneAt H H3 0 v (.leaf b [e]))) ?_; intro c u H' w' hG; (repeat (first | refine depGo_eq rfl rfl rfl ?_ | (refine depGo_fact rfl rfl rfl ?_; intro v hv) | refine depGo_skip rfl ?_ | refine depGo_none rfl ?_)); refine depGo_nil ?_; refine W_assign (by rfl) ?_; exact ⟨H', HLe.refl _, hG, fun H'' hle => (fun ⟨b, h1⟩ hle => ⟨b, h1.mono hle⟩) hv hle⟩)
    exact trivial
  · intro H' w' hG'
    (repeat (first | refine fin_eq rfl rfl ?_ | (refine fin_fact rfl ?_; intro v hv) | refine fin_none rfl ?_)); refine fin_nil ?_
    (refine CW_ret ?_)
    obtain ⟨b, g, E, h1, h2, h3, h4⟩ := hv
    exact ⟨_, ResW_one (v := v) rfl, H', hG.trans hG', b, g, E, h1, h2, h3, hle.none h4⟩
theorem put_t (H : HF) (t : Tr) (e : Ent) (ht : Tr.At H t) (hh : t.height ≤ 800000) :
    Fn Try.prog 44 [t.val, .agg #[.string e.key, .string e.val]] H fun v H' =>
      (rKey e.key ≠ 0 ∧ v = .tuple #[.pointer none, .int .i64 (rKey e.key : Nat)]) ∨ (rKey e.key = 0 ∧ rValue e.val ≠ 0 ∧ v = .tuple #[.pointer none, .int .i64 (rValue e.val : Nat)]) ∨
      (entOk e = true ∧ ∃ t', v = .tuple #[Tr.val t', .int .i64 0] ∧ Tr.At H' t' ∧ Putted H t e t') := by
  refine Fn_of_CW Try.func44 rfl Try.ntmps44 Try.results44 rfl fun w hS => ?_; have hG := Grow.refl hS; have hS0 := hS
  (refine CW_seq ?_; refine CW_region rfl ?_)
  (refine S_op (W_boxAgg hS (by rfl) ?_)); intro H w _ hG' hb; replace hG := hG.trans hG'; replace hS := hG'.sub; replace ht := ht.mono hG'.le; clear hG'
  (refine S_op ?_; refine W_assignPtr (by first | rfl | assumption) ?_; refine S_op ?_; refine W_assignInt (by first | rfl | assumption) ?_; refine S_nil ?_; refine CW_seq ?_; refine CW_seq ?_; refine CW_region rfl ?_; refine S_op ?_; refine W_field (by first | rfl | assumption) ?_; refine S_op ?_; refine W_loadHL (by first | rfl | assumption) (by assumption) (by rfl) (by assumption) ?_)
  (refine S_op ?_; refine W_call hS (by rfl) (key_c H e.key) ?_); rintro v H w hG' rfl; replace hG := hG.trans hG'; replace hS := hG'.sub; replace ht := ht.mono hG'.le; replace hb := hG'.le _ _ hb; clear hG'
  by_cases hk : rKey e.key = 0
  · (refine S_op ?_; refine W_assignInt (by first | rfl | assumption) ?_; refine S_nil ?_; refine CW_seq ?_; refine CW_region rfl ?_; refine S_op ?_; refine W_moveInt (by first | rfl | assumption) ?_; refine S_op ?_; refine W_neqF (by first | rfl | assumption) (by first | rfl | assumption) (by first | omega | rfl) ?_; refine S_nil ?_; refine CW_false (by first | rfl | assumption) ?_; refine CW_skip ?_; refine CW_seq ?_; refine CW_seq ?_; refine CW_region rfl ?_; refine S_op ?_; refine W_field (by first | rfl | assumption) ?_; refine S_op ?_; refine W_loadHL (by first | rfl | assumption) (by assumption) (by rfl) (by assumption) ?_)
    (refine S_op ?_; refine W_call hS (by rfl) (value_c H e.val) ?_); rintro v H w hG' rfl; replace hG := hG.trans hG'; replace hS := hG'.sub; replace ht := ht.mono hG'.le; replace hb := hG'.le _ _ hb; clear hG'
    by_cases hv : rValue e.val = 0
    · have he : entOk e = true := by simp [entOk, hk, hv]
      (refine S_op ?_; refine W_assignInt (by first | rfl | assumption) ?_; refine S_nil ?_; refine CW_seq ?_; refine CW_region rfl ?_; refine S_op ?_; refine W_moveInt (by first | rfl | assumption) ?_; refine S_op ?_; refine W_neqF (by first | rfl | assumption) (by first | rfl | assumption) (by first | omega | rfl) ?_; refine S_nil ?_; refine CW_false (by first | rfl | assumption) ?_; refine CW_skip ?_; refine CW_seq ?_; refine CW_seq ?_; refine CW_region rfl ?_; refine S_op ?_; refine W_movePtr (by first | rfl | assumption) ?_; refine S_op ?_; refine W_field (by first | rfl | assumption) ?_; refine S_op ?_; refine W_loadHL (by first | rfl | assumption) (by assumption) (by rfl) (by assumption) ?_)
      (refine S_op ?_; refine W_call hS (by rfl) (get_t ht e.key (by omega)) ?_); rintro v H w hG' rfl; replace hG := hG.trans hG'; replace hS := hG'.sub; replace ht := ht.mono hG'.le; replace hb := hG'.le _ _ hb; clear hG'
      have hle := hG.le
      by_cases hsame : look t.items e.key = some e
      · obtain ⟨q1, q2⟩ := look_iff.1 hsame
        rw [q1]
        (refine S_op ?_; refine W_moveTup (by first | rfl | assumption) ?_; refine S_op ?_; refine W_extract (by first | rfl | assumption) (by rfl) ?_; refine S_op ?_; refine W_extract (by first | rfl | assumption) (by rfl) ?_; refine S_op ?_; refine W_assignStr (by first | rfl | assumption) ?_; refine S_op ?_; refine W_assignBool (by first | rfl | assumption) ?_; refine S_nil ?_; refine CW_seq ?_; refine CW_region rfl ?_; refine S_op ?_; refine W_moveBool (by first | rfl | assumption) ?_; refine S_op ?_; refine W_moveBool (by first | rfl | assumption) ?_; refine S_want (by rfl) ?_; refine W_moveStr (by first | rfl | assumption) ?_; refine S_want (by rfl) ?_; refine W_field (by first | rfl | assumption) ?_; refine S_want (by rfl) ?_; refine W_loadHL (by first | rfl | assumption) (by assumption) (by rfl) (by assumption) ?_; refine S_want (by rfl) ?_; refine W_seqlT (by first | rfl | assumption) (by first | rfl | assumption) (by first | assumption | rfl) ?_; refine S_op ?_; refine W_pickT (by first | rfl | assumption) (by first | rfl | assumption) ?_; refine S_nil ?_; refine CW_true (by first | rfl | assumption) ?_; refine CW_seq ?_; refine CW_region rfl ?_; refine S_op ?_; refine W_movePtr (by first | rfl | assumption) ?_; refine S_op ?_; refine W_assignPtr (by first | rfl | assumption) ?_; refine S_op ?_; refine W_assignInt (by first | rfl | assumption) ?_; refine S_nil ?_; refine CW_ret ?_)
        exact ⟨_, ResW_two (v1 := t.val) (v2 := .int _ _) rfl rfl, H, hG, .inr (.inr ⟨he, t, rfl, ht, (putted_same ht hsame).old hle⟩)⟩
      · cases t with
        | none =>
          have q1 : lookB (Tr.items none) e.key = false := rfl
          rw [q1]
          (refine S_op ?_; refine W_moveTup (by first | rfl | assumption) ?_; refine S_op ?_; refine W_extract (by first | rfl | assumption) (by rfl) ?_; refine S_op ?_; refine W_extract (by first | rfl | assumption) (by rfl) ?_; refine S_op ?_; refine W_assignStr (by first | rfl | assumption) ?_; refine S_op ?_; refine W_assignBool (by first | rfl | assumption) ?_; refine S_nil ?_; refine CW_seq ?_; refine CW_region rfl ?_; refine S_op ?_; refine W_moveBool (by first | rfl | assumption) ?_; refine S_op ?_; refine W_moveBool (by first | rfl | assumption) ?_; refine S_pass (by rfl) ?_; refine S_pass (by rfl) ?_; refine S_pass (by rfl) ?_; refine S_pass (by rfl) ?_; refine S_op ?_; refine W_pickF (by first | rfl | assumption) (by first | rfl | assumption) ?_; refine S_nil ?_; refine CW_false (by first | rfl | assumption) ?_; refine CW_skip ?_; refine CW_seq ?_; refine CW_region rfl ?_; refine S_op ?_; refine W_movePtr (by first | rfl | assumption) ?_; refine S_op ?_; refine W_loadWhole (by first | rfl | assumption) (by assumption) (by rfl) (by assumption) ?_)
          (refine S_op ?_; refine W_call hS (by rfl) (put_nil_c H e he) ?_); rintro v H w hG' ⟨b, g, E, rfl, hg, hx, hf⟩; replace hG := hG.trans hG'; replace hS := hG'.sub; clear hG'
          skip
          (refine S_op ?_; refine W_call hS (by rfl) (branches0_c H _ 1 1 (Nat.le_refl _)) ?_); rintro v H w hG' rfl; replace hG := hG.trans hG'; replace hS := hG'.sub; replace hg := hG'.le _ _ hg; replace hx := hx.mono hG'.le; clear hG'
          (refine S_op ?_; refine W_index (by first | rfl | assumption) (by first | rfl | assumption) (by first | assumption | omega | decide) (by first | rfl | assumption) ?_; refine S_op ?_; refine W_loadHL (by first | rfl | assumption) (by assumption) (by rfl) (by assumption) ?_; refine S_op ?_; refine W_assignPtr (by first | rfl | assumption) ?_; refine S_op ?_; refine W_assignInt (by first | rfl | assumption) ?_; refine S_nil ?_; refine CW_ret ?_)
          exact ⟨_, ResW_two (v1 := .pointer _) (v2 := .int _ _) rfl rfl, H, hG, .inr (.inr ⟨he, trOf (Nd.leaf b [e]), rfl, hx, (putted_nil hf).old hle⟩)⟩
        | some x =>
          obtain ⟨h, x⟩ := x
          have hx : NodeAt H h x := ht
          have hh : h + 1 ≤ 800000 := hh
          have hns : ¬ (lookB (Tr.items (some ⟨h, x⟩)) e.key = true ∧ lookV (Tr.items (some ⟨h, x⟩)) e.key = e.val) := fun hq => hsame (look_iff.2 hq)
          cases hlb : lookB (Tr.items (some ⟨h, x⟩)) e.key with
          | false =>
            (refine S_op ?_; refine W_moveTup (by first | rfl | assumption) ?_; refine S_op ?_; refine W_extract (by first | rfl | assumption) (by rfl) ?_; refine S_op ?_; refine W_extract (by first | rfl | assumption) (by rfl) ?_; refine S_op ?_; refine W_assignStr (by first | rfl | assumption) ?_; refine S_op ?_; refine W_assignBool (by first | rfl | assumption) ?_; refine S_nil ?_; refine CW_seq ?_; refine CW_region rfl ?_; refine S_op ?_; refine W_moveBool (by first | rfl | assumption) ?_; refine S_op ?_; refine W_moveBool (by first | rfl | assumption) ?_; refine S_pass (by rfl) ?_; refine S_pass (by rfl) ?_; refine S_pass (by rfl) ?_; refine S_pass (by rfl) ?_; refine S_op ?_; refine W_pickF (by first | rfl | assumption) (by first | rfl | assumption) ?_; refine S_nil ?_; refine CW_false (by first | rfl | assumption) ?_; refine CW_skip ?_; refine CW_seq ?_; refine CW_region rfl ?_; refine S_op ?_; refine W_movePtr (by first | rfl | assumption) ?_; refine S_op ?_; refine W_loadWhole (by first | rfl | assumption) (by assumption) (by rfl) (by assumption) ?_)
            (refine S_op ?_; refine W_call hS (by rfl) (put_c h H x e hx he (by omega)) ?_); rintro v H w hG' ⟨ks, ⟨B, d, rfl, hd, hsl, hk⟩, hp, hf⟩; replace hG := hG.trans hG'; replace hS := hG'.sub; clear hG'
            have hl := hp.len
            match ks, hl with
            | [y], _ =>
              obtain ⟨bb, off, hA, hrow⟩ := slAt_some hsl (q := 0) (by simp)
              have hget : ([y].map Nd.ptr)[0 * 1]? = some y.ptr := rfl
              skip
              (refine S_op ?_; refine W_call hS (by rfl) (branches0_c H B 1 d (Nat.le_refl _)) ?_); rintro v H w hG' rfl; replace hG := hG.trans hG'; replace hS := hG'.sub; replace hk := hk.mono hG'.le; replace hrow := hrow.mono hG'.le; clear hG'
              have hq0 : 0 < [y].length := by simp
              (refine S_op ?_; refine W_index (by first | rfl | assumption) (by first | rfl | assumption) (by first | assumption | omega | decide) (by first | rfl | assumption) ?_)
              refine S_op (W_loadRow (j := 0 * 1) (by rfl) hrow hget hS ?_)
              (refine S_op ?_; refine W_assignPtr (by first | rfl | assumption) ?_; refine S_op ?_; refine W_assignInt (by first | rfl | assumption) ?_; refine S_nil ?_; refine CW_ret ?_)
              exact ⟨_, ResW_two (v1 := y.ptr) (v2 := .int _ _) rfl rfl, H, hG, .inr (.inr ⟨he, trOf y, rfl, hk y (by simp), (putted_one hp (hf y (by simp)) hsame).old hle⟩)⟩
            | [y, z], _ =>
              have hch : Nd.chain [y, z] = true := (Nd.chain_iff hk.ok).2 (by rw [hp.items]; exact rise_withL e (Nd.ok_len hx.ok).2)
              skip
              have hle2 := hG.le
              (refine S_op ?_; refine W_call hS (by rfl) (branches1_c H B d h [y, z] hsl hk hd (by simp) (by simp) hch (by omega)) ?_); rintro v H w hG' ⟨g, gg, E, rfl, hgg, hx2, hf2⟩; replace hG := hG.trans hG'; replace hS := hG'.sub; clear hG'
              (refine S_op ?_; refine W_index (by first | rfl | assumption) (by first | rfl | assumption) (by first | assumption | omega | decide) (by first | rfl | assumption) ?_; refine S_op ?_; refine W_loadHL (by first | rfl | assumption) (by assumption) (by rfl) (by assumption) ?_; refine S_op ?_; refine W_assignPtr (by first | rfl | assumption) ?_; refine S_op ?_; refine W_assignInt (by first | rfl | assumption) ?_; refine S_nil ?_; refine CW_ret ?_)
              exact ⟨_, ResW_two (v1 := .pointer _) (v2 := .int _ _) rfl rfl, H, hG, .inr (.inr ⟨he, trOf (Nd.branch g [y, z]), rfl, hx2, (putted_two hp (hle2.none hf2) hsame)⟩)⟩
          | true =>
            have hne : ¬ lookV (Tr.items (some ⟨h, x⟩)) e.key = e.val := fun hq => hns ⟨hlb, hq⟩
            (refine S_op ?_; refine W_moveTup (by first | rfl | assumption) ?_; refine S_op ?_; refine W_extract (by first | rfl | assumption) (by rfl) ?_; refine S_op ?_; refine W_extract (by first | rfl | assumption) (by rfl) ?_; refine S_op ?_; refine W_assignStr (by first | rfl | assumption) ?_; refine S_op ?_; refine W_assignBool (by first | rfl | assumption) ?_; refine S_nil ?_; refine CW_seq ?_; refine CW_region rfl ?_; refine S_op ?_; refine W_moveBool (by first | rfl | assumption) ?_; refine S_op ?_; refine W_moveBool (by first | rfl | assumption) ?_; refine S_want (by rfl) ?_; refine W_moveStr (by first | rfl | assumption) ?_; refine S_want (by rfl) ?_; refine W_field (by first | rfl | assumption) ?_; refine S_want (by rfl) ?_; refine W_loadHL (by first | rfl | assumption) (by assumption) (by rfl) (by assumption) ?_; refine S_want (by rfl) ?_; refine W_seqlF (by first | rfl | assumption) (by first | rfl | assumption) (by assumption) ?_; refine S_op ?_; refine W_pickT (by first | rfl | assumption) (by first | rfl | assumption) ?_; refine S_nil ?_; refine CW_false (by first | rfl | assumption) ?_; refine CW_skip ?_; refine CW_seq ?_; refine CW_region rfl ?_; refine S_op ?_; refine W_movePtr (by first | rfl | assumption) ?_; refine S_op ?_; refine W_loadWhole (by first | rfl | assumption) (by assumption) (by rfl) (by assumption) ?_)
            (refine S_op ?_; refine W_call hS (by rfl) (put_c h H x e hx he (by omega)) ?_); rintro v H w hG' ⟨ks, ⟨B, d, rfl, hd, hsl, hk⟩, hp, hf⟩; replace hG := hG.trans hG'; replace hS := hG'.sub; clear hG'
            have hl := hp.len
            match ks, hl with
            | [y], _ =>
              obtain ⟨bb, off, hA, hrow⟩ := slAt_some hsl (q := 0) (by simp)
              have hget : ([y].map Nd.ptr)[0 * 1]? = some y.ptr := rfl
              skip
              (refine S_op ?_; refine W_call hS (by rfl) (branches0_c H B 1 d (Nat.le_refl _)) ?_); rintro v H w hG' rfl; replace hG := hG.trans hG'; replace hS := hG'.sub; replace hk := hk.mono hG'.le; replace hrow := hrow.mono hG'.le; clear hG'
              have hq0 : 0 < [y].length := by simp
              (refine S_op ?_; refine W_index (by first | rfl | assumption) (by first | rfl | assumption) (by first | assumption | omega | decide) (by first | rfl | assumption) ?_)
              refine S_op (W_loadRow (j := 0 * 1) (by rfl) hrow hget hS ?_)
              (refine S_op ?_; refine W_assignPtr (by first | rfl | assumption) ?_; refine S_op ?_; refine W_assignInt (by first | rfl | assumption) ?_; refine S_nil ?_; refine CW_ret ?_)
              exact ⟨_, ResW_two (v1 := y.ptr) (v2 := .int _ _) rfl rfl, H, hG, .inr (.inr ⟨he, trOf y, rfl, hk y (by simp), (putted_one hp (hf y (by simp)) hsame).old hle⟩)⟩
            | [y, z], _ =>
              have hch : Nd.chain [y, z] = true := (Nd.chain_iff hk.ok).2 (by rw [hp.items]; exact rise_withL e (Nd.ok_len hx.ok).2)
              skip
              have hle2 := hG.le
              (refine S_op ?_; refine W_call hS (by rfl) (branches1_c H B d h [y, z] hsl hk hd (by simp) (by simp) hch (by omega)) ?_); rintro v H w hG' ⟨g, gg, E, rfl, hgg, hx2, hf2⟩; replace hG := hG.trans hG'; replace hS := hG'.sub; clear hG'
              (refine S_op ?_; refine W_index (by first | rfl | assumption) (by first | rfl | assumption) (by first | assumption | omega | decide) (by first | rfl | assumption) ?_; refine S_op ?_; refine W_loadHL (by first | rfl | assumption) (by assumption) (by rfl) (by assumption) ?_; refine S_op ?_; refine W_assignPtr (by first | rfl | assumption) ?_; refine S_op ?_; refine W_assignInt (by first | rfl | assumption) ?_; refine S_nil ?_; refine CW_ret ?_)
              exact ⟨_, ResW_two (v1 := .pointer _) (v2 := .int _ _) rfl rfl, H, hG, .inr (.inr ⟨he, trOf (Nd.branch g [y, z]), rfl, hx2, (putted_two hp (hle2.none hf2) hsame)⟩)⟩
    · (refine S_op ?_; refine W_assignInt (by first | rfl | assumption) ?_; refine S_nil ?_; refine CW_seq ?_; refine CW_region rfl ?_; refine S_op ?_; refine W_moveInt (by first | rfl | assumption) ?_; refine S_op ?_; refine W_neqT (by first | rfl | assumption) (by first | rfl | assumption) (by first | omega | rfl) ?_; refine S_nil ?_; refine CW_true (by first | rfl | assumption) ?_; refine CW_seq ?_; refine CW_region rfl ?_; refine S_op ?_; refine W_moveInt (by first | rfl | assumption) ?_; refine S_op ?_; refine W_assignPtr (by first | rfl | assumption) ?_; refine S_op ?_; refine W_assignInt (by first | rfl | assumption) ?_; refine S_nil ?_; refine CW_ret ?_)
      exact ⟨_, ResW_two (v1 := .pointer _) (v2 := .int _ _) rfl rfl, H, hG, .inr (.inl ⟨hk, hv, rfl⟩)⟩
  · (refine S_op ?_; refine W_assignInt (by first | rfl | assumption) ?_; refine S_nil ?_; refine CW_seq ?_; refine CW_region rfl ?_; refine S_op ?_; refine W_moveInt (by first | rfl | assumption) ?_; refine S_op ?_; refine W_neqT (by first | rfl | assumption) (by first | rfl | assumption) (by first | omega | rfl) ?_; refine S_nil ?_; refine CW_true (by first | rfl | assumption) ?_; refine CW_seq ?_; refine CW_region rfl ?_; refine S_op ?_; refine W_moveInt (by first | rfl | assumption) ?_; refine S_op ?_; refine W_assignPtr (by first | rfl | assumption) ?_; refine S_op ?_; refine W_assignInt (by first | rfl | assumption) ?_; refine S_nil ?_; refine CW_ret ?_)
    exact ⟨_, ResW_two (v1 := .pointer _) (v2 := .int _ _) rfl rfl, H, hG, .inl ⟨hk, rfl⟩⟩
end Go.Proofs.Ytgaabmoknpifnaa
/- tree: what is left of a node that something was taken from: walked. Conditions: sizes. -/
namespace Go.Proofs.Ytgaabmoknpifnaa
open Go.Proofs Go.RowKit
set_option linter.unusedVariables false
attribute [local irreducible] CW SeqW OpW
set_option maxHeartbeats 4000000
/-- Parts: entries and kids. -/
def PtAt (H : HF) (h : Nat) (v : Value) (es : List Ent) (ks : List (Nd h)) : Prop :=
  ∃ A c B d, v = .agg #[.slice A es.length c, .slice B ks.length d] ∧ es.length ≤ c ∧ ks.length ≤ d ∧ EntsAt H A es ∧ SlAt H B (ks.map Nd.ptr) ∧ AllAt H h ks
theorem PtAt.mono {H H' : HF} {h : Nat} {v : Value} {es : List Ent} {ks : List (Nd h)} (hp : PtAt H h v es ks) (hle : HLe H H') : PtAt H' h v es ks := by
  obtain ⟨A, c, B, d, h1, h2, h3, h4, h5, h6⟩ := hp
  exact ⟨A, c, B, d, h1, h2, h3, h4.mono hle, h5.mono hle, h6.mono hle⟩
theorem closedMut (b : Nat) (cs : List Value) : Closed fun H w => Mut H w b cs := fun _ _ _ _ h k => h.grow k
theorem Closed.and {M N : HF → World → Prop} (h : Closed M) (k : Closed N) : Closed fun H w => M H w ∧ N H w := fun _ _ _ _ hm hg => ⟨h _ _ _ _ hm.1 hg, k _ _ _ _ hm.2 hg⟩
/-- A variable of the call's own holds parts. -/
def MutPt (b h : Nat) (es : List Ent) (ks : List (Nd h)) (H : HF) (w : World) : Prop := ∃ u1 u2, Mut H w b [u1, u2] ∧ PtAt H h (.agg #[u1, u2]) es ks
theorem closedPt (b h : Nat) (es : List Ent) (ks : List (Nd h)) : Closed (MutPt b h es ks) := fun _ _ _ _ ⟨u1, u2, hm, hp⟩ hg => ⟨u1, u2, hm.grow hg, hp.mono hg.le⟩
section
variable {H : HF} {h : Nat} {v : Value} {es : List Ent} {ks : List (Nd h)}
theorem ptSize_c (hp : PtAt H h v es ks) (h1 : es.length ≤ 1000) (h2 : ks.length ≤ 1000) : Fn Try.prog 74 [v] H fun r _ => r = .int .i64 ((es.length + ks.length : Nat) : Int) := by
  obtain ⟨A, c, B, d, rfl, h1, h2, h4, h5, h6⟩ := hp
  refine Fn_of_CW Try.func74 rfl Try.ntmps74 Try.results74 rfl fun w hS => ?_; have hG := Grow.refl hS; have hS0 := hS
  (refine CW_seq ?_; refine CW_region rfl ?_)
  (refine S_op (W_boxAgg hS (by rfl) ?_)); intro H w _ hG' hb; replace hG := hG.trans hG'; replace hS := hG'.sub; clear hG'
  (refine S_op ?_; refine W_assignInt (by first | rfl | assumption) ?_; refine S_nil ?_; refine CW_seq ?_; refine CW_region rfl ?_; refine S_op ?_; refine W_field (by first | rfl | assumption) ?_; refine S_op ?_; refine W_loadHL (by first | rfl | assumption) (by assumption) (by rfl) (by assumption) ?_; refine S_op ?_; refine W_len (by first | rfl | assumption) ?_; refine S_op ?_; refine W_field (by first | rfl | assumption) ?_; refine S_op ?_; refine W_loadHL (by first | rfl | assumption) (by assumption) (by rfl) (by assumption) ?_; refine S_op ?_; refine W_len (by first | rfl | assumption) ?_; refine S_op ?_; refine W_addN (by first | rfl | assumption) (by first | rfl | assumption) (by omega) ?_; refine S_op ?_; refine W_assignInt (by first | rfl | assumption) ?_; refine S_nil ?_; refine CW_ret ?_)
  exact ⟨_, ResW_one (v := .int _ _) rfl, H, hG, rfl⟩
theorem least_c (H : HF) (n : Nat) : Fn Try.prog 75 [.int .i64 (n : Int)] H fun r _ => r = .int .i64 ((if n = 1 then 2 else 3 : Nat) : Int) := by
  refine Fn_of_CW Try.func75 rfl Try.ntmps75 Try.results75 rfl fun w hS => ?_; have hG := Grow.refl hS; have hS0 := hS
  by_cases h1 : n = 1
  · (refine CW_seq ?_; refine CW_region rfl ?_; refine S_op ?_; refine W_assignInt (by first | rfl | assumption) ?_; refine S_nil ?_; refine CW_seq ?_; refine CW_seq ?_; refine CW_region rfl ?_; refine S_op ?_; refine W_moveInt (by first | rfl | assumption) ?_; refine S_op ?_; refine W_eqlT (by first | rfl | assumption) (by first | rfl | assumption) (by first | omega | rfl) ?_; refine S_nil ?_; refine CW_true (by first | rfl | assumption) ?_; refine CW_seq ?_; refine CW_region rfl ?_; refine S_op ?_; refine W_assignInt (by first | rfl | assumption) ?_; refine S_nil ?_; refine CW_ret ?_)
    exact ⟨_, ResW_one (v := .int _ _) rfl, H, hG, by rw [if_pos h1]; rfl⟩
  · (refine CW_seq ?_; refine CW_region rfl ?_; refine S_op ?_; refine W_assignInt (by first | rfl | assumption) ?_; refine S_nil ?_; refine CW_seq ?_; refine CW_seq ?_; refine CW_region rfl ?_; refine S_op ?_; refine W_moveInt (by first | rfl | assumption) ?_; refine S_op ?_; refine W_eqlF (by first | rfl | assumption) (by first | rfl | assumption) (by first | omega | rfl) ?_; refine S_nil ?_; refine CW_false (by first | rfl | assumption) ?_; refine CW_skip ?_; refine CW_seq ?_; refine CW_region rfl ?_; refine S_op ?_; refine W_assignInt (by first | rfl | assumption) ?_; refine S_nil ?_; refine CW_ret ?_)
    exact ⟨_, ResW_one (v := .int _ _) rfl, H, hG, by rw [if_neg h1]; rfl⟩
theorem Grow.base {H0 H : HF} {w0 w : World} {b : Nat} (hG : Grow H0 w0 H w) (e : w.heap.size = b) : w0.heap.size ≤ b := by have := hG.below.size; omega
theorem grown_own {H0 H : HF} {w0 w w' : World} {b : Nat} {cs : List Value} (hG : Grow H0 w0 H w) (hg : w.grownBy w' (some b)) (hm : Mut H w b cs) (hb : w0.heap.size ≤ b) : Grow H0 w0 H w' :=
  hG.grownBy hg fun g h => by cases h; exact ⟨hm.out, hb⟩
theorem two_one {u1 u2 : Value} (h1 : u1.oneCell' = true) (h2 : u2.oneCell' = true) : OneCells [u1, u2] := by
  intro u hu
  simp at hu
  rcases hu with rfl | rfl
  · exact h1
  · exact h2
theorem ptWith_c {u : Value} {es2 : List Ent} {ks2 : List (Nd h)} (hp : PtAt H h v es ks) (hq : PtAt H h u es2 ks2) (h1 : es.length ≤ 1000) (h2 : ks.length ≤ 1000) (h3 : es2.length ≤ 1000) (h4 : ks2.length ≤ 1000) :
    Fn Try.prog 77 [v, u] H fun r H' => PtAt H' h r (es ++ es2) (ks ++ ks2) := by
  obtain ⟨A, c, B, d, rfl, p1, p2, p4, p5, p6⟩ := hp
  obtain ⟨A2, c2, B2, d2, rfl, q1, q2, q4, q5, q6⟩ := hq
  have e1 : (es ++ es2).length = es.length + es2.length := by simp
  have e2 : (ks ++ ks2).length = ks.length + ks2.length := by simp
  refine Fn_of_CW Try.func77 rfl Try.ntmps77 Try.results77 rfl fun w hS => ?_; have hG := Grow.refl hS; have hS0 := hS
  (refine CW_seq ?_; refine CW_region rfl ?_)
  (refine S_op (W_boxAgg hS (by rfl) ?_)); intro H w _ hG' hb2; replace hG := hG.trans hG'; replace hS := hG'.sub; replace p4 := p4.mono hG'.le; replace p5 := p5.mono hG'.le; replace p6 := p6.mono hG'.le; replace q4 := q4.mono hG'.le; replace q5 := q5.mono hG'.le; replace q6 := q6.mono hG'.le; clear hG'
  (refine S_op (W_boxAgg hS (by rfl) ?_)); intro H w _ hG' hb3; replace hG := hG.trans hG'; replace hS := hG'.sub; replace p4 := p4.mono hG'.le; replace p5 := p5.mono hG'.le; replace p6 := p6.mono hG'.le; replace q4 := q4.mono hG'.le; replace q5 := q5.mono hG'.le; replace q6 := q6.mono hG'.le; replace hb2 := hG'.le _ _ hb2; clear hG'
  refine S_op ?_
  refine W_alloc hS ?_
  intro w b hG' hbw hm
  replace hbw := hG.base hbw
  replace hG := hG.trans hG'
  replace hS := hG'.sub
  replace hm : Mut H w b [.slice none 0 0, .slice none 0 0] := hm
  clear hG'
  (refine S_nil ?_; refine CW_seq ?_)
  apply CW_region_eff (fun H w => Mut H w b [.slice none 0 0, .slice none 0 0]) (MutPt b h (es ++ es2) (ks ++ ks2)) 0 [_, _, _, _, _, _, _, _, _, _, _, _, _, _] [none, none, none, none, none, none, none, none, none, none, none, none, none, some 0] [some 5, some 6, some 7, some 8, some 9, some 10, some 11, some 12, some 13, some 14, some 15, some 16, some 17, none] [5, 6, 7, 8, 9, 10, 11, 12, 13, 14, 15, 16, 17] mixed rfl rfl rfl rfl (by decide) rfl rfl rfl (by assumption)
  · exact hm
  · exact closedMut b _
  · exact closedPt b h _ _
  · ((apply steps_cons; case h1 => (apply A_pure; intro c u H' w' hG; have hS' := hG.sub; have hS2' := hG.subOld; (repeat (first | refine depGo_eq rfl rfl rfl ?_ | (refine depGo_fact rfl rfl rfl ?_; intro v hv) | refine depGo_skip rfl ?_ | refine depGo_none rfl ?_)); apply Pure1.mk; intro K hk; exact W_field (by first | rfl | assumption) hk)); (apply steps_cons; case h1 => (apply A_pure; intro c u H' w' hG; have hS' := hG.sub; have hS2' := hG.subOld; (repeat (first | refine depGo_eq rfl rfl rfl ?_ | (refine depGo_fact rfl rfl rfl ?_; intro v hv) | refine depGo_skip rfl ?_ | refine depGo_none rfl ?_)); apply Pure1.mk; intro K hk; exact W_loadHL (by first | rfl | assumption) (by assumption) (by rfl) (by assumption) hk)); (apply steps_cons; case h1 => (apply A_pure; intro c u H' w' hG; have hS' := hG.sub; have hS2' := hG.subOld; (repeat (first | refine depGo_eq rfl rfl rfl ?_ | (refine depGo_fact rfl rfl rfl ?_; intro v hv) | refine depGo_skip rfl ?_ | refine depGo_none rfl ?_)); apply Pure1.mk; intro K hk; exact W_field (by first | rfl | assumption) hk)); (apply steps_cons; case h1 => (apply A_pure; intro c u H' w' hG; have hS' := hG.sub; have hS2' := hG.subOld; (repeat (first | refine depGo_eq rfl rfl rfl ?_ | (refine depGo_fact rfl rfl rfl ?_; intro v hv) | refine depGo_skip rfl ?_ | refine depGo_none rfl ?_)); apply Pure1.mk; intro K hk; exact W_loadHL (by first | rfl | assumption) (by assumption) (by rfl) (by assumption) hk)))
    apply steps_cons
    · refine A_fact (φ := fun v H => IsCat 2 v 2 (es.length + es2.length) (entCells es ++ entCells es2) H) ?_
      intro c' u H' w' hG'
      have hS' := hG'.sub
      (repeat (first | refine depGo_eq rfl rfl rfl ?_ | (refine depGo_fact rfl rfl rfl ?_; intro v hv) | refine depGo_skip rfl ?_ | refine depGo_none rfl ?_))
      refine depGo_nil ?_
      refine W_buildOnes hS' (by omega) (by rfl) (by rfl) ?_
      intro H3 w3 g hG3 hb3 _ _
      exact ⟨H3, hG3.le, hG'.trans hG3, fun H'' hle => (isCat2 hb3 hG3.le ⟨A, c, rfl, p1, SlAt.mono p4 hG'.le, entCells_length _⟩ ⟨A2, c2, rfl, q1, SlAt.mono q4 hG'.le, entCells_length _⟩ (entCells_one _) (entCells_one _)).mono hle⟩
    (apply steps_cons; case h1 => (refine A_fact (φ := (fun v H => IsSl 2 v (es.length + es2.length) (entCells es ++ entCells es2) H)) ?_; intro c' u H' w' hG'; have hS' := hG'.sub; (repeat (first | refine depGo_eq rfl rfl rfl ?_ | (refine depGo_fact rfl rfl rfl ?_; intro v hv) | refine depGo_skip rfl ?_ | refine depGo_none rfl ?_)); have hcat := hv; refine depGo_nil ?_; refine W_call hS' (by rfl) (cat_Ent H' _ _ _ _ hcat (by omega) (by omega)) ?_; intro v H3 w3 hG3 hr; exact ⟨H3, hG3.le, hG'.trans hG3, fun H'' hle => hr.mono hle⟩))
    ((apply steps_cons; case h1 => (apply A_pure; intro c u H' w' hG; have hS' := hG.sub; have hS2' := hG.subOld; (repeat (first | refine depGo_eq rfl rfl rfl ?_ | (refine depGo_fact rfl rfl rfl ?_; intro v hv) | refine depGo_skip rfl ?_ | refine depGo_none rfl ?_)); apply Pure1.mk; intro K hk; exact W_field (by first | rfl | assumption) hk)); (apply steps_cons; case h1 => (apply A_pure; intro c u H' w' hG; have hS' := hG.sub; have hS2' := hG.subOld; (repeat (first | refine depGo_eq rfl rfl rfl ?_ | (refine depGo_fact rfl rfl rfl ?_; intro v hv) | refine depGo_skip rfl ?_ | refine depGo_none rfl ?_)); apply Pure1.mk; intro K hk; exact W_loadHL (by first | rfl | assumption) (by assumption) (by rfl) (by assumption) hk)); (apply steps_cons; case h1 => (apply A_pure; intro c u H' w' hG; have hS' := hG.sub; have hS2' := hG.subOld; (repeat (first | refine depGo_eq rfl rfl rfl ?_ | (refine depGo_fact rfl rfl rfl ?_; intro v hv) | refine depGo_skip rfl ?_ | refine depGo_none rfl ?_)); apply Pure1.mk; intro K hk; exact W_field (by first | rfl | assumption) hk)); (apply steps_cons; case h1 => (apply A_pure; intro c u H' w' hG; have hS' := hG.sub; have hS2' := hG.subOld; (repeat (first | refine depGo_eq rfl rfl rfl ?_ | (refine depGo_fact rfl rfl rfl ?_; intro v hv) | refine depGo_skip rfl ?_ | refine depGo_none rfl ?_)); apply Pure1.mk; intro K hk; exact W_loadHL (by first | rfl | assumption) (by assumption) (by rfl) (by assumption) hk)))
    apply steps_cons
    · refine A_fact (φ := fun v H => IsCat 1 v 2 (ks.length + ks2.length) (ks.map Nd.ptr ++ ks2.map Nd.ptr) H) ?_
      intro c' u H' w' hG'
      have hS' := hG'.sub
      (repeat (first | refine depGo_eq rfl rfl rfl ?_ | (refine depGo_fact rfl rfl rfl ?_; intro v hv) | refine depGo_skip rfl ?_ | refine depGo_none rfl ?_))
      refine depGo_nil ?_
      refine W_buildOnes hS' (by omega) (by rfl) (by rfl) ?_
      intro H3 w3 g hG3 hb3 _ _
      exact ⟨H3, hG3.le, hG'.trans hG3, fun H'' hle => (isCat2 hb3 hG3.le ⟨B, d, rfl, p2, SlAt.mono p5 hG'.le, by simp⟩ ⟨B2, d2, rfl, q2, SlAt.mono q5 hG'.le, by simp⟩ (ptr_one _) (ptr_one _)).mono hle⟩
    (apply steps_cons; case h1 => (refine A_fact (φ := (fun v H => IsSl 1 v (ks.length + ks2.length) (ks.map Nd.ptr ++ ks2.map Nd.ptr) H)) ?_; intro c' u H' w' hG'; have hS' := hG'.sub; (repeat (first | refine depGo_eq rfl rfl rfl ?_ | (refine depGo_fact rfl rfl rfl ?_; intro v hv) | refine depGo_skip rfl ?_ | refine depGo_none rfl ?_)); rename_i v1 hv1; have hcat := hv1; refine depGo_nil ?_; refine W_call hS' (by rfl) (cat_Node H' _ _ _ _ hcat (by omega) (by omega)) ?_; intro v H3 w3 hG3 hr; exact ⟨H3, hG3.le, hG'.trans hG3, fun H'' hle => hr.mono hle⟩))
    apply steps_cons
    · refine A_fact (φ := fun v H => PtAt H h v (es ++ es2) (ks ++ ks2)) ?_
      intro c' u H' w' hG'
      have hS' := hG'.sub
      (repeat (first | refine depGo_eq rfl rfl rfl ?_ | (refine depGo_fact rfl rfl rfl ?_; intro v hv) | refine depGo_skip rfl ?_ | refine depGo_none rfl ?_))
      rename_i v1 hv1
      obtain ⟨A3, c3, rfl, r1, r2, _⟩ := hv1
      obtain ⟨B3, d3, rfl, s1, s2, _⟩ := hv
      refine depGo_nil ?_
      refine W_build (by rfl) ?_
      refine ⟨H', HLe.refl _, hG', fun H'' hle => ⟨A3, c3, B3, d3, by rw [e1, e2]; rfl, by omega, by omega, ?_, ?_, (p6.append q6).mono hG'.le |>.mono hle⟩⟩
      · show SlAt H'' A3 _
        rw [entCells_append]; exact r2.mono hle
      · rw [List.map_append]; exact s2.mono hle
    apply steps_cons
    · refine A_eff (φ := fun _ _ => True) ?_
      intro u' H' w' hG'
      (repeat (first | refine depGo_eq rfl rfl rfl ?_ | (refine depGo_fact rfl rfl rfl ?_; intro v hv) | refine depGo_skip rfl ?_ | refine depGo_none rfl ?_))
      obtain ⟨A3, c3, B3, d3, rfl, r1, r2, r4, r5, r6⟩ := hv
      refine depGo_nil ?_
      have hm' := hG'.m (Nat.le_refl _)
      refine W_storeM (b := b) (o := 0) (vs := [.slice A3 (es ++ es2).length c3, .slice B3 (ks ++ ks2).length d3]) (by rfl) (by rfl) hm' (by rfl) (two_one rfl rfl) (by rfl) (Nat.le_refl 2) ?_
      intro w3 hg3 hm3
      exact ⟨H', HLe.refl _, hG'.next (grown_own hG'.grow hg3 hm' hbw) ⟨_, _, hm3, A3, c3, B3, d3, rfl, r1, r2, r4, r5, r6⟩, fun _ _ => trivial⟩
    exact trivial
  · intro H' w' hG' hle' hF
    (repeat (first | refine fin_eq rfl rfl ?_ | (refine fin_fact rfl ?_; intro v hv) | refine fin_none rfl ?_)); refine fin_nil ?_
    (refine CW_ret ?_)
    obtain ⟨u1, u2, hm', hp'⟩ := hF
    exact ⟨_, ResW_cell rfl hm' rfl, H', hG', hp'⟩
theorem ofLeaf_c {x : Nd 0} (k : Nat) (hx : NodeAt H 0 x) : Fn Try.prog 76 [x.ptr] H fun r H' => PtAt H' k r x.ents ([] : List (Nd k)) := by
  refine Fn_of_CW Try.func76 rfl Try.ntmps76 Try.results76 rfl fun w hS => ?_; have hG := Grow.refl hS; have hS0 := hS
  (refine CW_seq ?_; refine CW_region rfl ?_)
  refine S_op ?_
  refine W_alloc hS ?_
  intro w b hG' hbw hm
  replace hbw := hG.base hbw
  replace hG := hG.trans hG'
  replace hS := hG'.sub
  replace hm : Mut H w b [.slice none 0 0, .slice none 0 0] := hm
  clear hG'
  (refine S_nil ?_; refine CW_seq ?_; refine CW_region rfl ?_; refine S_op ?_; refine W_movePtr (by first | rfl | assumption) ?_)
  (refine S_op ?_; refine W_call hS (by rfl) (entries_c hx) ?_); rintro v H w hG' hv; replace hG := hG.trans hG'; replace hS := hG'.sub; replace hx := hx.mono hG'.le; replace hm := hm.grow hG'; clear hG'
  obtain ⟨A, c, rfl, hc, hl⟩ := hv
  (refine S_op ?_; refine W_movePtr (by first | rfl | assumption) ?_)
  (refine S_op ?_; refine W_call hS (by rfl) (kids_leaf hx) ?_); rintro v H w hG' rfl; replace hG := hG.trans hG'; replace hS := hG'.sub; replace hx := hx.mono hG'.le; replace hl := hl.mono hG'.le; replace hm := hm.grow hG'; clear hG'
  (refine S_op ?_; refine W_build (by rfl) ?_)
  refine S_op0 ?_
  refine W_storeM (b := b) (o := 0) (vs := [.slice A x.ents.length c, .slice none 0 0]) (by rfl) (by rfl) hm (by rfl) (two_one rfl rfl) (by rfl) (Nat.le_refl 2) ?_
  intro w3 hg3 hm3
  (refine S_nil ?_; refine CW_ret ?_)
  exact ⟨_, ResW_cell rfl hm3 rfl, H, grown_own hG hg3 hm hbw, A, c, none, 0, rfl, hc, Nat.le_refl _, hl, .inl rfl, by intro k hk; cases hk⟩
theorem ofBranch_c {x : Nd (h + 1)} (hx : NodeAt H (h + 1) x) : Fn Try.prog 76 [x.ptr] H fun r H' => PtAt H' h r [] x.kids := by
  refine Fn_of_CW Try.func76 rfl Try.ntmps76 Try.results76 rfl fun w hS => ?_; have hG := Grow.refl hS; have hS0 := hS
  (refine CW_seq ?_; refine CW_region rfl ?_)
  refine S_op ?_
  refine W_alloc hS ?_
  intro w b hG' hbw hm
  replace hbw := hG.base hbw
  replace hG := hG.trans hG'
  replace hS := hG'.sub
  replace hm : Mut H w b [.slice none 0 0, .slice none 0 0] := hm
  clear hG'
  (refine S_nil ?_; refine CW_seq ?_; refine CW_region rfl ?_; refine S_op ?_; refine W_movePtr (by first | rfl | assumption) ?_)
  (refine S_op ?_; refine W_call hS (by rfl) (entries_branch hx) ?_); rintro v H w hG' rfl; replace hG := hG.trans hG'; replace hS := hG'.sub; replace hx := hx.mono hG'.le; replace hm := hm.grow hG'; clear hG'
  (refine S_op ?_; refine W_movePtr (by first | rfl | assumption) ?_)
  (refine S_op ?_; refine W_call hS (by rfl) (kids_c hx) ?_); rintro v H w hG' hv; replace hG := hG.trans hG'; replace hS := hG'.sub; replace hx := hx.mono hG'.le; replace hm := hm.grow hG'; clear hG'
  obtain ⟨B, d, rfl, hd, hsl, _⟩ := hv
  (refine S_op ?_; refine W_build (by rfl) ?_)
  refine S_op0 ?_
  refine W_storeM (b := b) (o := 0) (vs := [.slice none 0 0, .slice B x.kids.length d]) (by rfl) (by rfl) hm (by rfl) (two_one rfl rfl) (by rfl) (Nat.le_refl 2) ?_
  intro w3 hg3 hm3
  (refine S_nil ?_; refine CW_ret ?_)
  exact ⟨_, ResW_cell rfl hm3 rfl, H, grown_own hG hg3 hm hbw, none, 0, B, d, rfl, Nat.le_refl _, hd, .inl rfl, hsl, hx.kids⟩
theorem nodesLeaf_c (hp : PtAt H h v es ([] : List (Nd h))) (hr : riseB es = true) (ho : ∀ e ∈ es, entOk e = true) (h8 : es.length ≤ 8) :
    Fn Try.prog 58 [v] H fun r H' => ∃ out, NdsAt H' 0 r out ∧ leavesOut es out ∧ ∀ k ∈ out, H k.blk = none := by
  obtain ⟨A, c, B, d, rfl, h1, h2, h4, h5, h6⟩ := hp
  refine Fn_of_CW Try.func58 rfl Try.ntmps58 Try.results58 rfl fun w hS => ?_; have hG := Grow.refl hS; have hS0 := hS
  (refine CW_seq ?_; refine CW_region rfl ?_)
  (refine S_op (W_boxAgg hS (by rfl) ?_)); intro H w _ hG' hb; replace hG := hG.trans hG'; replace hS := hG'.sub; replace h4 := h4.mono hG'.le; clear hG'
  have hle := hG.le
  (refine S_op ?_; refine W_assignSl (by first | rfl | assumption) ?_; refine S_nil ?_; refine CW_seq ?_; refine CW_seq ?_; refine CW_region rfl ?_; refine S_op ?_; refine W_field (by first | rfl | assumption) ?_; refine S_op ?_; refine W_loadHL (by first | rfl | assumption) (by assumption) (by rfl) (by assumption) ?_; refine S_op ?_; refine W_len (by first | rfl | assumption) ?_; refine S_op ?_; refine W_gtrC (by first | rfl | assumption) ?_; refine S_nil ?_; refine CW_false (by first | rfl | assumption) ?_; refine CW_skip ?_; refine CW_seq ?_; refine CW_region rfl ?_; refine S_op ?_; refine W_field (by first | rfl | assumption) ?_; refine S_op ?_; refine W_loadHL (by first | rfl | assumption) (by assumption) (by rfl) (by assumption) ?_)
  (refine S_op ?_; refine W_call hS (by rfl) (leaves_c H A c es h4 h1 hr ho h8) ?_); rintro v H w hG' ⟨out, ⟨B2, d2, rfl, q1, q2, q3⟩, q4, q5⟩; replace hG := hG.trans hG'; replace hS := hG'.sub; clear hG'
  (refine S_op ?_; refine W_assignSl (by first | rfl | assumption) ?_; refine S_nil ?_; refine CW_ret ?_)
  exact ⟨_, ResW_one (v := .slice _ _ _) rfl, H, hG, out, ⟨B2, d2, rfl, q1, q2, q3⟩, q4, fun k hk => hle.none (q5 k hk)⟩
theorem nodesBranch_c (hp : PtAt H h v es ks) (h2 : 2 ≤ ks.length) (h8 : ks.length ≤ 12) (hch : Nd.chain ks = true) (hh : h ≤ 900000) :
    Fn Try.prog 58 [v] H fun r H' => ∃ out, NdsAt H' (h + 1) r out ∧ branchesOut ks out ∧ ∀ k ∈ out, H k.blk = none := by
  obtain ⟨A, c, B, d, rfl, h1, h3, h4, h5, h6⟩ := hp
  refine Fn_of_CW Try.func58 rfl Try.ntmps58 Try.results58 rfl fun w hS => ?_; have hG := Grow.refl hS; have hS0 := hS
  (refine CW_seq ?_; refine CW_region rfl ?_)
  (refine S_op (W_boxAgg hS (by rfl) ?_)); intro H w _ hG' hb; replace hG := hG.trans hG'; replace hS := hG'.sub; replace h5 := h5.mono hG'.le; replace h6 := h6.mono hG'.le; clear hG'
  have hle := hG.le
  (refine S_op ?_; refine W_assignSl (by first | rfl | assumption) ?_; refine S_nil ?_; refine CW_seq ?_; refine CW_seq ?_; refine CW_region rfl ?_; refine S_op ?_; refine W_field (by first | rfl | assumption) ?_; refine S_op ?_; refine W_loadHL (by first | rfl | assumption) (by assumption) (by rfl) (by assumption) ?_; refine S_op ?_; refine W_len (by first | rfl | assumption) ?_; refine S_op ?_; refine W_gtrT (by first | rfl | assumption) (by first | rfl | assumption) (by first | omega | rfl) ?_; refine S_nil ?_; refine CW_true (by first | rfl | assumption) ?_; refine CW_seq ?_; refine CW_region rfl ?_; refine S_op ?_; refine W_field (by first | rfl | assumption) ?_; refine S_op ?_; refine W_loadHL (by first | rfl | assumption) (by assumption) (by rfl) (by assumption) ?_)
  (refine S_op ?_; refine W_call hS (by rfl) (branches_c H B d h ks h5 h6 h3 h2 h8 hch hh) ?_); rintro v H w hG' ⟨out, ⟨B2, d2, rfl, q1, q2, q3⟩, q4, q5⟩; replace hG := hG.trans hG'; replace hS := hG'.sub; clear hG'
  (refine S_op ?_; refine W_assignSl (by first | rfl | assumption) ?_; refine S_nil ?_; refine CW_ret ?_)
  exact ⟨_, ResW_one (v := .slice _ _ _) rfl, H, hG, out, ⟨B2, d2, rfl, q1, q2, q3⟩, q4, fun k hk => hle.none (q5 k hk)⟩
theorem nodesOne_c (hp : PtAt H h v es ks) (h2 : ks.length = 1) :
    Fn Try.prog 58 [v] H fun r H' => NdsAt H' h r ks := by
  obtain ⟨A, c, B, d, rfl, h1, h3, h4, h5, h6⟩ := hp
  refine Fn_of_CW Try.func58 rfl Try.ntmps58 Try.results58 rfl fun w hS => ?_; have hG := Grow.refl hS; have hS0 := hS
  (refine CW_seq ?_; refine CW_region rfl ?_)
  (refine S_op (W_boxAgg hS (by rfl) ?_)); intro H w _ hG' hb; replace hG := hG.trans hG'; replace hS := hG'.sub; replace h5 := h5.mono hG'.le; replace h6 := h6.mono hG'.le; clear hG'
  have hq : 0 < ks.length := by omega
  (refine S_op ?_; refine W_assignSl (by first | rfl | assumption) ?_; refine S_nil ?_; refine CW_seq ?_; refine CW_seq ?_; refine CW_region rfl ?_; refine S_op ?_; refine W_field (by first | rfl | assumption) ?_; refine S_op ?_; refine W_loadHL (by first | rfl | assumption) (by assumption) (by rfl) (by assumption) ?_; refine S_op ?_; refine W_len (by first | rfl | assumption) ?_; refine S_op ?_; refine W_gtrT (by first | rfl | assumption) (by first | rfl | assumption) (by first | omega | rfl) ?_; refine S_nil ?_; refine CW_true (by first | rfl | assumption) ?_; refine CW_seq ?_; refine CW_region rfl ?_; refine S_op ?_; refine W_field (by first | rfl | assumption) ?_; refine S_op ?_; refine W_loadHL (by first | rfl | assumption) (by assumption) (by rfl) (by assumption) ?_)
  (refine S_op ?_; refine W_call hS (by rfl) (branches0_c H B ks.length d (by omega)) ?_); rintro v H w hG' rfl; replace hG := hG.trans hG'; replace hS := hG'.sub; replace h5 := h5.mono hG'.le; replace h6 := h6.mono hG'.le; clear hG'
  (refine S_op ?_; refine W_assignSl (by first | rfl | assumption) ?_; refine S_nil ?_; refine CW_ret ?_)
  exact ⟨_, ResW_one (v := .slice _ _ _) rfl, H, hG, B, d, rfl, h3, h5, h6⟩
end
end Go.Proofs.Ytgaabmoknpifnaa
/- tree: del, Del: walked, with what they make. Conditions: sizes. -/
namespace Go.Proofs.Ytgaabmoknpifnaa
open Go.Proofs Go.RowKit
set_option linter.unusedVariables false
attribute [local irreducible] CW SeqW OpW
set_option maxHeartbeats 4000000
def lowN (h : Nat) : Nat := if h = 0 then 2 else 3
def highN (h : Nat) : Nat := if h = 0 then 4 else 6
theorem enough_iff {h : Nat} {x : Nd h} : Nd.enough h x = true ↔ lowN h ≤ Nd.size h x := by
  cases h <;> simp [Nd.enough, Nd.size, lowN]
theorem size_le {h : Nat} {x : Nd h} (hx : Nd.Ok h x) : Nd.size h x ≤ highN h := by
  cases h with
  | zero =>
    simp only [Nd.Ok, leafB, Bool.and_eq_true, decide_eq_true_eq] at hx
    simp [Nd.size, highN]; omega
  | succ h => have := hx.2.1; simp [Nd.size, highN]; omega
/-- Parts of a node of that height: what entries they have, how many pieces; of which blocks its nodes are. -/
def IsPart (H : HF) (Q : Nat → Prop) : (h : Nat) → Value → List Ent → Nat → Prop
  | 0, v, its, n => PtAt H 0 v its ([] : List (Nd 0)) ∧ n = its.length
  | h + 1, v, its, n => ∃ ks : List (Nd h), PtAt H h v [] ks ∧ n = ks.length ∧ ks.flatMap (Nd.items h) = its ∧ (∀ k ∈ ks, Nd.enough h k = true ∧ Nd.full h k = true) ∧ ∀ k ∈ ks, ∀ b ∈ Nd.blocks h k, Q b
theorem IsPart.mono {H H' : HF} {Q : Nat → Prop} (hle : HLe H H') : {h : Nat} → {v : Value} → {its : List Ent} → {n : Nat} → IsPart H Q h v its n → IsPart H' Q h v its n
  | 0, _, _, _, ⟨h1, h2⟩ => ⟨h1.mono hle, h2⟩
  | _ + 1, _, _, _, ⟨ks, h1, h2⟩ => ⟨ks, h1.mono hle, h2⟩
theorem IsPart.wider {H : HF} {Q Q' : Nat → Prop} (hq : ∀ b, Q b → Q' b) : {h : Nat} → {v : Value} → {its : List Ent} → {n : Nat} → IsPart H Q h v its n → IsPart H Q' h v its n
  | 0, _, _, _, h => h
  | _ + 1, _, _, _, ⟨ks, h1, h2, h3, h4, h5⟩ => ⟨ks, h1, h2, h3, h4, fun k hk b hb => hq b (h5 k hk b hb)⟩
theorem IsPart.agg {H : HF} {Q : Nat → Prop} : {h : Nat} → {v : Value} → {its : List Ent} → {n : Nat} → IsPart H Q h v its n → ∃ A a c B b d, v = .agg #[.slice A a c, .slice B b d]
  | 0, _, _, _, ⟨⟨A, c, B, d, h, _⟩, _⟩ => ⟨_, _, _, _, _, _, h⟩
  | _ + 1, _, _, _, ⟨ks, ⟨A, c, B, d, h, _⟩, _⟩ => ⟨_, _, _, _, _, _, h⟩
section
variable {H : HF} {Q : Nat → Prop} {h : Nat} {v u : Value} {its its2 : List Ent} {n n2 : Nat}
theorem part_size (hp : IsPart H Q h v its n) (hn : n ≤ 1000) : Fn Try.prog 74 [v] H fun r _ => r = .int .i64 (n : Int) := by
  cases h with
  | zero =>
    obtain ⟨h1, rfl⟩ := hp
    simpa using ptSize_c h1 hn (by simp)
  | succ h =>
    obtain ⟨ks, h1, rfl, _⟩ := hp
    simpa using ptSize_c h1 (by simp) hn
theorem part_of {x : Nd h} (hx : NodeAt H h x) (hf : Nd.full h x = true) (hq : ∀ b ∈ Nd.blocks h x, Q b) : Fn Try.prog 76 [x.ptr] H fun r H' => IsPart H' Q h r (Nd.items h x) (Nd.size h x) := by
  cases h with
  | zero => exact (ofLeaf_c 0 hx).mono fun r H' _ hr => ⟨hr, rfl⟩
  | succ h =>
    refine (ofBranch_c hx).mono fun r H' _ hr => ⟨x.kids, hr, rfl, rfl, Nd.full_kids hf, fun k hk b hb => hq b ?_⟩
    simp only [Nd.blocks, List.mem_cons, List.mem_flatMap]
    exact .inr ⟨k, hk, hb⟩
theorem part_with (hp : IsPart H Q h v its n) (hq : IsPart H Q h u its2 n2) (h1 : n ≤ 100) (h2 : n2 ≤ 100) : Fn Try.prog 77 [v, u] H fun r H' => IsPart H' Q h r (its ++ its2) (n + n2) := by
  cases h with
  | zero =>
    obtain ⟨p1, rfl⟩ := hp
    obtain ⟨q1, rfl⟩ := hq
    exact (ptWith_c p1 q1 (by omega) (by simp) (by omega) (by simp)).mono fun r H' _ hr => ⟨hr, by simp⟩
  | succ h =>
    obtain ⟨ks, p1, rfl, rfl, p3, p4⟩ := hp
    obtain ⟨ks2, q1, rfl, rfl, q3, q4⟩ := hq
    refine (ptWith_c p1 q1 (by simp) (by omega) (by simp) (by omega)).mono fun r H' _ hr => ⟨ks ++ ks2, hr, by simp, by simp, fun k hk => ?_, fun k hk => ?_⟩
    · rcases List.mem_append.1 hk with hk | hk
      · exact p3 k hk
      · exact q3 k hk
    · rcases List.mem_append.1 hk with hk | hk
      · exact p4 k hk
      · exact q4 k hk
/-- Nodes of parts. -/
structure PartNodes (H : HF) (Q : Nat → Prop) (h : Nat) (its : List Ent) (n : Nat) (out : List (Nd h)) : Prop where
  items : out.flatMap (Nd.items h) = its
  len : out.length = 1 ∨ out.length = 2
  one : n ≤ highN h → out.length = 1
  full : ∀ k ∈ out, Nd.full h k = true
  enough : lowN h ≤ n → ∀ k ∈ out, Nd.enough h k = true
  fresh : ∀ k ∈ out, H k.blk = none
  blocks : ∀ k ∈ out, ∀ b ∈ Nd.blocks h k, b ∈ out.map Nd.blk ∨ Q b
theorem PartNodes.old {H0 : HF} {out : List (Nd h)} (hp : PartNodes H Q h its n out) (hle : HLe H0 H) : PartNodes H0 Q h its n out :=
  ⟨hp.items, hp.len, hp.one, hp.full, hp.enough, fun k hk => hle.none (hp.fresh k hk), hp.blocks⟩
theorem part_nodes (hp : IsPart H Q h v its n) (hr : riseB its = true) (ho : ∀ e ∈ its, entOk e = true) (h1 : (if h = 0 then 1 else 2) ≤ n) (h8 : n ≤ 8) (hh : h ≤ 800000) :
    Fn Try.prog 58 [v] H fun r H' => ∃ out, NdsAt H' h r out ∧ PartNodes H Q h its n out := by
  cases h with
  | zero =>
    obtain ⟨p1, rfl⟩ := hp
    refine (nodesLeaf_c p1 hr ho h8).mono fun r H' _ ⟨out, q1, q2, q3⟩ => ⟨out, q1, ?_⟩
    simp at h1
    rcases q2 with ⟨q4, _⟩ | ⟨q4, q5, b, rfl⟩ | ⟨q4, b1, b2, rfl⟩
    · omega
    · refine ⟨by simp [Nd.items, Nd.ents_leaf], .inl rfl, fun _ => rfl, fun k hk => ?_, fun hl k hk => ?_, q3, fun k hk q hq => ?_⟩
      · rw [List.mem_singleton] at hk; subst hk; rfl
      · rw [List.mem_singleton] at hk; subst hk; exact decide_eq_true hl
      · rw [List.mem_singleton] at hk; subst hk; exact .inl hq
    · have hh : 2 ≤ half its.length ∧ half its.length ≤ its.length ∧ 2 ≤ its.length - half its.length := by unfold half; omega
      refine ⟨by simp [Nd.items, Nd.ents_leaf], .inr rfl, fun hl => (by simp [highN] at hl; omega), fun k hk => ?_, fun hl k hk => ?_, q3, fun k hk q hq => ?_⟩
      · simp at hk; rcases hk with rfl | rfl <;> rfl
      · simp at hk; rcases hk with rfl | rfl <;> simp [Nd.enough, Nd.ents_leaf] <;> omega
      · simp at hk; rcases hk with rfl | rfl <;> simp [Nd.blocks, Nd.blk_leaf] at hq <;> simp [hq, Nd.blk_leaf]
  | succ h =>
    obtain ⟨ks, p1, rfl, rfl, p3, p4⟩ := hp
    have h1 : 2 ≤ ks.length := by simpa using h1
    obtain ⟨_, _, _, _, _, _, _, _, _, hat⟩ := id p1
    refine (nodesBranch_c p1 h1 (by omega) ((Nd.chain_iff hat.ok).2 hr) (by omega)).mono fun r H' _ ⟨out, q1, q2, q3⟩ => ⟨out, q1, ?_⟩
    rcases q2 with ⟨q4, q5, b, rfl⟩ | ⟨q4, b1, b2, rfl⟩
    · refine ⟨by simp [Nd.items, Nd.kids_branch], .inl rfl, fun _ => rfl, fun k hk => ?_, fun hl k hk => ?_, q3, fun k hk q hq => ?_⟩
      · rw [List.mem_singleton] at hk; subst hk
        simp only [Nd.full, Nd.kids_branch, List.all_eq_true, Bool.and_eq_true]
        exact p3
      · rw [List.mem_singleton] at hk; subst hk
        simp [lowN] at hl
        exact decide_eq_true hl
      · rw [List.mem_singleton] at hk; subst hk
        simp only [Nd.blocks, Nd.kids_branch, Nd.blk_branch, List.mem_cons, List.mem_flatMap] at hq
        rcases hq with rfl | ⟨y, hy, hq⟩
        · exact .inl (by simp [Nd.blk_branch])
        · exact .inr (p4 y hy q hq)
    · have hhf : 3 ≤ half ks.length ∧ half ks.length ≤ ks.length ∧ 3 ≤ ks.length - half ks.length := by unfold half; omega
      refine ⟨?_, .inr rfl, fun hl => (by simp [highN] at hl; omega), fun k hk => ?_, fun hl k hk => ?_, q3, fun k hk q hq => ?_⟩
      · show ([Nd.branch b1 (ks.take (half ks.length)), Nd.branch b2 (ks.drop (half ks.length))] : List (Nd (h + 1))).flatMap (fun y => y.kids.flatMap (Nd.items h)) = _
        simp only [List.flatMap_cons, List.flatMap_nil, List.append_nil, Nd.kids_branch]
        rw [← List.flatMap_append, List.take_append_drop]
      · simp at hk
        rcases hk with rfl | rfl <;> simp only [Nd.full, Nd.kids_branch, List.all_eq_true, Bool.and_eq_true]
        · exact fun k hk => p3 k (List.mem_of_mem_take hk)
        · exact fun k hk => p3 k (List.mem_of_mem_drop hk)
      · simp at hk
        rcases hk with rfl | rfl <;> simp [Nd.enough, Nd.kids_branch] <;> omega
      · simp at hk
        rcases hk with rfl | rfl <;> simp only [Nd.blocks, Nd.kids_branch, Nd.blk_branch, List.mem_cons, List.mem_flatMap] at hq
        · rcases hq with rfl | ⟨y, hy, hq⟩
          · exact .inl (by simp [Nd.blk_branch])
          · exact .inr (p4 y (List.mem_of_mem_take hy) q hq)
        · rcases hq with rfl | ⟨y, hy, hq⟩
          · exact .inl (by simp [Nd.blk_branch])
          · exact .inr (p4 y (List.mem_of_mem_drop hy) q hq)
end
/-! ### del -/
/-- What the parts of a branch are behind del: those ahead, the new nodes, those behind. -/
theorem del_kids {H Hr : HF} {Q : Nat → Prop} {h : Nat} {x : Nd (h + 1)} {pre post : List (Nd h)} {key : ByteArray} {its : List Ent} {n : Nat} {out : List (Nd h)} {v : Value}
    (hv : PtAt H h v [] (pre ++ out ++ post)) (hf : Nd.full (h + 1) x = true) (hpre : ∀ k ∈ pre, k ∈ x.kids) (hpost : ∀ k ∈ post, k ∈ x.kids) (ho : PartNodes Hr Q h its n out) (hlow : lowN h ≤ n)
    (hits : pre.flatMap (Nd.items h) ++ its ++ post.flatMap (Nd.items h) = withoutL (Nd.items (h + 1) x) key) (hQ : ∀ k ∈ x.kids, ∀ b ∈ Nd.blocks h k, Q b) :
    IsPart H (fun b => b ∈ out.map Nd.blk ∨ Q b) (h + 1) v (withoutL (Nd.items (h + 1) x) key) (pre.length + out.length + post.length) := by
  refine ⟨pre ++ out ++ post, hv, by rw [List.length_append, List.length_append], ?_, fun k hk => ?_, fun k hk b hb => ?_⟩
  · rw [List.flatMap_append, List.flatMap_append, ho.items]; exact hits
  · simp only [List.mem_append] at hk
    rcases hk with (hk | hk) | hk
    · exact Nd.full_kids hf k (hpre k hk)
    · exact ⟨ho.enough hlow k hk, ho.full k hk⟩
    · exact Nd.full_kids hf k (hpost k hk)
  · simp only [List.mem_append] at hk
    rcases hk with (hk | hk) | hk
    · exact .inr (hQ k (hpre k hk) b hb)
    · exact ho.blocks k hk b hb
    · exact .inr (hQ k (hpost k hk) b hb)
theorem look_withoutL_len {l : List Ent} (hr : riseB l = true) {key : ByteArray} (h : lookB l key = true) : (withoutL l key).length + 1 = l.length := by
  have h1 := without_is hr key
  have : findIs l key = true := by rw [look_is]; exact h
  rw [this] at h1
  simpa using h1
theorem entOk_withoutL {l : List Ent} {key : ByteArray} (hl : ∀ x ∈ l, entOk x = true) : ∀ x ∈ withoutL l key, entOk x = true := by
  intro x hx
  refine hl x ?_
  unfold withoutL at hx
  split at hx
  · rcases List.mem_append.1 hx with h | h
    · exact List.mem_of_mem_take h
    · exact List.mem_of_mem_drop h
  · exact hx
end Go.Proofs.Ytgaabmoknpifnaa
/- tree: del: walked. Conditions: sizes. -/
namespace Go.Proofs.Ytgaabmoknpifnaa
open Go.Proofs Go.RowKit
set_option linter.unusedVariables false
attribute [local irreducible] CW SeqW OpW
set_option maxHeartbeats 8000000
abbrev Zp : List Value := [.slice none 0 0, .slice none 0 0]
/-- The new parts, behind the last region. -/
def DelF (b4 b9 : Nat) (Q : Nat → Prop) (Hr : HF) (h : Nat) (its : List Ent) (n : Nat) (pre post : List (Nd h)) (cs : List Value) (H : HF) (w : World) : Prop :=
  (∃ out v1 v2, Mut H w b4 [v1, v2] ∧ PtAt H h (.agg #[v1, v2]) [] (pre ++ out ++ post) ∧ PartNodes Hr Q h its n out) ∧ Mut H w b9 cs
theorem closedDelF (b4 b9 : Nat) (Q : Nat → Prop) (Hr : HF) (h : Nat) (its : List Ent) (n : Nat) (pre post : List (Nd h)) (cs : List Value) : Closed (DelF b4 b9 Q Hr h its n pre post cs) :=
  fun _ _ _ _ ⟨⟨out, v1, v2, h1, h2, h3⟩, h4⟩ hg => ⟨⟨out, v1, v2, h1.grow hg, h2.mono hg.le, h3⟩, h4.grow hg⟩
def DelL (b4 b9 : Nat) (Q : Nat → Prop) (h : Nat) (its : List Ent) (n : Nat) (H : HF) (w : World) : Prop :=
  Mut H w b4 Zp ∧ ∃ v1 v2, Mut H w b9 [v1, v2] ∧ IsPart H Q h (.agg #[v1, v2]) its n
theorem closedDelL (b4 b9 : Nat) (Q : Nat → Prop) (h : Nat) (its : List Ent) (n : Nat) : Closed (DelL b4 b9 Q h its n) :=
  fun _ _ _ _ ⟨h1, v1, v2, h2, h3⟩ hg => ⟨h1.grow hg, v1, v2, h2.grow hg, h3.mono hg.le⟩
theorem last_split {α : Type} {l : List α} (h : 0 < l.length) : ∃ L s, l = L ++ [s] :=
  ⟨l.take (l.length - 1), l[l.length - 1], by rw [← take_succ' (by omega), show l.length - 1 + 1 = l.length by omega, List.take_length]⟩
theorem del_c (h : Nat) : ∀ (H : HF) (x : Nd h) (key : ByteArray), NodeAt H h x → Nd.full h x = true → lookB (Nd.items h x) key = true → h ≤ 800000 →
    Fn Try.prog 57 [x.ptr, .string key] H fun r H' => ∃ (n : Nat) (N : List Nat), N.length ≤ 2 * h ∧ IsPart H' (fun b => b ∈ N ∨ b ∈ Nd.blocks h x) h r (withoutL (Nd.items h x) key) n ∧ n ≤ Nd.size h x ∧ Nd.size h x ≤ n + 1 := by
  induction h with
  | zero =>
    intro H x key hx hf hlk hh
    have hok := hx.ok
    have hok2 := hok
    simp only [Nd.Ok, leafB, Bool.and_eq_true, decide_eq_true_eq] at hok2
    have hlen := look_withoutL_len hok2.1.2 hlk
    refine Fn_of_CW Try.func57 rfl Try.ntmps57 Try.results57 rfl fun w hS => ?_; have hG := Grow.refl hS; have hS0 := hS
    (refine CW_seq ?_; refine CW_region rfl ?_)
    refine S_op ?_
    refine W_alloc hS ?_
    intro w b4 hG' hb4 hm4
    replace hb4 := hG.base hb4
    replace hG := hG.trans hG'
    replace hS := hG'.sub
    replace hm4 : Mut H w b4 Zp := hm4
    clear hG'
    (refine S_nil ?_; refine CW_seq ?_; refine CW_seq ?_; refine CW_region rfl ?_; refine S_op ?_; refine W_movePtr (by first | rfl | assumption) ?_)
    (refine S_op ?_; refine W_call hS (by rfl) (height_c hx) ?_); rintro v H w hG' rfl; replace hG := hG.trans hG'; replace hS := hG'.sub; replace hx := hx.mono hG'.le; replace hm4 := hm4.grow hG'; clear hG'
    (refine S_op ?_; refine W_leqT (by first | rfl | assumption) (by first | rfl | assumption) (by first | omega | rfl) ?_; refine S_nil ?_; refine CW_true (by first | rfl | assumption) ?_; refine CW_seq ?_; refine CW_region rfl ?_; refine S_op ?_; refine W_movePtr (by first | rfl | assumption) ?_)
    (refine S_op ?_; refine W_call hS (by rfl) (entries_c hx) ?_); rintro v H w hG' hv; replace hG := hG.trans hG'; replace hS := hG'.sub; replace hx := hx.mono hG'.le; replace hm4 := hm4.grow hG'; clear hG'
    obtain ⟨A, c, rfl, hc, hl⟩ := hv
    have hl : EntsAt H A x.ents := hl
    have hc : x.ents.length ≤ c := hc
    rw [show Nd.own 0 x = x.ents from rfl]
    (refine S_op ?_; refine W_moveStr (by first | rfl | assumption) ?_)
    (refine S_op ?_; refine W_call hS (by rfl) (without_c H A c x.ents key hl hc (by omega)) ?_); rintro v H w hG' hv; replace hG := hG.trans hG'; replace hS := hG'.sub; replace hm4 := hm4.grow hG'; clear hG'
    obtain ⟨s, rfl, A2, c2, rfl, hc2, hl2⟩ := hv
    (refine S_op ?_; refine W_moveTup (by first | rfl | assumption) ?_; refine S_op ?_; refine W_extract (by first | rfl | assumption) (by rfl) ?_; refine S_op ?_; refine W_extract (by first | rfl | assumption) (by rfl) ?_; refine S_op ?_; refine W_assignSl (by first | rfl | assumption) ?_; refine S_op ?_; refine W_assignBool (by first | rfl | assumption) ?_; refine S_nil ?_; refine CW_seq ?_; refine CW_region rfl ?_; refine S_op ?_; refine W_moveSl (by first | rfl | assumption) ?_; refine S_op ?_; refine W_build (by rfl) ?_)
    refine S_op0 ?_
    refine W_storeM (b := b4) (o := 0) (vs := [.slice A2 (withoutL x.ents key).length c2, .slice none 0 0]) (by rfl) (by rfl) hm4 (by rfl) (two_one rfl rfl) (by rfl) (Nat.le_refl 2) ?_
    intro w3 hg3 hm3
    (refine S_nil ?_; refine CW_ret ?_)
    refine ⟨_, ResW_cell rfl hm3 rfl, H, grown_own hG hg3 hm4 hb4, (withoutL x.ents key).length, [], by simp, ⟨⟨A2, c2, none, 0, rfl, hc2, Nat.le_refl _, hl2, .inl rfl, by intro k hk; cases hk⟩, rfl⟩, ?_, ?_⟩
    · show _ ≤ x.ents.length
      have : (withoutL x.ents key).length + 1 = x.ents.length := hlen
      omega
    · show x.ents.length ≤ _
      have : (withoutL x.ents key).length + 1 = x.ents.length := hlen
      omega
  | succ h ih =>
    intro H x key hx hf hlk hh
    refine Fn_of_CW Try.func57 rfl Try.ntmps57 Try.results57 rfl fun w hS => ?_; have hG := Grow.refl hS; have hS0 := hS
    (refine CW_seq ?_; refine CW_region rfl ?_)
    refine S_op ?_
    refine W_alloc hS ?_
    intro w b4 hG' hb4 hm4
    replace hb4 := hG.base hb4
    replace hG := hG.trans hG'
    replace hS := hG'.sub
    replace hm4 : Mut H w b4 Zp := hm4
    clear hG'
    (refine S_nil ?_; refine CW_seq ?_; refine CW_seq ?_; refine CW_region rfl ?_; refine S_op ?_; refine W_movePtr (by first | rfl | assumption) ?_)
    (refine S_op ?_; refine W_call hS (by rfl) (height_c hx) ?_); rintro v H w hG' rfl; replace hG := hG.trans hG'; replace hS := hG'.sub; replace hx := hx.mono hG'.le; replace hm4 := hm4.grow hG'; clear hG'
    (refine S_op ?_; refine W_leqF (by first | rfl | assumption) (by first | rfl | assumption) (by first | omega | rfl) ?_; refine S_nil ?_; refine CW_false (by first | rfl | assumption) ?_; refine CW_skip ?_; refine CW_seq ?_; refine CW_region rfl ?_; refine S_op ?_; refine W_movePtr (by first | rfl | assumption) ?_)
    (refine S_op ?_; refine W_call hS (by rfl) (kids_c hx) ?_); rintro v H w hG' hv; replace hG := hG.trans hG'; replace hS := hG'.sub; replace hx := hx.mono hG'.le; replace hm4 := hm4.grow hG'; clear hG'
    obtain ⟨B, d, rfl, hd, hsl, _⟩ := hv
    have hok := hx.ok
    have h6 := hok.2.1
    have h2k := hok.1
    (refine S_op ?_; refine W_assignSl (by first | rfl | assumption) ?_; refine S_nil ?_; refine CW_seq ?_; refine CW_region rfl ?_; refine S_op ?_; refine W_moveSl (by first | rfl | assumption) ?_; refine S_op ?_; refine W_moveStr (by first | rfl | assumption) ?_)
    (refine S_op ?_; refine W_call hS (by rfl) (kid_c H B d h x.kids key hsl hx.kids (by omega)) ?_); rintro v H w hG' rfl; replace hG := hG.trans hG'; replace hS := hG'.sub; replace hx := hx.mono hG'.le; replace hsl := hsl.mono hG'.le; replace hm4 := hm4.grow hG'; clear hG'
    obtain ⟨a, b, h1, h2, h3, h4, _, _⟩ := Nd.kidOf_split hok key
    have hlm := Nd.look_kid hok key
    generalize Nd.kidOf x key = m at *
    have hq : a.length < x.kids.length := by rw [h1]; simp
    have hget : (x.kids.map Nd.ptr)[a.length * 1]? = some m.ptr := by rw [h1]; simp
    obtain ⟨bb, off, hA, hrow⟩ := slAt_some hsl hq
    have hmm : m ∈ x.kids := by rw [h1]; simp
    have hm : NodeAt H h m := hx.kids m hmm
    have hfm := Nd.full_kids hf m hmm
    have hem := enough_iff.1 hfm.1
    have hsm := size_le hm.ok
    have hlkm : lookB (Nd.items h m) key = true := by unfold lookB at hlk ⊢; rw [← hlm]; exact hlk
    have hxn : x.kids.length = a.length + 1 + b.length := by rw [h1]; simp; omega
    have hwk := Nd.withoutL_kid hok h1 h3 h4
    have hrw := rise_withoutL key hok.2.2.2
    have how := entOk_withoutL (key := key) (Nd.ok_ents hok)
    have hlh : lowN h ≤ 3 ∧ 2 ≤ lowN h ∧ highN h + lowN h ≤ 9 ∧ lowN h ≤ highN h := by unfold lowN highN; split <;> omega
    rw [h2]
    (refine S_op ?_; refine W_assignInt (by first | rfl | assumption) ?_; refine S_nil ?_; refine CW_seq ?_; refine CW_region rfl ?_; refine S_op ?_; refine W_moveSl (by first | rfl | assumption) ?_; refine S_op ?_; refine W_moveInt (by first | rfl | assumption) ?_; refine S_op ?_; refine W_index (by first | rfl | assumption) (by first | rfl | assumption) (by first | assumption | omega | decide) (by first | rfl | assumption) ?_)
    refine S_op (W_loadRow (by rfl) hrow hget hS ?_)
    (refine S_op ?_; refine W_moveStr (by first | rfl | assumption) ?_)
    (refine S_op ?_; refine W_call hS (by rfl) (ih H m key hm hfm.2 hlkm (by omega)) ?_); rintro v H w hG' ⟨n, N, hN, hp, hn1, hn2⟩; replace hG := hG.trans hG'; replace hS := hG'.sub; replace hx := hx.mono hG'.le; replace hsl := hsl.mono hG'.le; replace hrow := hrow.mono hG'.le; replace hm4 := hm4.grow hG'; clear hG'
    obtain ⟨A1, a1, c1, B1, b1, d1, hve⟩ := hp.agg
    subst hve
    obtain ⟨u1, hu1⟩ : ∃ u, u = Value.slice A1 a1 c1 := ⟨_, rfl⟩
    obtain ⟨u2, hu2⟩ : ∃ u, u = Value.slice B1 b1 d1 := ⟨_, rfl⟩
    skip
    refine S_op ?_
    refine W_alloc hS ?_
    intro w b9 hG' hb9 hm9
    have hne : b9 ≠ b4 := by have := hm4.lt; omega
    replace hb9 := hG.base hb9
    replace hG := hG.trans hG'
    replace hS := hG'.sub
    replace hm9 : Mut H w b9 Zp := hm9
    replace hm4 := hm4.grow hG'
    clear hG'
    skip
    refine S_op0 ?_
    refine W_storeM (b := b9) (o := 0) (vs := [.slice A1 a1 c1, .slice B1 b1 d1]) (by rfl) (by rfl) hm9 (by rfl) (two_one rfl rfl) (by rfl) (Nat.le_refl 2) ?_
    intro w hg3 hm3
    replace hm4 := hm4.other hg3 (fun e => hne (by cases e; rfl))
    replace hG := grown_own hG hg3 hm9 hb9
    replace hS := hG.sub
    replace hm9 : Mut H w b9 [.slice A1 a1 c1, .slice B1 b1 d1] := hm3
    clear hm3 hg3
    rw [← hu1, ← hu2] at hm9 hp
    (refine S_nil ?_; refine CW_seq ?_; refine CW_region rfl ?_; refine S_op ?_; refine W_moveInt (by first | rfl | assumption) ?_; refine S_op ?_; refine W_moveInt (by first | rfl | assumption) ?_; refine S_op ?_; refine W_add1 (by first | rfl | assumption) (by omega) ?_; refine S_op ?_; refine W_assignInt (by first | rfl | assumption) ?_; refine S_op ?_; refine W_assignInt (by first | rfl | assumption) ?_; refine S_nil ?_; refine CW_seq ?_; refine CW_seq ?_; refine CW_region rfl ?_)
    refine S_op ?_
    refine W_loadMAgg (s := 2) (vs := [u1, u2]) (by rfl) hm9 (by rfl) (by rfl) ?_
    skip
    (refine S_op ?_; refine W_call hS (by rfl) (part_size hp (by omega)) ?_); rintro v H w hG' rfl; replace hG := hG.trans hG'; replace hS := hG'.sub; replace hx := hx.mono hG'.le; replace hsl := hsl.mono hG'.le; replace hrow := hrow.mono hG'.le; replace hp := hp.mono hG'.le; replace hm4 := hm4.grow hG'; replace hm9 := hm9.grow hG'; clear hG'
    (refine S_op ?_; refine W_movePtr (by first | rfl | assumption) ?_)
    (refine S_op ?_; refine W_call hS (by rfl) (height_c hx) ?_); rintro v H w hG' rfl; replace hG := hG.trans hG'; replace hS := hG'.sub; replace hx := hx.mono hG'.le; replace hsl := hsl.mono hG'.le; replace hrow := hrow.mono hG'.le; replace hp := hp.mono hG'.le; replace hm4 := hm4.grow hG'; replace hm9 := hm9.grow hG'; clear hG'
    (refine S_op ?_; refine W_sub1 (by first | rfl | assumption) (by omega) (by omega) ?_)
    (refine S_op ?_; refine W_call hS (by rfl) (least_c H (h + 1 + 1 - 1)) ?_); rintro v H w hG' rfl; replace hG := hG.trans hG'; replace hS := hG'.sub; replace hx := hx.mono hG'.le; replace hsl := hsl.mono hG'.le; replace hrow := hrow.mono hG'.le; replace hp := hp.mono hG'.le; replace hm4 := hm4.grow hG'; replace hm9 := hm9.grow hG'; clear hG'
    rw [show (if h + 1 + 1 - 1 = 1 then 2 else 3) = lowN h by unfold lowN; simp]
    have hka : AllAt H h a := fun k hk => hx.kids k (by rw [h1]; simp [hk])
    have hkb : AllAt H h b := fun k hk => hx.kids k (by rw [h1]; simp [hk])
    obtain ⟨Q, hQ⟩ : ∃ Q : Nat → Prop, Q = fun b => b ∈ N ∨ b ∈ Nd.blocks (h + 1) x := ⟨_, rfl⟩
    have hbx : ∀ k ∈ x.kids, ∀ b ∈ Nd.blocks h k, Q b := by
      intro k hk b hb
      rw [hQ]
      simp only [Nd.blocks, List.mem_cons, List.mem_flatMap]
      exact .inr (.inr ⟨k, hk, hb⟩)
    replace hp := hp.wider (Q' := Q) (fun b hb => by
      rcases hb with hb | hb
      · rw [hQ]; exact .inl hb
      · exact hbx m hmm b hb)
    by_cases hlow : lowN h ≤ n
    · obtain ⟨pre, hpre⟩ : ∃ l, l = a := ⟨_, rfl⟩
      obtain ⟨post, hpost⟩ : ∃ l, l = b := ⟨_, rfl⟩
      have hlow' := hlow
      have hfrom : a.length = pre.length := by rw [hpre]
      have hto : x.kids.length - (a.length + 1) = post.length := by rw [hpost]; omega
      have hs1 : SlAt H B (pre.map Nd.ptr) := by have := SlAt.take hsl a.length; rw [h1] at this; rw [hpre]; simpa using this
      have hs2 : SlAt H (slAddr B d (a.length + 1) 1) (post.map Nd.ptr) := by
        have := SlAt.drop (l := a.length + 1) (sz := 1) hsl (by simp) hd
        rw [Nat.mul_one, ← List.map_drop, h1] at this
        rw [hpost]
        simpa using this
      have hkpre : AllAt H h pre := by rw [hpre]; exact hka
      have hkpost : AllAt H h post := by rw [hpost]; exact hkb
      have hprem : ∀ k ∈ pre, k ∈ x.kids := by intro k hk; rw [hpre] at hk; rw [h1]; simp [hk]
      have hpostm : ∀ k ∈ post, k ∈ x.kids := by intro k hk; rw [hpost] at hk; rw [h1]; simp [hk]
      obtain ⟨its, hits0⟩ : ∃ l, l = withoutL (Nd.items h m) key := ⟨_, rfl⟩
      have hits : pre.flatMap (Nd.items h) ++ its ++ post.flatMap (Nd.items h) = withoutL (Nd.items (h + 1) x) key := by rw [hwk, hits0, hpre, hpost]
      rw [← hits0] at hp
      rw [← hits] at hrw how
      have hr := (rise_parts hrw).2.1
      have ho : ∀ e ∈ its, entOk e = true := fun e he => how e (by simp [he])
      have hn8 : n ≤ 8 := by omega
      have hone : n ≤ highN h := by omega
      have hn1 : (if h = 0 then 1 else 2) ≤ n := by split <;> omega
      (refine S_op ?_; refine W_lssF (by first | rfl | assumption) (by first | rfl | assumption) (by first | omega | rfl) ?_; refine S_nil ?_; refine CW_false (by first | rfl | assumption) ?_; refine CW_skip ?_; refine CW_seq ?_)
      apply CW_region_eff (fun H w => Mut H w b4 Zp ∧ Mut H w b9 [u1, u2]) (DelF b4 b9 Q H h its n pre post [u1, u2]) 0 [_, _, _, _, _, _, _, _, _, _, _, _] [none, none, none, none, none, none, none, none, none, none, none, some 0] [some 66, some 67, some 68, some 69, some 70, some 71, some 72, some 73, some 74, some 75, some 76, none] [66, 67, 68, 69, 70, 71, 72, 73, 74, 75, 76] mixed rfl rfl rfl rfl (by decide) rfl rfl rfl (by assumption)
      · exact ⟨hm4, hm9⟩
      · exact (closedMut b4 _).and (closedMut b9 _)
      · exact closedDelF _ _ _ _ _ _ _ _ _ _
      · ((apply steps_cons; case h1 => (apply A_pure; intro c u H' w' hG; have hS' := hG.sub; have hS2' := hG.subOld; (repeat (first | refine depGo_eq rfl rfl rfl ?_ | (refine depGo_fact rfl rfl rfl ?_; intro v hv) | refine depGo_skip rfl ?_ | refine depGo_none rfl ?_)); apply Pure1.mk; intro K hk; exact W_moveSl (by first | rfl | assumption) hk)); (apply steps_cons; case h1 => (apply A_pure; intro c u H' w' hG; have hS' := hG.sub; have hS2' := hG.subOld; (repeat (first | refine depGo_eq rfl rfl rfl ?_ | (refine depGo_fact rfl rfl rfl ?_; intro v hv) | refine depGo_skip rfl ?_ | refine depGo_none rfl ?_)); apply Pure1.mk; intro K hk; exact W_moveInt (by first | rfl | assumption) hk)); (apply steps_cons; case h1 => (apply A_pure; intro c u H' w' hG; have hS' := hG.sub; have hS2' := hG.subOld; (repeat (first | refine depGo_eq rfl rfl rfl ?_ | (refine depGo_fact rfl rfl rfl ?_; intro v hv) | refine depGo_skip rfl ?_ | refine depGo_none rfl ?_)); apply Pure1.mk; intro K hk; exact W_sliceHi (by first | rfl | assumption) (by first | rfl | assumption) (by omega) hk)))
        apply steps_cons
        · refine A_pure (val := .agg #[u1, u2]) ?_
          intro c u H' w' hG'
          (repeat (first | refine depGo_eq rfl rfl rfl ?_ | (refine depGo_fact rfl rfl rfl ?_; intro v hv) | refine depGo_skip rfl ?_ | refine depGo_none rfl ?_))
          have hm' : Mut H' w' b9 [u1, u2] := by
            by_cases hc : c ≤ 0
            · exact (hG'.m hc).2
            · exact (hG'.f (by omega)).2
          apply Pure1.mk
          intro K hk
          exact W_loadMAgg (s := 2) (vs := [u1, u2]) (by rfl) hm' (by rfl) (by rfl) hk
        (apply steps_cons; case h1 => (refine A_fact (φ := (fun v H3 => ∃ out, NdsAt H3 h v out ∧ PartNodes H Q h its n out)) ?_; intro c' u H' w' hG; have hS' := hG.sub; (repeat (first | refine depGo_eq rfl rfl rfl ?_ | (refine depGo_fact rfl rfl rfl ?_; intro v hv) | refine depGo_skip rfl ?_ | refine depGo_none rfl ?_)); refine depGo_nil ?_; refine W_call hS' (by rfl) (part_nodes (hp.mono hG.le) hr ho hn1 hn8 (by omega)) ?_; intro v H3 w3 hG3 hr; exact ⟨H3, hG3.le, hG.trans hG3, fun H'' hle => (by
            obtain ⟨out, q1, q2⟩ := hr
            exact ⟨out, q1.mono hle, q2.old hG.le⟩)⟩))
        ((apply steps_cons; case h1 => (apply A_pure; intro c u H' w' hG; have hS' := hG.sub; have hS2' := hG.subOld; (repeat (first | refine depGo_eq rfl rfl rfl ?_ | (refine depGo_fact rfl rfl rfl ?_; intro v hv) | refine depGo_skip rfl ?_ | refine depGo_none rfl ?_)); apply Pure1.mk; intro K hk; exact W_moveSl (by first | rfl | assumption) hk)); (apply steps_cons; case h1 => (apply A_pure; intro c u H' w' hG; have hS' := hG.sub; have hS2' := hG.subOld; (repeat (first | refine depGo_eq rfl rfl rfl ?_ | (refine depGo_fact rfl rfl rfl ?_; intro v hv) | refine depGo_skip rfl ?_ | refine depGo_none rfl ?_)); apply Pure1.mk; intro K hk; exact W_moveInt (by first | rfl | assumption) hk)); (apply steps_cons; case h1 => (apply A_pure; intro c u H' w' hG; have hS' := hG.sub; have hS2' := hG.subOld; (repeat (first | refine depGo_eq rfl rfl rfl ?_ | (refine depGo_fact rfl rfl rfl ?_; intro v hv) | refine depGo_skip rfl ?_ | refine depGo_none rfl ?_)); apply Pure1.mk; intro K hk; exact W_sliceLo (by first | rfl | assumption) (by first | rfl | assumption) (by omega) hk)))
        apply steps_cons
        · refine A_fact (φ := fun v H3 => ∃ out, IsCat 1 v 3 (pre.length + (out.length + post.length)) (pre.map Nd.ptr ++ (out.map Nd.ptr ++ post.map Nd.ptr)) H3 ∧ AllAt H3 h out ∧ PartNodes H Q h its n out) ?_
          intro c' u H' w' hG'
          have hS' := hG'.sub
          (repeat (first | refine depGo_eq rfl rfl rfl ?_ | (refine depGo_fact rfl rfl rfl ?_; intro v hv) | refine depGo_skip rfl ?_ | refine depGo_none rfl ?_))
          obtain ⟨out, ⟨B2, d2, rfl, hd2, hsl2, hk2⟩, hpn⟩ := hv
          have i1 : IsSl 1 (.slice B (a.length) d) pre.length (pre.map Nd.ptr) H' := ⟨B, d, by rw [hfrom], by omega, hs1.mono hG'.le, by simp⟩
          have i2 : IsSl 1 (.slice B2 out.length d2) out.length (out.map Nd.ptr) H' := ⟨B2, d2, rfl, hd2, hsl2, by simp⟩
          have i3 : IsSl 1 (.slice (slAddr B d (a.length + 1) 1) (x.kids.length - (a.length + 1)) (d - (a.length + 1))) post.length (post.map Nd.ptr) H' := ⟨_, _, by rw [hto], by omega, hs2.mono hG'.le, by simp⟩
          refine depGo_nil ?_
          refine W_buildOnes hS' (by omega) (by rfl) (by rfl) ?_
          intro H3 w3 g hG3 hb3 _ _
          exact ⟨H3, hG3.le, hG'.trans hG3, fun H'' hle => ⟨out, (isCat3 hb3 hG3.le i1 i2 i3 (ptr_one _) (ptr_one _) (ptr_one _)).mono hle, (hk2.mono hG3.le).mono hle, hpn⟩⟩
        (apply steps_cons; case h1 => (refine A_fact (φ := (fun v H3 => ∃ out, NdsAt H3 h v (pre ++ out ++ post) ∧ PartNodes H Q h its n out)) ?_; intro c' u H' w' hG'; have hS' := hG'.sub; (repeat (first | refine depGo_eq rfl rfl rfl ?_ | (refine depGo_fact rfl rfl rfl ?_; intro v hv) | refine depGo_skip rfl ?_ | refine depGo_none rfl ?_)); rename_i v1 hv1; obtain ⟨out, hcat, hk2, hpn⟩ := hv1; refine depGo_nil ?_; refine W_call hS' (by rfl) ((have hsn := hpn.len; cat_Node H' _ _ _ _ hcat (by omega) (by omega))) ?_; intro v H3 w3 hG3 hr; exact ⟨H3, hG3.le, hG'.trans hG3, fun H'' hle => ⟨out, nds_of (by
            have e1 : (pre ++ out ++ post).length = pre.length + (out.length + post.length) := by rw [List.length_append, List.length_append]; omega
            rw [e1, List.map_append, List.map_append, List.append_assoc]; exact hr.mono hle) (((hkpre.mono hG'.le).append hk2).append (hkpost.mono hG'.le) |>.mono hG3.le |>.mono hle), hpn⟩⟩))
        apply steps_cons
        · refine A_fact (φ := fun v H3 => ∃ out, PtAt H3 h v [] (pre ++ out ++ post) ∧ PartNodes H Q h its n out) ?_
          intro c' u H' w' hG'
          have hS' := hG'.sub
          (repeat (first | refine depGo_eq rfl rfl rfl ?_ | (refine depGo_fact rfl rfl rfl ?_; intro v hv) | refine depGo_skip rfl ?_ | refine depGo_none rfl ?_))
          obtain ⟨out, ⟨B2, d2, rfl, hd2, hsl2, hk2⟩, hpn⟩ := hv
          refine depGo_nil ?_
          refine W_build (by rfl) ?_
          exact ⟨H', HLe.refl _, hG', fun H'' hle => ⟨out, ⟨none, 0, B2, d2, rfl, Nat.le_refl _, hd2, .inl rfl, hsl2.mono hle, hk2.mono hle⟩, hpn⟩⟩
        apply steps_cons
        · refine A_eff (φ := fun _ _ => True) ?_
          intro u' H' w' hG'
          (repeat (first | refine depGo_eq rfl rfl rfl ?_ | (refine depGo_fact rfl rfl rfl ?_; intro v hv) | refine depGo_skip rfl ?_ | refine depGo_none rfl ?_))
          obtain ⟨out, ⟨A3, c3, B3, d3, rfl, r1, r2, r4, r5, r6⟩, hpn⟩ := hv
          refine depGo_nil ?_
          obtain ⟨hm4', hm9'⟩ := hG'.m (Nat.le_refl _)
          refine W_storeM (b := b4) (o := 0) (vs := [.slice A3 ([] : List Ent).length c3, .slice B3 (pre ++ out ++ post).length d3]) (by rfl) (by rfl) hm4' (by rfl) (two_one rfl rfl) (by rfl) (Nat.le_refl 2) ?_
          intro w3 hg3 hm3
          exact ⟨H', HLe.refl _, hG'.next (grown_own hG'.grow hg3 hm4' hb4) ⟨⟨out, _, _, hm3, ⟨A3, c3, B3, d3, rfl, r1, r2, r4, r5, r6⟩, hpn⟩, hm9'.other hg3 (fun e => hne (by cases e; rfl))⟩, fun _ _ => trivial⟩
        exact trivial
      · intro H' w' hG' hle' hF
        (repeat (first | refine fin_eq rfl rfl ?_ | (refine fin_fact rfl ?_; intro v hv) | refine fin_none rfl ?_)); refine fin_nil ?_
        (refine CW_ret ?_)
        obtain ⟨⟨out, v1, v2, hm', hpt, hpn⟩, _⟩ := hF
        have hlo := hpn.len
        refine ⟨_, ResW_cell (cs := [v1, v2]) rfl hm' rfl, H', hG', pre.length + out.length + post.length, out.map Nd.blk ++ N, by simp; omega, (del_kids hpt hf hprem hpostm hpn hlow' hits hbx).wider (fun b hb => ?_), ?_, ?_⟩
        · rcases hb with hb | hb
          · exact .inl (List.mem_append_left _ hb)
          · rw [hQ] at hb
            rcases hb with hb | hb
            · exact .inl (List.mem_append_right _ hb)
            · exact .inr hb
        · show _ ≤ x.kids.length
          have := hpn.one hone; omega
        · show x.kids.length ≤ _
          have := hpn.one hone; omega
    · by_cases ha : 0 < a.length
      · obtain ⟨L, s, hLs⟩ := last_split ha
        have hal : a.length = L.length + 1 := by rw [hLs]; simp
        have hsk : s ∈ x.kids := by rw [h1, hLs]; simp
        have hats : NodeAt H h s := hx.kids s hsk
        have hfs := Nd.full_kids hf s hsk
        have hes := enough_iff.1 hfs.1
        have hss := size_le hats.ok
        have hgets : (x.kids.map Nd.ptr)[(a.length - 1) * 1]? = some s.ptr := by rw [h1, hLs]; simp
        have hq2 : a.length - 1 < x.kids.length := by omega
        (refine S_op ?_; refine W_lssT (by first | rfl | assumption) (by first | rfl | assumption) (by first | omega | rfl) ?_; refine S_nil ?_; refine CW_true (by first | rfl | assumption) ?_; refine CW_seq ?_; refine CW_region rfl ?_; refine S_op ?_; refine W_moveInt (by first | rfl | assumption) ?_; refine S_op ?_; refine W_gtrT (by first | rfl | assumption) (by first | rfl | assumption) (by first | omega | rfl) ?_; refine S_nil ?_; refine CW_true (by first | rfl | assumption) ?_; refine CW_seq ?_; refine CW_region rfl ?_; refine S_op ?_; refine W_moveInt (by first | rfl | assumption) ?_; refine S_op ?_; refine W_sub1 (by first | rfl | assumption) (by omega) (by omega) ?_; refine S_op ?_; refine W_assignInt (by first | rfl | assumption) ?_; refine S_nil ?_)
        apply CW_region_eff (fun H w => Mut H w b4 Zp ∧ Mut H w b9 [u1, u2]) (DelL b4 b9 Q h (Nd.items h s ++ withoutL (Nd.items h m) key) (Nd.size h s + n)) 1 [_, _, _, _, _, _, _, _] [none, none, none, none, none, some 0, none, some 1] [some 49, some 50, some 51, some 52, some 53, some 54, some 55, none] [49, 50, 51, 52, 53, 54, 55] mixed rfl rfl rfl rfl (by decide) rfl rfl rfl (by assumption)
        · exact ⟨hm4, hm9⟩
        · exact (closedMut b4 _).and (closedMut b9 _)
        · exact closedDelL _ _ _ _ _ _
        · ((apply steps_cons; case h1 => (apply A_pure; intro c u H' w' hG; have hS' := hG.sub; have hS2' := hG.subOld; (repeat (first | refine depGo_eq rfl rfl rfl ?_ | (refine depGo_fact rfl rfl rfl ?_; intro v hv) | refine depGo_skip rfl ?_ | refine depGo_none rfl ?_)); apply Pure1.mk; intro K hk; exact W_moveSl (by first | rfl | assumption) hk)); (apply steps_cons; case h1 => (apply A_pure; intro c u H' w' hG; have hS' := hG.sub; have hS2' := hG.subOld; (repeat (first | refine depGo_eq rfl rfl rfl ?_ | (refine depGo_fact rfl rfl rfl ?_; intro v hv) | refine depGo_skip rfl ?_ | refine depGo_none rfl ?_)); apply Pure1.mk; intro K hk; exact W_moveInt (by first | rfl | assumption) hk)); (apply steps_cons; case h1 => (apply A_pure; intro c u H' w' hG; have hS' := hG.sub; have hS2' := hG.subOld; (repeat (first | refine depGo_eq rfl rfl rfl ?_ | (refine depGo_fact rfl rfl rfl ?_; intro v hv) | refine depGo_skip rfl ?_ | refine depGo_none rfl ?_)); apply Pure1.mk; intro K hk; exact W_index (by first | rfl | assumption) (by first | rfl | assumption) (by first | assumption | omega | decide) (by first | rfl | assumption) hk)))
          apply steps_cons; case h1 => (apply A_pure; intro c u H' w' hG'; have hS2' := hG'.subOld; (repeat (first | refine depGo_eq rfl rfl rfl ?_ | (refine depGo_fact rfl rfl rfl ?_; intro v hv) | refine depGo_skip rfl ?_ | refine depGo_none rfl ?_)); apply Pure1.mk; intro K hk; exact W_loadRow (j := (a.length - 1) * 1) (by rfl) hrow hgets hS2' hk)
          (apply steps_cons; case h1 => (refine A_fact (φ := (fun v H3 => IsPart H3 Q h v (Nd.items h s) (Nd.size h s))) ?_; intro c' u H' w' hG; have hS' := hG.sub; (repeat (first | refine depGo_eq rfl rfl rfl ?_ | (refine depGo_fact rfl rfl rfl ?_; intro v hv) | refine depGo_skip rfl ?_ | refine depGo_none rfl ?_)); refine depGo_nil ?_; refine W_call hS' (by rfl) (part_of (hats.mono hG.le) hfs.2 (hbx s hsk)) ?_; intro v H3 w3 hG3 hr; exact ⟨H3, hG3.le, hG.trans hG3, fun H'' hle => hr.mono hle⟩))
          apply steps_cons
          · refine A_eff (φ := fun v _ => v = .agg #[u1, u2]) ?_
            intro u' H' w' hG'
            (repeat (first | refine depGo_eq rfl rfl rfl ?_ | (refine depGo_fact rfl rfl rfl ?_; intro v hv) | refine depGo_skip rfl ?_ | refine depGo_none rfl ?_))
            refine depGo_nil ?_
            refine W_loadMAgg (s := 2) (vs := [u1, u2]) (by rfl) (hG'.m (by omega)).2 (by rfl) (by rfl) ?_
            exact ⟨H', HLe.refl _, hG'.pass (by omega), fun _ _ => rfl⟩
          (apply steps_cons; case h1 => (refine A_fact (φ := (fun v H3 => IsPart H3 Q h v (Nd.items h s ++ withoutL (Nd.items h m) key) (Nd.size h s + n))) ?_; intro c' u H' w' hG'; have hS' := hG'.sub; (repeat (first | refine depGo_eq rfl rfl rfl ?_ | (refine depGo_fact rfl rfl rfl ?_; intro v hv) | refine depGo_skip rfl ?_ | refine depGo_none rfl ?_)); have hps := hv; refine depGo_nil ?_; refine W_call hS' (by rfl) (part_with hps (hp.mono hG'.le) (by omega) (by omega)) ?_; intro v H3 w3 hG3 hr; exact ⟨H3, hG3.le, hG'.trans hG3, fun H'' hle => hr.mono hle⟩))
          apply steps_cons
          · refine A_eff (φ := fun _ _ => True) ?_
            intro u' H' w' hG'
            (repeat (first | refine depGo_eq rfl rfl rfl ?_ | (refine depGo_fact rfl rfl rfl ?_; intro v hv) | refine depGo_skip rfl ?_ | refine depGo_none rfl ?_))
            have hv : IsPart H' Q h v _ _ := hv
            obtain ⟨A3, a3, c3, B3, b3, d3, hve⟩ := hv.agg
            subst hve
            refine depGo_nil ?_
            obtain ⟨hm4', hm9'⟩ := hG'.m (Nat.le_refl _)
            refine W_storeM (b := b9) (o := 0) (vs := [.slice A3 a3 c3, .slice B3 b3 d3]) (by rfl) (by rfl) hm9' (by rfl) (two_one rfl rfl) (by rfl) (Nat.le_refl 2) ?_
            intro w3 hg3 hm3
            exact ⟨H', HLe.refl _, hG'.next (grown_own hG'.grow hg3 hm9' hb9) ⟨hm4'.other hg3 (fun e => hne (by cases e; rfl)), _, _, hm3, hv⟩, fun _ _ => trivial⟩
          exact trivial
        · skip
          intro H w hG hle' hF
          (repeat (first | refine fin_eq rfl rfl ?_ | (refine fin_fact rfl ?_; intro v hv) | refine fin_none rfl ?_)); refine fin_nil ?_
          obtain ⟨hm4, u1, u2, hm9, hp⟩ := hF
          obtain ⟨n', hnn⟩ : ∃ k, k = Nd.size h s + n := ⟨_, rfl⟩
          rw [← hnn] at hp
          replace hS := hG.sub
          replace hsl := hsl.mono hle'
          replace hka := hka.mono hle'
          replace hkb := hkb.mono hle'
          obtain ⟨pre, hpre⟩ : ∃ l, l = L := ⟨_, rfl⟩
          obtain ⟨post, hpost⟩ : ∃ l, l = b := ⟨_, rfl⟩
          obtain ⟨its, hits0⟩ : ∃ l, l = Nd.items h s ++ withoutL (Nd.items h m) key := ⟨_, rfl⟩
          have hits : pre.flatMap (Nd.items h) ++ its ++ post.flatMap (Nd.items h) = withoutL (Nd.items (h + 1) x) key := by rw [hwk, hits0, hpre, hpost, hLs]; simp
          have hfrom : a.length - 1 = pre.length := by rw [hpre]; omega
          have hto : x.kids.length - (a.length + 1) = post.length := by rw [hpost]; omega
          have hs1 : SlAt H B (pre.map Nd.ptr) := by have := SlAt.take hsl L.length; rw [h1, hLs] at this; rw [hpre]; simpa using this
          have hs2 : SlAt H (slAddr B d (a.length + 1) 1) (post.map Nd.ptr) := by
            have := SlAt.drop (l := a.length + 1) (sz := 1) hsl (by simp) hd
            rw [Nat.mul_one, ← List.map_drop, h1] at this
            rw [hpost]
            simpa using this
          have hkpre : AllAt H h pre := by rw [hpre]; intro k hk; exact hka k (by rw [hLs]; simp [hk])
          have hkpost : AllAt H h post := by rw [hpost]; exact hkb
          have hprem : ∀ k ∈ pre, k ∈ x.kids := by intro k hk; rw [hpre] at hk; rw [h1, hLs]; simp [hk]
          have hpostm : ∀ k ∈ post, k ∈ x.kids := by intro k hk; rw [hpost] at hk; rw [h1]; simp [hk]
          rw [← hits0] at hp
          rw [← hits] at hrw how
          have hr := (rise_parts hrw).2.1
          have ho : ∀ e ∈ its, entOk e = true := fun e he => how e (by simp [he])
          have hlow' : lowN h ≤ n' := by omega
          have hn8 : n' ≤ 8 := by omega
          have hn1 : (if h = 0 then 1 else 2) ≤ n' := by split <;> omega
          obtain ⟨n, hn⟩ : ∃ k, k = n' := ⟨_, rfl⟩
          rw [← hn] at hp hlow' hn8 hn1
          (refine CW_seq ?_)
          apply CW_region_eff (fun H w => Mut H w b4 Zp ∧ Mut H w b9 [u1, u2]) (DelF b4 b9 Q H h its n pre post [u1, u2]) 0 [_, _, _, _, _, _, _, _, _, _, _, _] [none, none, none, none, none, none, none, none, none, none, none, some 0] [some 66, some 67, some 68, some 69, some 70, some 71, some 72, some 73, some 74, some 75, some 76, none] [66, 67, 68, 69, 70, 71, 72, 73, 74, 75, 76] mixed rfl rfl rfl rfl (by decide) rfl rfl rfl (by assumption)
          · exact ⟨hm4, hm9⟩
          · exact (closedMut b4 _).and (closedMut b9 _)
          · exact closedDelF _ _ _ _ _ _ _ _ _ _
          · ((apply steps_cons; case h1 => (apply A_pure; intro c u H' w' hG; have hS' := hG.sub; have hS2' := hG.subOld; (repeat (first | refine depGo_eq rfl rfl rfl ?_ | (refine depGo_fact rfl rfl rfl ?_; intro v hv) | refine depGo_skip rfl ?_ | refine depGo_none rfl ?_)); apply Pure1.mk; intro K hk; exact W_moveSl (by first | rfl | assumption) hk)); (apply steps_cons; case h1 => (apply A_pure; intro c u H' w' hG; have hS' := hG.sub; have hS2' := hG.subOld; (repeat (first | refine depGo_eq rfl rfl rfl ?_ | (refine depGo_fact rfl rfl rfl ?_; intro v hv) | refine depGo_skip rfl ?_ | refine depGo_none rfl ?_)); apply Pure1.mk; intro K hk; exact W_moveInt (by first | rfl | assumption) hk)); (apply steps_cons; case h1 => (apply A_pure; intro c u H' w' hG; have hS' := hG.sub; have hS2' := hG.subOld; (repeat (first | refine depGo_eq rfl rfl rfl ?_ | (refine depGo_fact rfl rfl rfl ?_; intro v hv) | refine depGo_skip rfl ?_ | refine depGo_none rfl ?_)); apply Pure1.mk; intro K hk; exact W_sliceHi (by first | rfl | assumption) (by first | rfl | assumption) (by omega) hk)))
            apply steps_cons
            · refine A_pure (val := .agg #[u1, u2]) ?_
              intro c u H' w' hG'
              (repeat (first | refine depGo_eq rfl rfl rfl ?_ | (refine depGo_fact rfl rfl rfl ?_; intro v hv) | refine depGo_skip rfl ?_ | refine depGo_none rfl ?_))
              have hm' : Mut H' w' b9 [u1, u2] := by
                by_cases hc : c ≤ 0
                · exact (hG'.m hc).2
                · exact (hG'.f (by omega)).2
              apply Pure1.mk
              intro K hk
              exact W_loadMAgg (s := 2) (vs := [u1, u2]) (by rfl) hm' (by rfl) (by rfl) hk
            (apply steps_cons; case h1 => (refine A_fact (φ := (fun v H3 => ∃ out, NdsAt H3 h v out ∧ PartNodes H Q h its n out)) ?_; intro c' u H' w' hG; have hS' := hG.sub; (repeat (first | refine depGo_eq rfl rfl rfl ?_ | (refine depGo_fact rfl rfl rfl ?_; intro v hv) | refine depGo_skip rfl ?_ | refine depGo_none rfl ?_)); refine depGo_nil ?_; refine W_call hS' (by rfl) (part_nodes (hp.mono hG.le) hr ho hn1 hn8 (by omega)) ?_; intro v H3 w3 hG3 hr; exact ⟨H3, hG3.le, hG.trans hG3, fun H'' hle => (by
                obtain ⟨out, q1, q2⟩ := hr
                exact ⟨out, q1.mono hle, q2.old hG.le⟩)⟩))
            ((apply steps_cons; case h1 => (apply A_pure; intro c u H' w' hG; have hS' := hG.sub; have hS2' := hG.subOld; (repeat (first | refine depGo_eq rfl rfl rfl ?_ | (refine depGo_fact rfl rfl rfl ?_; intro v hv) | refine depGo_skip rfl ?_ | refine depGo_none rfl ?_)); apply Pure1.mk; intro K hk; exact W_moveSl (by first | rfl | assumption) hk)); (apply steps_cons; case h1 => (apply A_pure; intro c u H' w' hG; have hS' := hG.sub; have hS2' := hG.subOld; (repeat (first | refine depGo_eq rfl rfl rfl ?_ | (refine depGo_fact rfl rfl rfl ?_; intro v hv) | refine depGo_skip rfl ?_ | refine depGo_none rfl ?_)); apply Pure1.mk; intro K hk; exact W_moveInt (by first | rfl | assumption) hk)); (apply steps_cons; case h1 => (apply A_pure; intro c u H' w' hG; have hS' := hG.sub; have hS2' := hG.subOld; (repeat (first | refine depGo_eq rfl rfl rfl ?_ | (refine depGo_fact rfl rfl rfl ?_; intro v hv) | refine depGo_skip rfl ?_ | refine depGo_none rfl ?_)); apply Pure1.mk; intro K hk; exact W_sliceLo (by first | rfl | assumption) (by first | rfl | assumption) (by omega) hk)))
            apply steps_cons
            · refine A_fact (φ := fun v H3 => ∃ out, IsCat 1 v 3 (pre.length + (out.length + post.length)) (pre.map Nd.ptr ++ (out.map Nd.ptr ++ post.map Nd.ptr)) H3 ∧ AllAt H3 h out ∧ PartNodes H Q h its n out) ?_
              intro c' u H' w' hG'
              have hS' := hG'.sub
              (repeat (first | refine depGo_eq rfl rfl rfl ?_ | (refine depGo_fact rfl rfl rfl ?_; intro v hv) | refine depGo_skip rfl ?_ | refine depGo_none rfl ?_))
              obtain ⟨out, ⟨B2, d2, rfl, hd2, hsl2, hk2⟩, hpn⟩ := hv
              have i1 : IsSl 1 (.slice B (a.length - 1) d) pre.length (pre.map Nd.ptr) H' := ⟨B, d, by rw [hfrom], by omega, hs1.mono hG'.le, by simp⟩
              have i2 : IsSl 1 (.slice B2 out.length d2) out.length (out.map Nd.ptr) H' := ⟨B2, d2, rfl, hd2, hsl2, by simp⟩
              have i3 : IsSl 1 (.slice (slAddr B d (a.length + 1) 1) (x.kids.length - (a.length + 1)) (d - (a.length + 1))) post.length (post.map Nd.ptr) H' := ⟨_, _, by rw [hto], by omega, hs2.mono hG'.le, by simp⟩
              refine depGo_nil ?_
              refine W_buildOnes hS' (by omega) (by rfl) (by rfl) ?_
              intro H3 w3 g hG3 hb3 _ _
              exact ⟨H3, hG3.le, hG'.trans hG3, fun H'' hle => ⟨out, (isCat3 hb3 hG3.le i1 i2 i3 (ptr_one _) (ptr_one _) (ptr_one _)).mono hle, (hk2.mono hG3.le).mono hle, hpn⟩⟩
            (apply steps_cons; case h1 => (refine A_fact (φ := (fun v H3 => ∃ out, NdsAt H3 h v (pre ++ out ++ post) ∧ PartNodes H Q h its n out)) ?_; intro c' u H' w' hG'; have hS' := hG'.sub; (repeat (first | refine depGo_eq rfl rfl rfl ?_ | (refine depGo_fact rfl rfl rfl ?_; intro v hv) | refine depGo_skip rfl ?_ | refine depGo_none rfl ?_)); rename_i v1 hv1; obtain ⟨out, hcat, hk2, hpn⟩ := hv1; refine depGo_nil ?_; refine W_call hS' (by rfl) ((have hsn := hpn.len; cat_Node H' _ _ _ _ hcat (by omega) (by omega))) ?_; intro v H3 w3 hG3 hr; exact ⟨H3, hG3.le, hG'.trans hG3, fun H'' hle => ⟨out, nds_of (by
                have e1 : (pre ++ out ++ post).length = pre.length + (out.length + post.length) := by rw [List.length_append, List.length_append]; omega
                rw [e1, List.map_append, List.map_append, List.append_assoc]; exact hr.mono hle) (((hkpre.mono hG'.le).append hk2).append (hkpost.mono hG'.le) |>.mono hG3.le |>.mono hle), hpn⟩⟩))
            apply steps_cons
            · refine A_fact (φ := fun v H3 => ∃ out, PtAt H3 h v [] (pre ++ out ++ post) ∧ PartNodes H Q h its n out) ?_
              intro c' u H' w' hG'
              have hS' := hG'.sub
              (repeat (first | refine depGo_eq rfl rfl rfl ?_ | (refine depGo_fact rfl rfl rfl ?_; intro v hv) | refine depGo_skip rfl ?_ | refine depGo_none rfl ?_))
              obtain ⟨out, ⟨B2, d2, rfl, hd2, hsl2, hk2⟩, hpn⟩ := hv
              refine depGo_nil ?_
              refine W_build (by rfl) ?_
              exact ⟨H', HLe.refl _, hG', fun H'' hle => ⟨out, ⟨none, 0, B2, d2, rfl, Nat.le_refl _, hd2, .inl rfl, hsl2.mono hle, hk2.mono hle⟩, hpn⟩⟩
            apply steps_cons
            · refine A_eff (φ := fun _ _ => True) ?_
              intro u' H' w' hG'
              (repeat (first | refine depGo_eq rfl rfl rfl ?_ | (refine depGo_fact rfl rfl rfl ?_; intro v hv) | refine depGo_skip rfl ?_ | refine depGo_none rfl ?_))
              obtain ⟨out, ⟨A3, c3, B3, d3, rfl, r1, r2, r4, r5, r6⟩, hpn⟩ := hv
              refine depGo_nil ?_
              obtain ⟨hm4', hm9'⟩ := hG'.m (Nat.le_refl _)
              refine W_storeM (b := b4) (o := 0) (vs := [.slice A3 ([] : List Ent).length c3, .slice B3 (pre ++ out ++ post).length d3]) (by rfl) (by rfl) hm4' (by rfl) (two_one rfl rfl) (by rfl) (Nat.le_refl 2) ?_
              intro w3 hg3 hm3
              exact ⟨H', HLe.refl _, hG'.next (grown_own hG'.grow hg3 hm4' hb4) ⟨⟨out, _, _, hm3, ⟨A3, c3, B3, d3, rfl, r1, r2, r4, r5, r6⟩, hpn⟩, hm9'.other hg3 (fun e => hne (by cases e; rfl))⟩, fun _ _ => trivial⟩
            exact trivial
          · intro H' w' hG' hle' hF
            (repeat (first | refine fin_eq rfl rfl ?_ | (refine fin_fact rfl ?_; intro v hv) | refine fin_none rfl ?_)); refine fin_nil ?_
            (refine CW_ret ?_)
            obtain ⟨⟨out, v1, v2, hm', hpt, hpn⟩, _⟩ := hF
            have hlo := hpn.len
            refine ⟨_, ResW_cell (cs := [v1, v2]) rfl hm' rfl, H', hG', pre.length + out.length + post.length, out.map Nd.blk ++ N, by simp; omega, (del_kids hpt hf hprem hpostm hpn hlow' hits hbx).wider (fun b hb => ?_), ?_, ?_⟩
            · rcases hb with hb | hb
              · exact .inl (List.mem_append_left _ hb)
              · rw [hQ] at hb
                rcases hb with hb | hb
                · exact .inl (List.mem_append_right _ hb)
                · exact .inr hb
            · show _ ≤ x.kids.length
              omega
            · show x.kids.length ≤ _
              omega
      · have ha0 : a = [] := List.eq_nil_of_length_eq_zero (by omega)
        have hal : a.length = 0 := by omega
        match b, h1, h4, hxn, hwk, hkb with
        | [], h1, h4, hxn, hwk, hkb => simp at hxn; omega
        | s :: b', h1, h4, hxn, hwk, hkb =>
        have hsk : s ∈ x.kids := by rw [h1]; simp
        have hats : NodeAt H h s := hx.kids s hsk
        have hfs := Nd.full_kids hf s hsk
        have hes := enough_iff.1 hfs.1
        have hss := size_le hats.ok
        have hgets : (x.kids.map Nd.ptr)[(a.length + 1) * 1]? = some s.ptr := by rw [h1, ha0]; simp
        have hxn : x.kids.length = a.length + 1 + (b'.length + 1) := hxn
        have hq2 : a.length + 1 < x.kids.length := by omega
        (refine S_op ?_; refine W_lssT (by first | rfl | assumption) (by first | rfl | assumption) (by first | omega | rfl) ?_; refine S_nil ?_; refine CW_true (by first | rfl | assumption) ?_; refine CW_seq ?_; refine CW_region rfl ?_; refine S_op ?_; refine W_moveInt (by first | rfl | assumption) ?_; refine S_op ?_; refine W_gtrF (by first | rfl | assumption) (by first | rfl | assumption) (by first | omega | rfl) ?_; refine S_nil ?_; refine CW_false (by first | rfl | assumption) ?_; refine CW_seq ?_; refine CW_region rfl ?_; refine S_op ?_; refine W_moveInt (by first | rfl | assumption) ?_; refine S_op ?_; refine W_add2 (by first | rfl | assumption) (by omega) ?_; refine S_op ?_; refine W_assignInt (by first | rfl | assumption) ?_; refine S_nil ?_)
        apply CW_region_eff (fun H w => Mut H w b4 Zp ∧ Mut H w b9 [u1, u2]) (DelL b4 b9 Q h (withoutL (Nd.items h m) key ++ Nd.items h s) (n + Nd.size h s)) 1 [_, _, _, _, _, _, _, _, _] [some 0, none, none, none, none, none, none, none, some 1] [some 58, some 59, some 60, some 61, some 62, some 63, some 64, some 65, none] [58, 59, 60, 61, 62, 63, 64, 65] mixed rfl rfl rfl rfl (by decide) rfl rfl rfl (by assumption)
        · exact ⟨hm4, hm9⟩
        · exact (closedMut b4 _).and (closedMut b9 _)
        · exact closedDelL _ _ _ _ _ _
        · skip
          apply steps_cons
          · refine A_eff (φ := fun v _ => v = .agg #[u1, u2]) ?_
            intro u' H' w' hG'
            (repeat (first | refine depGo_eq rfl rfl rfl ?_ | (refine depGo_fact rfl rfl rfl ?_; intro v hv) | refine depGo_skip rfl ?_ | refine depGo_none rfl ?_))
            refine depGo_nil ?_
            refine W_loadMAgg (s := 2) (vs := [u1, u2]) (by rfl) (hG'.m (by omega)).2 (by rfl) (by rfl) ?_
            exact ⟨H', HLe.refl _, hG'.pass (by omega), fun _ _ => rfl⟩
          ((apply steps_cons; case h1 => (apply A_pure; intro c u H' w' hG; have hS' := hG.sub; have hS2' := hG.subOld; (repeat (first | refine depGo_eq rfl rfl rfl ?_ | (refine depGo_fact rfl rfl rfl ?_; intro v hv) | refine depGo_skip rfl ?_ | refine depGo_none rfl ?_)); apply Pure1.mk; intro K hk; exact W_moveSl (by first | rfl | assumption) hk)); (apply steps_cons; case h1 => (apply A_pure; intro c u H' w' hG; have hS' := hG.sub; have hS2' := hG.subOld; (repeat (first | refine depGo_eq rfl rfl rfl ?_ | (refine depGo_fact rfl rfl rfl ?_; intro v hv) | refine depGo_skip rfl ?_ | refine depGo_none rfl ?_)); apply Pure1.mk; intro K hk; exact W_moveInt (by first | rfl | assumption) hk)); (apply steps_cons; case h1 => (apply A_pure; intro c u H' w' hG; have hS' := hG.sub; have hS2' := hG.subOld; (repeat (first | refine depGo_eq rfl rfl rfl ?_ | (refine depGo_fact rfl rfl rfl ?_; intro v hv) | refine depGo_skip rfl ?_ | refine depGo_none rfl ?_)); apply Pure1.mk; intro K hk; exact W_add1 (by first | rfl | assumption) (by omega) hk)); (apply steps_cons; case h1 => (apply A_pure; intro c u H' w' hG; have hS' := hG.sub; have hS2' := hG.subOld; (repeat (first | refine depGo_eq rfl rfl rfl ?_ | (refine depGo_fact rfl rfl rfl ?_; intro v hv) | refine depGo_skip rfl ?_ | refine depGo_none rfl ?_)); apply Pure1.mk; intro K hk; exact W_index (by first | rfl | assumption) (by first | rfl | assumption) (by first | assumption | omega | decide) (by first | rfl | assumption) hk)))
          apply steps_cons; case h1 => (apply A_pure; intro c u H' w' hG'; have hS2' := hG'.subOld; (repeat (first | refine depGo_eq rfl rfl rfl ?_ | (refine depGo_fact rfl rfl rfl ?_; intro v hv) | refine depGo_skip rfl ?_ | refine depGo_none rfl ?_)); apply Pure1.mk; intro K hk; exact W_loadRow (j := (a.length + 1) * 1) (by rfl) hrow hgets hS2' hk)
          (apply steps_cons; case h1 => (refine A_fact (φ := (fun v H3 => IsPart H3 Q h v (Nd.items h s) (Nd.size h s))) ?_; intro c' u H' w' hG; have hS' := hG.sub; (repeat (first | refine depGo_eq rfl rfl rfl ?_ | (refine depGo_fact rfl rfl rfl ?_; intro v hv) | refine depGo_skip rfl ?_ | refine depGo_none rfl ?_)); refine depGo_nil ?_; refine W_call hS' (by rfl) (part_of (hats.mono hG.le) hfs.2 (hbx s hsk)) ?_; intro v H3 w3 hG3 hr; exact ⟨H3, hG3.le, hG.trans hG3, fun H'' hle => hr.mono hle⟩))
          (apply steps_cons; case h1 => (refine A_fact (φ := (fun v H3 => IsPart H3 Q h v (withoutL (Nd.items h m) key ++ Nd.items h s) (n + Nd.size h s))) ?_; intro c' u H' w' hG'; have hS' := hG'.sub; (repeat (first | refine depGo_eq rfl rfl rfl ?_ | (refine depGo_fact rfl rfl rfl ?_; intro v hv) | refine depGo_skip rfl ?_ | refine depGo_none rfl ?_)); have hps := hv; refine depGo_nil ?_; refine W_call hS' (by rfl) (part_with (hp.mono hG'.le) hps (by omega) (by omega)) ?_; intro v H3 w3 hG3 hr; exact ⟨H3, hG3.le, hG'.trans hG3, fun H'' hle => hr.mono hle⟩))
          apply steps_cons
          · refine A_eff (φ := fun _ _ => True) ?_
            intro u' H' w' hG'
            (repeat (first | refine depGo_eq rfl rfl rfl ?_ | (refine depGo_fact rfl rfl rfl ?_; intro v hv) | refine depGo_skip rfl ?_ | refine depGo_none rfl ?_))
            have hv : IsPart H' Q h v _ _ := hv
            obtain ⟨A3, a3, c3, B3, b3, d3, hve⟩ := hv.agg
            subst hve
            refine depGo_nil ?_
            obtain ⟨hm4', hm9'⟩ := hG'.m (Nat.le_refl _)
            refine W_storeM (b := b9) (o := 0) (vs := [.slice A3 a3 c3, .slice B3 b3 d3]) (by rfl) (by rfl) hm9' (by rfl) (two_one rfl rfl) (by rfl) (Nat.le_refl 2) ?_
            intro w3 hg3 hm3
            exact ⟨H', HLe.refl _, hG'.next (grown_own hG'.grow hg3 hm9' hb9) ⟨hm4'.other hg3 (fun e => hne (by cases e; rfl)), _, _, hm3, hv⟩, fun _ _ => trivial⟩
          exact trivial
        · skip
          intro H w hG hle' hF
          (repeat (first | refine fin_eq rfl rfl ?_ | (refine fin_fact rfl ?_; intro v hv) | refine fin_none rfl ?_)); refine fin_nil ?_
          obtain ⟨hm4, u1, u2, hm9, hp⟩ := hF
          obtain ⟨n', hnn⟩ : ∃ k, k = n + Nd.size h s := ⟨_, rfl⟩
          rw [← hnn] at hp
          replace hS := hG.sub
          replace hsl := hsl.mono hle'
          replace hka := hka.mono hle'
          replace hkb := hkb.mono hle'
          obtain ⟨pre, hpre⟩ : ∃ l : List (Nd h), l = [] := ⟨_, rfl⟩
          obtain ⟨post, hpost⟩ : ∃ l, l = b' := ⟨_, rfl⟩
          obtain ⟨its, hits0⟩ : ∃ l, l = withoutL (Nd.items h m) key ++ Nd.items h s := ⟨_, rfl⟩
          have hits : pre.flatMap (Nd.items h) ++ its ++ post.flatMap (Nd.items h) = withoutL (Nd.items (h + 1) x) key := by rw [hwk, hits0, hpre, hpost, ha0]; simp
          have hfrom : a.length = pre.length := by rw [hpre]; exact hal
          have hto : x.kids.length - (a.length + 2) = post.length := by rw [hpost]; omega
          have hs1 : SlAt H B (pre.map Nd.ptr) := by rw [hpre]; exact .inl rfl
          have hs2 : SlAt H (slAddr B d (a.length + 2) 1) (post.map Nd.ptr) := by
            have := SlAt.drop (l := a.length + 2) (sz := 1) hsl (by simp) hd
            rw [Nat.mul_one, ← List.map_drop, h1, ha0] at this
            rw [hpost, ha0]
            simpa using this
          have hkpre : AllAt H h pre := by rw [hpre]; intro k hk; cases hk
          have hkpost : AllAt H h post := by rw [hpost]; intro k hk; exact hkb k (by simp [hk])
          have hprem : ∀ k ∈ pre, k ∈ x.kids := by intro k hk; rw [hpre] at hk; cases hk
          have hpostm : ∀ k ∈ post, k ∈ x.kids := by intro k hk; rw [hpost] at hk; rw [h1]; simp [hk]
          rw [← hits0] at hp
          rw [← hits] at hrw how
          have hr := (rise_parts hrw).2.1
          have ho : ∀ e ∈ its, entOk e = true := fun e he => how e (by simp [he])
          have hlow' : lowN h ≤ n' := by omega
          have hn8 : n' ≤ 8 := by omega
          have hn1 : (if h = 0 then 1 else 2) ≤ n' := by split <;> omega
          obtain ⟨n, hn⟩ : ∃ k, k = n' := ⟨_, rfl⟩
          rw [← hn] at hp hlow' hn8 hn1
          (refine CW_seq ?_)
          apply CW_region_eff (fun H w => Mut H w b4 Zp ∧ Mut H w b9 [u1, u2]) (DelF b4 b9 Q H h its n pre post [u1, u2]) 0 [_, _, _, _, _, _, _, _, _, _, _, _] [none, none, none, none, none, none, none, none, none, none, none, some 0] [some 66, some 67, some 68, some 69, some 70, some 71, some 72, some 73, some 74, some 75, some 76, none] [66, 67, 68, 69, 70, 71, 72, 73, 74, 75, 76] mixed rfl rfl rfl rfl (by decide) rfl rfl rfl (by assumption)
          · exact ⟨hm4, hm9⟩
          · exact (closedMut b4 _).and (closedMut b9 _)
          · exact closedDelF _ _ _ _ _ _ _ _ _ _
          · ((apply steps_cons; case h1 => (apply A_pure; intro c u H' w' hG; have hS' := hG.sub; have hS2' := hG.subOld; (repeat (first | refine depGo_eq rfl rfl rfl ?_ | (refine depGo_fact rfl rfl rfl ?_; intro v hv) | refine depGo_skip rfl ?_ | refine depGo_none rfl ?_)); apply Pure1.mk; intro K hk; exact W_moveSl (by first | rfl | assumption) hk)); (apply steps_cons; case h1 => (apply A_pure; intro c u H' w' hG; have hS' := hG.sub; have hS2' := hG.subOld; (repeat (first | refine depGo_eq rfl rfl rfl ?_ | (refine depGo_fact rfl rfl rfl ?_; intro v hv) | refine depGo_skip rfl ?_ | refine depGo_none rfl ?_)); apply Pure1.mk; intro K hk; exact W_moveInt (by first | rfl | assumption) hk)); (apply steps_cons; case h1 => (apply A_pure; intro c u H' w' hG; have hS' := hG.sub; have hS2' := hG.subOld; (repeat (first | refine depGo_eq rfl rfl rfl ?_ | (refine depGo_fact rfl rfl rfl ?_; intro v hv) | refine depGo_skip rfl ?_ | refine depGo_none rfl ?_)); apply Pure1.mk; intro K hk; exact W_sliceHi (by first | rfl | assumption) (by first | rfl | assumption) (by omega) hk)))
            apply steps_cons
            · refine A_pure (val := .agg #[u1, u2]) ?_
              intro c u H' w' hG'
              (repeat (first | refine depGo_eq rfl rfl rfl ?_ | (refine depGo_fact rfl rfl rfl ?_; intro v hv) | refine depGo_skip rfl ?_ | refine depGo_none rfl ?_))
              have hm' : Mut H' w' b9 [u1, u2] := by
                by_cases hc : c ≤ 0
                · exact (hG'.m hc).2
                · exact (hG'.f (by omega)).2
              apply Pure1.mk
              intro K hk
              exact W_loadMAgg (s := 2) (vs := [u1, u2]) (by rfl) hm' (by rfl) (by rfl) hk
            (apply steps_cons; case h1 => (refine A_fact (φ := (fun v H3 => ∃ out, NdsAt H3 h v out ∧ PartNodes H Q h its n out)) ?_; intro c' u H' w' hG; have hS' := hG.sub; (repeat (first | refine depGo_eq rfl rfl rfl ?_ | (refine depGo_fact rfl rfl rfl ?_; intro v hv) | refine depGo_skip rfl ?_ | refine depGo_none rfl ?_)); refine depGo_nil ?_; refine W_call hS' (by rfl) (part_nodes (hp.mono hG.le) hr ho hn1 hn8 (by omega)) ?_; intro v H3 w3 hG3 hr; exact ⟨H3, hG3.le, hG.trans hG3, fun H'' hle => (by
                obtain ⟨out, q1, q2⟩ := hr
                exact ⟨out, q1.mono hle, q2.old hG.le⟩)⟩))
            ((apply steps_cons; case h1 => (apply A_pure; intro c u H' w' hG; have hS' := hG.sub; have hS2' := hG.subOld; (repeat (first | refine depGo_eq rfl rfl rfl ?_ | (refine depGo_fact rfl rfl rfl ?_; intro v hv) | refine depGo_skip rfl ?_ | refine depGo_none rfl ?_)); apply Pure1.mk; intro K hk; exact W_moveSl (by first | rfl | assumption) hk)); (apply steps_cons; case h1 => (apply A_pure; intro c u H' w' hG; have hS' := hG.sub; have hS2' := hG.subOld; (repeat (first | refine depGo_eq rfl rfl rfl ?_ | (refine depGo_fact rfl rfl rfl ?_; intro v hv) | refine depGo_skip rfl ?_ | refine depGo_none rfl ?_)); apply Pure1.mk; intro K hk; exact W_moveInt (by first | rfl | assumption) hk)); (apply steps_cons; case h1 => (apply A_pure; intro c u H' w' hG; have hS' := hG.sub; have hS2' := hG.subOld; (repeat (first | refine depGo_eq rfl rfl rfl ?_ | (refine depGo_fact rfl rfl rfl ?_; intro v hv) | refine depGo_skip rfl ?_ | refine depGo_none rfl ?_)); apply Pure1.mk; intro K hk; exact W_sliceLo (by first | rfl | assumption) (by first | rfl | assumption) (by omega) hk)))
            apply steps_cons
            · refine A_fact (φ := fun v H3 => ∃ out, IsCat 1 v 3 (pre.length + (out.length + post.length)) (pre.map Nd.ptr ++ (out.map Nd.ptr ++ post.map Nd.ptr)) H3 ∧ AllAt H3 h out ∧ PartNodes H Q h its n out) ?_
              intro c' u H' w' hG'
              have hS' := hG'.sub
              (repeat (first | refine depGo_eq rfl rfl rfl ?_ | (refine depGo_fact rfl rfl rfl ?_; intro v hv) | refine depGo_skip rfl ?_ | refine depGo_none rfl ?_))
              obtain ⟨out, ⟨B2, d2, rfl, hd2, hsl2, hk2⟩, hpn⟩ := hv
              have i1 : IsSl 1 (.slice B (a.length) d) pre.length (pre.map Nd.ptr) H' := ⟨B, d, by rw [hfrom], by omega, hs1.mono hG'.le, by simp⟩
              have i2 : IsSl 1 (.slice B2 out.length d2) out.length (out.map Nd.ptr) H' := ⟨B2, d2, rfl, hd2, hsl2, by simp⟩
              have i3 : IsSl 1 (.slice (slAddr B d (a.length + 2) 1) (x.kids.length - (a.length + 2)) (d - (a.length + 2))) post.length (post.map Nd.ptr) H' := ⟨_, _, by rw [hto], by omega, hs2.mono hG'.le, by simp⟩
              refine depGo_nil ?_
              refine W_buildOnes hS' (by omega) (by rfl) (by rfl) ?_
              intro H3 w3 g hG3 hb3 _ _
              exact ⟨H3, hG3.le, hG'.trans hG3, fun H'' hle => ⟨out, (isCat3 hb3 hG3.le i1 i2 i3 (ptr_one _) (ptr_one _) (ptr_one _)).mono hle, (hk2.mono hG3.le).mono hle, hpn⟩⟩
            (apply steps_cons; case h1 => (refine A_fact (φ := (fun v H3 => ∃ out, NdsAt H3 h v (pre ++ out ++ post) ∧ PartNodes H Q h its n out)) ?_; intro c' u H' w' hG'; have hS' := hG'.sub; (repeat (first | refine depGo_eq rfl rfl rfl ?_ | (refine depGo_fact rfl rfl rfl ?_; intro v hv) | refine depGo_skip rfl ?_ | refine depGo_none rfl ?_)); rename_i v1 hv1; obtain ⟨out, hcat, hk2, hpn⟩ := hv1; refine depGo_nil ?_; refine W_call hS' (by rfl) ((have hsn := hpn.len; cat_Node H' _ _ _ _ hcat (by omega) (by omega))) ?_; intro v H3 w3 hG3 hr; exact ⟨H3, hG3.le, hG'.trans hG3, fun H'' hle => ⟨out, nds_of (by
                have e1 : (pre ++ out ++ post).length = pre.length + (out.length + post.length) := by rw [List.length_append, List.length_append]; omega
                rw [e1, List.map_append, List.map_append, List.append_assoc]; exact hr.mono hle) (((hkpre.mono hG'.le).append hk2).append (hkpost.mono hG'.le) |>.mono hG3.le |>.mono hle), hpn⟩⟩))
            apply steps_cons
            · refine A_fact (φ := fun v H3 => ∃ out, PtAt H3 h v [] (pre ++ out ++ post) ∧ PartNodes H Q h its n out) ?_
              intro c' u H' w' hG'
              have hS' := hG'.sub
              (repeat (first | refine depGo_eq rfl rfl rfl ?_ | (refine depGo_fact rfl rfl rfl ?_; intro v hv) | refine depGo_skip rfl ?_ | refine depGo_none rfl ?_))
              obtain ⟨out, ⟨B2, d2, rfl, hd2, hsl2, hk2⟩, hpn⟩ := hv
              refine depGo_nil ?_
              refine W_build (by rfl) ?_
              exact ⟨H', HLe.refl _, hG', fun H'' hle => ⟨out, ⟨none, 0, B2, d2, rfl, Nat.le_refl _, hd2, .inl rfl, hsl2.mono hle, hk2.mono hle⟩, hpn⟩⟩
            apply steps_cons
            · refine A_eff (φ := fun _ _ => True) ?_
              intro u' H' w' hG'
              (repeat (first | refine depGo_eq rfl rfl rfl ?_ | (refine depGo_fact rfl rfl rfl ?_; intro v hv) | refine depGo_skip rfl ?_ | refine depGo_none rfl ?_))
              obtain ⟨out, ⟨A3, c3, B3, d3, rfl, r1, r2, r4, r5, r6⟩, hpn⟩ := hv
              refine depGo_nil ?_
              obtain ⟨hm4', hm9'⟩ := hG'.m (Nat.le_refl _)
              refine W_storeM (b := b4) (o := 0) (vs := [.slice A3 ([] : List Ent).length c3, .slice B3 (pre ++ out ++ post).length d3]) (by rfl) (by rfl) hm4' (by rfl) (two_one rfl rfl) (by rfl) (Nat.le_refl 2) ?_
              intro w3 hg3 hm3
              exact ⟨H', HLe.refl _, hG'.next (grown_own hG'.grow hg3 hm4' hb4) ⟨⟨out, _, _, hm3, ⟨A3, c3, B3, d3, rfl, r1, r2, r4, r5, r6⟩, hpn⟩, hm9'.other hg3 (fun e => hne (by cases e; rfl))⟩, fun _ _ => trivial⟩
            exact trivial
          · intro H' w' hG' hle' hF
            (repeat (first | refine fin_eq rfl rfl ?_ | (refine fin_fact rfl ?_; intro v hv) | refine fin_none rfl ?_)); refine fin_nil ?_
            (refine CW_ret ?_)
            obtain ⟨⟨out, v1, v2, hm', hpt, hpn⟩, _⟩ := hF
            have hlo := hpn.len
            refine ⟨_, ResW_cell (cs := [v1, v2]) rfl hm' rfl, H', hG', pre.length + out.length + post.length, out.map Nd.blk ++ N, by simp; omega, (del_kids hpt hf hprem hpostm hpn hlow' hits hbx).wider (fun b hb => ?_), ?_, ?_⟩
            · rcases hb with hb | hb
              · exact .inl (List.mem_append_left _ hb)
              · rw [hQ] at hb
                rcases hb with hb | hb
                · exact .inl (List.mem_append_right _ hb)
                · exact .inr hb
            · show _ ≤ x.kids.length
              omega
            · show x.kids.length ≤ _
              omega
end Go.Proofs.Ytgaabmoknpifnaa
/- tree: Del: walked, with what it makes. Conditions: sizes. -/
namespace Go.Proofs.Ytgaabmoknpifnaa
open Go.Proofs Go.RowKit
set_option linter.unusedVariables false
attribute [local irreducible] CW SeqW OpW
set_option maxHeartbeats 8000000
theorem top_nodes {H : HF} {Q : Nat → Prop} {h : Nat} {v : Value} {its : List Ent} {n : Nat} (hp : IsPart H Q h v its n) (hr : riseB its = true) (ho : ∀ e ∈ its, entOk e = true) (h1 : h = 0 ∨ 1 ≤ n) (h8 : n ≤ highN h) (hh : h ≤ 800000) :
    Fn Try.prog 58 [v] H fun r H' => (its = [] ∧ ∃ A c, r = .slice A 0 c) ∨ ∃ (k : Nat) (y : Nd k), NdsAt H' k r [y] ∧ Nd.items k y = its ∧ Nd.full k y = true ∧ ∀ b ∈ Nd.blocks k y, b = y.blk ∨ Q b := by
  have hn8 : n ≤ 8 := by unfold highN at h8; split at h8 <;> omega
  have main : (if h = 0 then 1 else 2) ≤ n → Fn Try.prog 58 [v] H fun r H' => (its = [] ∧ ∃ A c, r = .slice A 0 c) ∨ ∃ (k : Nat) (y : Nd k), NdsAt H' k r [y] ∧ Nd.items k y = its ∧ Nd.full k y = true ∧ ∀ b ∈ Nd.blocks k y, b = y.blk ∨ Q b := by
    intro hl
    refine (part_nodes hp hr ho hl hn8 hh).mono fun r H' _ ⟨out, q1, q2⟩ => .inr ?_
    have h1 := q2.one h8
    match out, h1 with
    | [y], _ =>
      refine ⟨h, y, q1, by have := q2.items; rw [List.flatMap_singleton] at this; exact this, q2.full y (by simp), fun b hb => ?_⟩
      rcases q2.blocks y (by simp) b hb with h | h
      · exact .inl (by simpa using h)
      · exact .inr h
  by_cases hl : (if h = 0 then 1 else 2) ≤ n
  · exact main hl
  · cases h with
    | zero =>
      obtain ⟨p1, rfl⟩ := hp
      have h0 : its.length = 0 := by simp at hl; simp [hl]
      have h0' : its = [] := List.eq_nil_of_length_eq_zero h0
      refine (nodesLeaf_c p1 hr ho hn8).mono fun r H' _ ⟨out, ⟨B, d, q0, q1⟩, q2, _⟩ => .inl ⟨h0', ?_⟩
      rcases q2 with ⟨_, rfl⟩ | ⟨q4, _⟩ | ⟨q4, _⟩
      · exact ⟨B, d, q0⟩
      · omega
      · omega
    | succ h =>
      obtain ⟨ks, p1, rfl, rfl, p3, p4⟩ := hp
      simp at hl h1
      have hk1 : ks.length = 1 := by omega
      refine (nodesOne_c p1 hk1).mono fun r H' _ hr => .inr ?_
      match ks, hk1 with
      | [y], _ => exact ⟨h, y, hr, by simp, (p3 y (by simp)).2, fun b hb => .inr (p4 y (by simp) b hb)⟩
structure Deled (t : Tr) (key : ByteArray) (t' : Tr) : Prop where
  items : t'.items = withoutL t.items key
  full : t'.full = true
  blocks : ∃ N : List Nat, N.length ≤ 2 * t.height + 1 ∧ ∀ b ∈ t'.blocks, b ∈ N ∨ b ∈ t.blocks
theorem withoutL_same {l : List Ent} {key : ByteArray} (h : lookB l key = false) : withoutL l key = l := by
  have : findIs l key = false := by rw [look_is]; exact h
  simp [withoutL, this]
theorem del_t (H : HF) (t : Tr) (key : ByteArray) (ht : Tr.At H t) (hf : t.full = true) (hh : t.height ≤ 800000) :
    Fn Try.prog 43 [t.val, .string key] H fun v H' => ∃ t', v = .tuple #[Tr.val t', .bool (lookB t.items key)] ∧ Tr.At H' t' ∧ Deled t key t' ∧ (lookB t.items key = false → t' = t) := by
  refine Fn_of_CW Try.func43 rfl Try.ntmps43 Try.results43 rfl fun w hS => ?_; have hG := Grow.refl hS; have hS0 := hS
  (refine CW_seq ?_; refine CW_region rfl ?_; refine S_op ?_; refine W_assignPtr (by first | rfl | assumption) ?_; refine S_op ?_; refine W_assignBool (by first | rfl | assumption) ?_; refine S_nil ?_; refine CW_seq ?_; refine CW_seq ?_; refine CW_region rfl ?_; refine S_op ?_; refine W_movePtr (by first | rfl | assumption) ?_; refine S_op ?_; refine W_moveStr (by first | rfl | assumption) ?_)
  (refine S_op ?_; refine W_call hS (by rfl) (get_t ht key (by omega)) ?_); rintro v H w hG' rfl; replace hG := hG.trans hG'; replace hS := hG'.sub; replace ht := ht.mono hG'.le; clear hG'
  cases hl : lookB t.items key with
  | false =>
    (refine S_op ?_; refine W_moveTup (by first | rfl | assumption) ?_; refine S_op ?_; refine W_extract (by first | rfl | assumption) (by rfl) ?_; refine S_op ?_; refine W_extract (by first | rfl | assumption) (by rfl) ?_; refine S_op ?_; refine W_assignStr (by first | rfl | assumption) ?_; refine S_op ?_; refine W_assignBool (by first | rfl | assumption) ?_; refine S_nil ?_; refine CW_seq ?_; refine CW_region rfl ?_; refine S_op ?_; refine W_moveBool (by first | rfl | assumption) ?_; refine S_op ?_; refine W_not (by first | rfl | assumption) ?_; refine S_nil ?_; refine CW_true (by first | rfl | assumption) ?_; refine CW_seq ?_; refine CW_region rfl ?_; refine S_op ?_; refine W_movePtr (by first | rfl | assumption) ?_; refine S_op ?_; refine W_assignPtr (by first | rfl | assumption) ?_; refine S_op ?_; refine W_assignBool (by first | rfl | assumption) ?_; refine S_nil ?_; refine CW_ret ?_)
    exact ⟨_, ResW_two (v1 := t.val) (v2 := .bool _) rfl rfl, H, hG, t, rfl, ht, ⟨(withoutL_same hl).symm, hf, [], by simp, fun b hb => .inr hb⟩, fun _ => rfl⟩
  | true =>
    cases t with
    | none => cases hl
    | some x =>
      obtain ⟨h, x⟩ := x
      have hx : NodeAt H h x := ht
      have hh : h + 1 ≤ 800000 := hh
      have hl : lookB (Nd.items h x) key = true := hl
      have hf : Nd.full h x = true := hf
      have hok := hx.ok
      have hrw := rise_withoutL key (Nd.ok_len hok).2
      have how := entOk_withoutL (key := key) (Nd.ok_ents hok)
      (refine S_op ?_; refine W_moveTup (by first | rfl | assumption) ?_; refine S_op ?_; refine W_extract (by first | rfl | assumption) (by rfl) ?_; refine S_op ?_; refine W_extract (by first | rfl | assumption) (by rfl) ?_; refine S_op ?_; refine W_assignStr (by first | rfl | assumption) ?_; refine S_op ?_; refine W_assignBool (by first | rfl | assumption) ?_; refine S_nil ?_; refine CW_seq ?_; refine CW_region rfl ?_; refine S_op ?_; refine W_moveBool (by first | rfl | assumption) ?_; refine S_op ?_; refine W_not (by first | rfl | assumption) ?_; refine S_nil ?_; refine CW_false (by first | rfl | assumption) ?_; refine CW_skip ?_; refine CW_seq ?_; refine CW_region rfl ?_; refine S_op ?_; refine W_movePtr (by first | rfl | assumption) ?_; refine S_op ?_; refine W_moveStr (by first | rfl | assumption) ?_)
      (refine S_op ?_; refine W_call hS (by rfl) (del_c h H x key hx hf hl (by omega)) ?_); rintro v H w hG' ⟨n, N, hN, hp, hn1, hn2⟩; replace hG := hG.trans hG'; replace hS := hG'.sub; replace hx := hx.mono hG'.le; clear hG'
      have hsz := size_le hok
      have h0n : h = 0 ∨ 1 ≤ n := by
        cases h with
        | zero => exact .inl rfl
        | succ h =>
          have h2 := hok.1
          have : x.kids.length ≤ n + 1 := hn2
          exact .inr (by omega)
      skip
      refine S_op ?_
      refine W_call hS (by rfl) (top_nodes hp hrw how h0n (by omega) (by omega)) ?_
      rintro v H w hG' hv
      replace hG := hG.trans hG'
      replace hS := hG'.sub
      clear hG'
      rcases hv with ⟨hnil, A, c, rfl⟩ | ⟨k, y, ⟨B, d, rfl, hd, hsl, hat⟩, hit, hfy, hby⟩
      · (refine S_op ?_; refine W_assignSl (by first | rfl | assumption) ?_; refine S_nil ?_; refine CW_seq ?_; refine CW_seq ?_; refine CW_region rfl ?_; refine S_op ?_; refine W_moveSl (by first | rfl | assumption) ?_; refine S_op ?_; refine W_len (by first | rfl | assumption) ?_; refine S_op ?_; refine W_eqlT (by first | rfl | assumption) (by first | rfl | assumption) (by first | omega | rfl) ?_; refine S_nil ?_; refine CW_true (by first | rfl | assumption) ?_; refine CW_seq ?_; refine CW_region rfl ?_; refine S_op ?_; refine W_assignPtr (by first | rfl | assumption) ?_; refine S_op ?_; refine W_assignBool (by first | rfl | assumption) ?_; refine S_nil ?_; refine CW_ret ?_)
        exact ⟨_, ResW_two (v1 := .pointer _) (v2 := .bool _) rfl rfl, H, hG, none, rfl, trivial, ⟨hnil.symm, rfl, [], by simp, fun b hb => (by cases hb)⟩, fun h => by cases h⟩
      · obtain ⟨bb, off, hA, hrow⟩ := slAt_some hsl (q := 0) (by simp)
        have hget : ([y].map Nd.ptr)[0 * 1]? = some y.ptr := rfl
        have hy : NodeAt H k y := hat y (by simp)
        have hq0 : 0 < [y].length := by simp
        (refine S_op ?_; refine W_assignSl (by first | rfl | assumption) ?_; refine S_nil ?_; refine CW_seq ?_; refine CW_seq ?_; refine CW_region rfl ?_; refine S_op ?_; refine W_moveSl (by first | rfl | assumption) ?_; refine S_op ?_; refine W_len (by first | rfl | assumption) ?_; refine S_op ?_; refine W_eqlF (by first | rfl | assumption) (by first | rfl | assumption) (by first | omega | rfl) ?_; refine S_nil ?_; refine CW_false (by first | rfl | assumption) ?_; refine CW_skip ?_; refine CW_seq ?_; refine CW_region rfl ?_; refine S_op ?_; refine W_moveSl (by first | rfl | assumption) ?_; refine S_op ?_; refine W_index (by first | rfl | assumption) (by first | rfl | assumption) (by first | assumption | omega | decide) (by first | rfl | assumption) ?_)
        refine S_op (W_loadRow (j := 0 * 1) (by rfl) hrow hget hS ?_)
        (refine S_op ?_; refine W_assignPtr (by first | rfl | assumption) ?_; refine S_op ?_; refine W_assignBool (by first | rfl | assumption) ?_; refine S_nil ?_; refine CW_ret ?_)
        exact ⟨_, ResW_two (v1 := y.ptr) (v2 := .bool _) rfl rfl, H, hG, trOf y, rfl, hy, ⟨hit, hfy, y.blk :: N, by simp [Tr.height]; omega, fun b hb => (by
          rcases hby b hb with h | h | h
          · exact .inl (by simp [h])
          · exact .inl (by simp [h])
          · exact .inr h)⟩, fun h => by cases h⟩
end Go.Proofs.Ytgaabmoknpifnaa
/- Trees as layers above them see them: put, del, get. Conditions: sizes. -/
namespace Go.Proofs.Ytgaabmoknpifnaa
open Go.Proofs Go.RowKit
set_option linter.unusedVariables false
attribute [local irreducible] CW SeqW OpW
set_option maxHeartbeats 4000000
/-- A tree lies in the heap, and can be. -/
structure TreeAt (H : HF) (t : Tr) : Prop where
  at_ : Tr.At H t
  full : t.full = true
theorem TreeAt.mono {H H' : HF} {t : Tr} (h : TreeAt H t) (hle : HLe H H') : TreeAt H' t := ⟨h.at_.mono hle, h.full⟩
theorem TreeAt.rise {H : HF} {t : Tr} (h : TreeAt H t) : riseB t.items = true := h.at_.ok.1
theorem TreeAt.height {H : HF} {t : Tr} (h : TreeAt H t) : t.height ≤ t.items.length := by
  cases t with
  | none => exact Nat.zero_le _
  | some x => exact Nd.items_gt (NodeAt.ok h.at_)
theorem TreeAt.nil {H : HF} : TreeAt H none := ⟨trivial, rfl⟩
/-- What a change makes of entries. -/
def putL (l : List Ent) (e : Ent) : List Ent := if entOk e then withL l e else l
theorem putL_len (l : List Ent) (e : Ent) : (putL l e).length ≤ l.length + 1 := by
  unfold putL
  split
  · exact withL_length_le _ _
  · omega
theorem rise_putL {l : List Ent} (e : Ent) (h : riseB l = true) : riseB (putL l e) = true := by
  unfold putL
  split
  · exact rise_withL _ h
  · exact h
theorem put_tree {H H' : HF} {t t' : Tr} {e : Ent} (ht : TreeAt H t) (hat : Tr.At H' t') (hp : Putted H t e t') : TreeAt H' t' := ⟨hat, hp.full ht.full⟩
theorem entOk_not {e : Ent} (h : rKey e.key ≠ 0 ∨ rValue e.val ≠ 0) : entOk e = false := by
  rcases h with h | h <;> simp [entOk, h]
/-- Put, in one: the error's number, the tree. -/
def putE (e : Ent) : Nat := if rKey e.key ≠ 0 then rKey e.key else rValue e.val
theorem putE_ok {e : Ent} : putE e = 0 ↔ entOk e = true := by
  unfold putE entOk
  by_cases h : rKey e.key = 0 <;> simp [h]
theorem tPut_c {H : HF} {t : Tr} (e : Ent) (ht : TreeAt H t) (hb : t.items.length ≤ 800000) :
    Fn Try.prog 44 [t.val, .agg #[.string e.key, .string e.val]] H fun v H' => ∃ t', v = .tuple #[Tr.val t', .int .i64 (putE e : Nat)] ∧
      (putE e ≠ 0 → t' = none) ∧ (putE e = 0 → TreeAt H' t' ∧ Putted H t e t') := by
  refine (put_t H t e ht.at_ (by have := ht.height; omega)).mono ?_
  rintro v H' _ (⟨h1, rfl⟩ | ⟨h1, h2, rfl⟩ | ⟨h1, t', rfl, h3, h4⟩)
  · exact ⟨none, by simp [putE, h1]; rfl, fun _ => rfl, fun h => absurd h (by simp [putE, h1])⟩
  · exact ⟨none, by simp [putE, h1]; rfl, fun _ => rfl, fun h => absurd h (by simp [putE, h1, h2])⟩
  · have h5 := putE_ok.2 h1
    exact ⟨t', by rw [h5]; rfl, fun h => absurd h5 h, fun _ => ⟨put_tree ht h3 h4, h4⟩⟩
theorem tDel_c {H : HF} {t : Tr} (key : ByteArray) (ht : TreeAt H t) (hb : t.items.length ≤ 800000) :
    Fn Try.prog 43 [t.val, .string key] H fun v H' => ∃ t', v = .tuple #[Tr.val t', .bool (lookB t.items key)] ∧ TreeAt H' t' ∧ Deled t key t' ∧ (lookB t.items key = false → t' = t) := by
  refine (del_t H t key ht.at_ ht.full (by have := ht.height; omega)).mono ?_
  rintro v H' _ ⟨t', h1, h2, h3, h4⟩
  exact ⟨t', h1, ⟨h2, h3.full⟩, h3, h4⟩
theorem tGet_c {H : HF} {t : Tr} (key : ByteArray) (ht : TreeAt H t) (hb : t.items.length ≤ 800000) :
    Fn Try.prog 56 [t.val, .string key] H fun v _ => v = .tuple #[.string (lookV t.items key), .bool (lookB t.items key)] :=
  get_t ht.at_ key (by have := ht.height; omega)
theorem rGet_c (H : HF) (A : Option Addr) (c : Nat) (l : List Ent) (key : ByteArray) (hl : EntsAt H A l) (hr : riseB l = true) (hb : l.length ≤ 1000000) :
    Fn Try.prog 25 [.slice A l.length c, .string key] H fun v _ => v = .tuple #[.string (lookV l key), .bool (lookB l key)] := by
  refine Fn_of_CW Try.func25 rfl Try.ntmps25 Try.results25 rfl fun w hS => ?_; have hG := Grow.refl hS; have hS0 := hS
  (refine CW_seq ?_; refine CW_region rfl ?_; refine S_op ?_; refine W_assignStr (by first | rfl | assumption) ?_; refine S_op ?_; refine W_assignBool (by first | rfl | assumption) ?_; refine S_nil ?_; refine CW_seq ?_; refine CW_region rfl ?_; refine S_op ?_; refine W_moveSl (by first | rfl | assumption) ?_; refine S_op ?_; refine W_moveStr (by first | rfl | assumption) ?_)
  (refine S_op ?_; refine W_call hS (by rfl) (rFind_c H A c l key hl hb) ?_); rintro v H w hG' rfl; replace hG := hG.trans hG'; replace hS := hG'.sub; replace hl := hl.mono hG'.le; clear hG'
  rw [rFind_eq hr]
  cases hf : findIs l key with
  | false =>
    (refine S_op ?_; refine W_moveTup (by first | rfl | assumption) ?_; refine S_op ?_; refine W_extract (by first | rfl | assumption) (by rfl) ?_; refine S_op ?_; refine W_extract (by first | rfl | assumption) (by rfl) ?_; refine S_op ?_; refine W_assignInt (by first | rfl | assumption) ?_; refine S_op ?_; refine W_assignBool (by first | rfl | assumption) ?_; refine S_nil ?_; refine CW_seq ?_; refine CW_seq ?_; refine CW_region rfl ?_; refine S_op ?_; refine W_moveBool (by first | rfl | assumption) ?_; refine S_op ?_; refine W_not (by first | rfl | assumption) ?_; refine S_nil ?_; refine CW_true (by first | rfl | assumption) ?_; refine CW_seq ?_; refine CW_region rfl ?_; refine S_op ?_; refine W_assignStr (by first | rfl | assumption) ?_; refine S_op ?_; refine W_assignBool (by first | rfl | assumption) ?_; refine S_nil ?_; refine CW_ret ?_)
    exact ⟨_, ResW_two (v1 := .string _) (v2 := .bool _) rfl rfl, H, hG, by rw [(lookV_no hf).1, (lookV_no hf).2]⟩
  | true =>
    have hq := findIs_lt hf
    obtain ⟨bb, off, hA, hrow⟩ := hl.some hq
    (refine S_op ?_; refine W_moveTup (by first | rfl | assumption) ?_; refine S_op ?_; refine W_extract (by first | rfl | assumption) (by rfl) ?_; refine S_op ?_; refine W_extract (by first | rfl | assumption) (by rfl) ?_; refine S_op ?_; refine W_assignInt (by first | rfl | assumption) ?_; refine S_op ?_; refine W_assignBool (by first | rfl | assumption) ?_; refine S_nil ?_; refine CW_seq ?_; refine CW_seq ?_; refine CW_region rfl ?_; refine S_op ?_; refine W_moveBool (by first | rfl | assumption) ?_; refine S_op ?_; refine W_not (by first | rfl | assumption) ?_; refine S_nil ?_; refine CW_false (by first | rfl | assumption) ?_; refine CW_skip ?_; refine CW_seq ?_; refine CW_region rfl ?_; refine S_op ?_; refine W_moveSl (by first | rfl | assumption) ?_; refine S_op ?_; refine W_moveInt (by first | rfl | assumption) ?_; refine S_op ?_; refine W_index (by first | rfl | assumption) (by first | rfl | assumption) (by first | assumption | omega | decide) (by first | rfl | assumption) ?_; refine S_op ?_; refine W_field (by first | rfl | assumption) ?_; refine S_op ?_; refine W_loadVal (by first | rfl | assumption) (by assumption) (by first | assumption | omega) (by assumption) ?_; refine S_op ?_; refine W_assignStr (by first | rfl | assumption) ?_; refine S_op ?_; refine W_assignBool (by first | rfl | assumption) ?_; refine S_nil ?_; refine CW_ret ?_)
    exact ⟨_, ResW_two (v1 := .string _) (v2 := .bool _) rfl rfl, H, hG, by rw [(lookV_yes hf).1, (lookV_yes hf).2]⟩
end Go.Proofs.Ytgaabmoknpifnaa
/- Layer 11's awake and built. Conditions: sizes. -/
namespace Go.Proofs.Ytgaabmoknpifnaa
open Go.Proofs Go.RowKit
set_option linter.unusedVariables false
attribute [local irreducible] CW CWD SeqW OpW CallV
set_option maxHeartbeats 4000000
theorem keysL_get {l : List Ent} {q : Nat} (h : q < l.length) : (keysL l)[q]? = some (.string (ent l q).key) := by
  simp [keysL, ent, h]
theorem W_loadOl {P : Program} {r : Option Nat} {f : Fr} {H : HF} {w : World} {K : Value → World → Prop} {d : Option Nat} {ty : TypeId} {pos : String} {af : Array Edge} {g : Option (Nat × Bool)} {T : TypeId} {x : Operand} [TyOne P T] {b o q : Nat} {l : List Ent}
    (hx : ev f x = .pointer (some ⟨b, o + q * 1, none⟩)) (hb : Row H b o (keysL l)) (hq : q < l.length) (hS : Sub H w) (hk : K (.string (ent l q).key) w) :
    OpW P r ⟨d, .load T x, ty, pos, af, g⟩ f w K := W_loadRow (j := q * 1) hx hb (by rw [Nat.mul_one]; exact keysL_get hq) hS hk
theorem keys_some {H : HF} {A : Option Addr} {l : List Ent} (h : SlAt H A (keysL l)) {q : Nat} (hq : q < l.length) : ∃ b off, A = some ⟨b, off, none⟩ ∧ Row H b off (keysL l) := by
  rcases h with h | h
  · have := congrArg List.length h; rw [keysL_len] at this; have : l.length = 0 := this; omega
  · exact h
theorem EntsAt.take {H : HF} {A : Option Addr} {l : List Ent} (h : EntsAt H A l) (k : Nat) : EntsAt H A (l.take k) := by
  unfold EntsAt at h ⊢
  rw [← entCells_take]
  exact SlAt.take h _
theorem awake11_c (H : HF) : Fn Try.prog 14 [] H fun v _ => v = .bool true := by
  refine Fn_of_CW Try.func14 rfl Try.ntmps14 Try.results14 rfl fun w hS => ?_; have hG := Grow.refl hS; have hS0 := hS
  (refine CW_seq ?_; refine CW_region rfl ?_; refine S_op ?_; refine W_assignBool (by first | rfl | assumption) ?_; refine S_nil ?_; refine CW_seq ?_; refine CW_region rfl ?_; refine S_op ?_; refine W_build (by rfl) ?_)
  have e0 : putE ⟨⟨#[97]⟩, ⟨#[118]⟩⟩ = 0 := by decide
  (refine S_op ?_; refine W_call hS (by rfl) (tPut_c (t := none) ⟨⟨#[97]⟩, ⟨#[118]⟩⟩ (TreeAt.nil (H := H)) (by simp [Tr.items])) ?_); rintro v H w hG' ⟨t, rfl, _, ht⟩; replace hG := hG.trans hG'; replace hS := hG'.sub; clear hG'
  obtain ⟨ht, hp⟩ := ht e0
  have hit : t.items = [⟨⟨#[97]⟩, ⟨#[118]⟩⟩] := hp.items
  rw [e0]
  (refine S_op ?_; refine W_moveTup (by first | rfl | assumption) ?_; refine S_op ?_; refine W_extract (by first | rfl | assumption) (by rfl) ?_; refine S_op ?_; refine W_extract (by first | rfl | assumption) (by rfl) ?_; refine S_op ?_; refine W_assignPtr (by first | rfl | assumption) ?_; refine S_op ?_; refine W_assignInt (by first | rfl | assumption) ?_; refine S_nil ?_; refine CW_seq ?_; refine CW_region rfl ?_; refine S_op ?_; refine W_movePtr (by first | rfl | assumption) ?_)
  have c1 := take_c H t ⟨#[]⟩ 5 ht.at_ (by rw [hit]; simp)
  have e1 : (fromL ⟨#[]⟩ t.items).take (5 : Int).toNat = [⟨⟨#[97]⟩, ⟨#[118]⟩⟩] := by rw [hit]; simp [fromL, slt_nil]
  rw [e1] at c1
  (refine S_op ?_; refine W_call hS (by rfl) (c1) ?_); rintro v H w hG' hv; replace hG := hG.trans hG'; replace hS := hG'.sub; replace ht := ht.mono hG'.le; clear hG'
  clear c1
  obtain ⟨A, c, rfl, hc, hsl, _⟩ := hv
  obtain ⟨b, off, rfl, hrow⟩ : ∃ b off, A = some ⟨b, off, none⟩ ∧ Row H b off [.string ⟨#[97]⟩] := by
    rcases hsl with h | h
    · cases h
    · exact h
  (refine S_op ?_; refine W_assignSl (by first | rfl | assumption) ?_; refine S_nil ?_; refine CW_seq ?_; refine CW_region rfl ?_; refine S_op ?_; refine W_moveInt (by first | rfl | assumption) ?_; refine S_op ?_; refine W_eqlT (by first | rfl | assumption) (by first | rfl | assumption) (by first | omega | rfl) ?_; refine S_op ?_; refine W_moveBool (by first | rfl | assumption) ?_; refine S_want (by rfl) ?_; refine W_moveSl (by first | rfl | assumption) ?_; refine S_want (by rfl) ?_; refine W_len (by first | rfl | assumption) ?_; refine S_want (by rfl) ?_; refine W_eqlT (by first | rfl | assumption) (by first | rfl | assumption) (by first | omega | rfl) ?_; refine S_op ?_; refine W_pickT (by first | rfl | assumption) (by first | rfl | assumption) ?_; refine S_op ?_; refine W_moveBool (by first | rfl | assumption) ?_; refine S_want (by rfl) ?_; refine W_moveSl (by first | rfl | assumption) ?_; refine S_want (by rfl) ?_; refine W_index (by first | rfl | assumption) (by first | rfl | assumption) (by first | assumption | omega | decide) (by first | rfl | assumption) ?_)
  refine S_want (by rfl) ?_
  refine W_loadRow (j := 0) (v := .string ⟨#[97]⟩) (by rfl) hrow (by rfl) hS ?_
  (refine S_want (by rfl) ?_; refine W_seqlT (by first | rfl | assumption) (by first | rfl | assumption) (by first | assumption | rfl) ?_; refine S_op ?_; refine W_pickT (by first | rfl | assumption) (by first | rfl | assumption) ?_; refine S_op ?_; refine W_moveBool (by first | rfl | assumption) ?_; refine S_want (by rfl) ?_; refine W_movePtr (by first | rfl | assumption) ?_)
  have c2 := count_c H t ⟨#[97]⟩ ⟨#[98]⟩ ht.at_ (by rw [hit]; simp)
  have e2 : aheadOf ⟨#[98]⟩ (fromL ⟨#[97]⟩ t.items) = 1 := by
    have h1 : slt ⟨#[97]⟩ ⟨#[97]⟩ = false := slt_irrefl _
    have h2 : slt ⟨#[97]⟩ ⟨#[98]⟩ = true := by simp [slt, ba_toList]; decide
    rw [hit]
    simp [fromL, aheadOf, h1, h2]
  rw [e2] at c2
  (refine S_want (by rfl) ?_; refine W_call hS (by rfl) (c2) ?_); rintro v H w hG' rfl; replace hG := hG.trans hG'; replace hS := hG'.sub; replace ht := ht.mono hG'.le; clear hG'
  (refine S_want (by rfl) ?_; refine W_eqlT (by first | rfl | assumption) (by first | rfl | assumption) (by first | omega | rfl) ?_; refine S_op ?_; refine W_pickT (by first | rfl | assumption) (by first | rfl | assumption) ?_; refine S_op ?_; refine W_assignBool (by first | rfl | assumption) ?_; refine S_nil ?_; refine CW_ret ?_)
  exact ⟨_, ResW_one (v := .bool _) rfl, H, hG, rfl⟩
theorem built11_c (H0 : HF) (A : Option Addr) (c : Nat) (l : List Ent) (hl : EntsAt H0 A l) (hb : l.length ≤ 100000000000000) (hs : ∀ e ∈ l, e.key.size ≤ 150000000000000 ∧ e.val.size ≤ 150000000000000) :
    Fn Try.prog 15 [.slice A l.length c] H0 fun v H' => ∃ (t : Tr) (s : Value) (z : Bool), v = .tuple #[t.val, s, .bool z] ∧ (z = true → TreeAt H' t ∧ IsEnts s t.items H' ∧ t.items.length ≤ 150) ∧ (z = false → t = none ∧ s = .slice none 0 0) := by
  refine Fn_of_CW Try.func15 rfl Try.ntmps15 Try.results15 rfl fun w0 hS => ?_; have hG := Grow.refl hS
  by_cases h150 : 150 < l.length
  · (refine CW_seq ?_; refine CW_region rfl ?_; refine S_op ?_; refine W_assignPtr (by first | rfl | assumption) ?_; refine S_op ?_; refine W_assignSl (by first | rfl | assumption) ?_; refine S_op ?_; refine W_assignBool (by first | rfl | assumption) ?_; refine S_nil ?_; refine CW_seq ?_; refine CW_seq ?_; refine CW_region rfl ?_; refine S_op ?_; refine W_moveSl (by first | rfl | assumption) ?_; refine S_op ?_; refine W_len (by first | rfl | assumption) ?_; refine S_op ?_; refine W_gtrT (by first | rfl | assumption) (by first | rfl | assumption) (by first | omega | rfl) ?_; refine S_nil ?_; refine CW_true (by first | rfl | assumption) ?_; refine CW_seq ?_; refine CW_region rfl ?_; refine S_op ?_; refine W_assignPtr (by first | rfl | assumption) ?_; refine S_op ?_; refine W_assignSl (by first | rfl | assumption) ?_; refine S_op ?_; refine W_assignBool (by first | rfl | assumption) ?_; refine S_nil ?_; refine CW_ret ?_)
    exact ⟨_, ResW_three (v1 := .pointer _) (v2 := .slice _ _ _) (v3 := .bool _) rfl rfl rfl, H0, hG, none, _, false, rfl, (fun h => by cases h), fun _ => ⟨rfl, rfl⟩⟩
  · (refine CW_seq ?_; refine CW_region rfl ?_; refine S_op ?_; refine W_assignPtr (by first | rfl | assumption) ?_; refine S_op ?_; refine W_assignSl (by first | rfl | assumption) ?_; refine S_op ?_; refine W_assignBool (by first | rfl | assumption) ?_; refine S_nil ?_; refine CW_seq ?_; refine CW_seq ?_; refine CW_region rfl ?_; refine S_op ?_; refine W_moveSl (by first | rfl | assumption) ?_; refine S_op ?_; refine W_len (by first | rfl | assumption) ?_; refine S_op ?_; refine W_gtrF (by first | rfl | assumption) (by first | rfl | assumption) (by first | omega | rfl) ?_; refine S_nil ?_; refine CW_false (by first | rfl | assumption) ?_; refine CW_skip ?_; refine CW_seq ?_; refine CW_region rfl ?_; refine S_op ?_; refine W_assignPtr (by first | rfl | assumption) ?_; refine S_nil ?_; refine CW_seq ?_; refine CW_region rfl ?_; refine S_op ?_; refine W_assignSl (by first | rfl | assumption) ?_; refine S_nil ?_; refine CW_seq ?_; refine CW_seq ?_; refine CW_region rfl ?_; refine S_op ?_; refine W_moveSl (by first | rfl | assumption) ?_; refine S_op ?_; refine W_len (by first | rfl | assumption) ?_; refine S_op ?_; refine W_moveInt (by first | rfl | assumption) ?_; refine S_nil ?_; refine CW_block ?_)
    refine CW_loopM [2, 3, 4, 5, 6, 7, 8, 9, 15, 16, 17, 18, 19, 20, 21, 22, 23, 24, 25, 26, 27, 28, 29, 30, 31, 32, 33, 34, 35, 36, 37, 38, 39, 40, 41, 42, 43, 44, 45, 46, 47, 48, 49, 50]
      (fun m u w2 => ∃ (i : Nat) (t : Tr) (A2 : Option Addr) (c2 : Nat) (H2 : HF), u 15 = .int .i64 (i : Int) ∧ u 5 = t.val ∧ u 6 = .slice A2 t.items.length c2 ∧ Grow H0 w0 H2 w2 ∧ TreeAt H2 t ∧ EntsAt H2 A2 t.items ∧ t.items.length ≤ c2 ∧ i ≤ l.length ∧ l.length - i ≤ m ∧ t.items.length ≤ i)
      (m := l.length) ⟨0, none, none, 0, H0, rfl, rfl, rfl, hG, TreeAt.nil, .inl rfl, Nat.le_refl _, by omega, by omega, Nat.le_refl _⟩ ?_
    rintro m u w ⟨i, t, A2, c2, H, h15, h5, h6, hG, ht, hl2, hc2, hi, hm, hti⟩
    have hS := hG.sub
    replace hl := hl.mono hG.le
    by_cases hlt : i < l.length
    · obtain ⟨b, off, hA, hrow⟩ := hl.some hlt
      have hsz := hs (ent l i) (ent_mem' hlt)
      have hG9 := hG
      by_cases hbig : 2000 < (ent l i).key.size + (ent l i).val.size
      · (refine CW_seq ?_; refine CW_region rfl ?_; refine S_op ?_; refine W_lssT (by first | rfl | assumption) (by first | rfl | assumption) (by first | omega | rfl) ?_; refine S_nil ?_; refine CW_seq ?_; refine CW_true (by first | rfl | assumption) ?_; refine CW_skip ?_; refine CW_seq ?_; refine CW_block ?_; refine CW_seq ?_; refine CW_region rfl ?_; refine S_op ?_; refine W_moveInt (by first | rfl | assumption) ?_; refine S_op ?_; refine W_assignInt (by first | rfl | assumption) ?_; refine S_nil ?_; refine CW_seq ?_; refine CW_seq ?_)
        apply CW_region_grow [_, _, _, _, _, _, _, _, _, _, _, _, _, _] [none, none, none, none, none, none, none, none, none, none, none, none, none, none] [some 18, some 19, some 20, some 21, some 22, some 23, some 24, some 25, some 26, some 27, some 28, some 29, some 30, some 31] [18, 19, 20, 21, 22, 23, 24, 25, 26, 27, 28, 29, 30, 31] mixed rfl rfl rfl rfl (by decide) rfl (by assumption)
        · ((apply steps_cons; case h1 => (apply A_pure; intro c u H' w' hG; have hS' := hG.sub; have hS2' := hG.subOld; (repeat (first | refine depGo_eq rfl rfl rfl ?_ | (refine depGo_fact rfl rfl rfl ?_; intro v hv) | refine depGo_skip rfl ?_ | refine depGo_none rfl ?_)); apply Pure1.mk; intro K hk; exact W_moveSl (by first | rfl | assumption) hk)); (apply steps_cons; case h1 => (apply A_pure; intro c u H' w' hG; have hS' := hG.sub; have hS2' := hG.subOld; (repeat (first | refine depGo_eq rfl rfl rfl ?_ | (refine depGo_fact rfl rfl rfl ?_; intro v hv) | refine depGo_skip rfl ?_ | refine depGo_none rfl ?_)); apply Pure1.mk; intro K hk; exact W_moveInt (by first | rfl | assumption) hk)); (apply steps_cons; case h1 => (apply A_pure; intro c u H' w' hG; have hS' := hG.sub; have hS2' := hG.subOld; (repeat (first | refine depGo_eq rfl rfl rfl ?_ | (refine depGo_fact rfl rfl rfl ?_; intro v hv) | refine depGo_skip rfl ?_ | refine depGo_none rfl ?_)); apply Pure1.mk; intro K hk; exact W_index (by first | rfl | assumption) (by first | rfl | assumption) (by first | assumption | omega | decide) (by first | rfl | assumption) hk)); (apply steps_cons; case h1 => (apply A_pure; intro c u H' w' hG; have hS' := hG.sub; have hS2' := hG.subOld; (repeat (first | refine depGo_eq rfl rfl rfl ?_ | (refine depGo_fact rfl rfl rfl ?_; intro v hv) | refine depGo_skip rfl ?_ | refine depGo_none rfl ?_)); apply Pure1.mk; intro K hk; exact W_field (by first | rfl | assumption) hk)); (apply steps_cons; case h1 => (apply A_pure; intro c u H' w' hG; have hS' := hG.sub; have hS2' := hG.subOld; (repeat (first | refine depGo_eq rfl rfl rfl ?_ | (refine depGo_fact rfl rfl rfl ?_; intro v hv) | refine depGo_skip rfl ?_ | refine depGo_none rfl ?_)); apply Pure1.mk; intro K hk; exact W_loadKey (by first | rfl | assumption) (by assumption) (by first | assumption | omega) (by assumption) hk)); (apply steps_cons; case h1 => (apply A_pure; intro c u H' w' hG; have hS' := hG.sub; have hS2' := hG.subOld; (repeat (first | refine depGo_eq rfl rfl rfl ?_ | (refine depGo_fact rfl rfl rfl ?_; intro v hv) | refine depGo_skip rfl ?_ | refine depGo_none rfl ?_)); apply Pure1.mk; intro K hk; exact W_lenS (by first | rfl | assumption) hk)); (apply steps_cons; case h1 => (apply A_pure; intro c u H' w' hG; have hS' := hG.sub; have hS2' := hG.subOld; (repeat (first | refine depGo_eq rfl rfl rfl ?_ | (refine depGo_fact rfl rfl rfl ?_; intro v hv) | refine depGo_skip rfl ?_ | refine depGo_none rfl ?_)); apply Pure1.mk; intro K hk; exact W_moveSl (by first | rfl | assumption) hk)); (apply steps_cons; case h1 => (apply A_pure; intro c u H' w' hG; have hS' := hG.sub; have hS2' := hG.subOld; (repeat (first | refine depGo_eq rfl rfl rfl ?_ | (refine depGo_fact rfl rfl rfl ?_; intro v hv) | refine depGo_skip rfl ?_ | refine depGo_none rfl ?_)); apply Pure1.mk; intro K hk; exact W_moveInt (by first | rfl | assumption) hk)); (apply steps_cons; case h1 => (apply A_pure; intro c u H' w' hG; have hS' := hG.sub; have hS2' := hG.subOld; (repeat (first | refine depGo_eq rfl rfl rfl ?_ | (refine depGo_fact rfl rfl rfl ?_; intro v hv) | refine depGo_skip rfl ?_ | refine depGo_none rfl ?_)); apply Pure1.mk; intro K hk; exact W_index (by first | rfl | assumption) (by first | rfl | assumption) (by first | assumption | omega | decide) (by first | rfl | assumption) hk)); (apply steps_cons; case h1 => (apply A_pure; intro c u H' w' hG; have hS' := hG.sub; have hS2' := hG.subOld; (repeat (first | refine depGo_eq rfl rfl rfl ?_ | (refine depGo_fact rfl rfl rfl ?_; intro v hv) | refine depGo_skip rfl ?_ | refine depGo_none rfl ?_)); apply Pure1.mk; intro K hk; exact W_field (by first | rfl | assumption) hk)); (apply steps_cons; case h1 => (apply A_pure; intro c u H' w' hG; have hS' := hG.sub; have hS2' := hG.subOld; (repeat (first | refine depGo_eq rfl rfl rfl ?_ | (refine depGo_fact rfl rfl rfl ?_; intro v hv) | refine depGo_skip rfl ?_ | refine depGo_none rfl ?_)); apply Pure1.mk; intro K hk; exact W_loadVal (by first | rfl | assumption) (by assumption) (by first | assumption | omega) (by assumption) hk)); (apply steps_cons; case h1 => (apply A_pure; intro c u H' w' hG; have hS' := hG.sub; have hS2' := hG.subOld; (repeat (first | refine depGo_eq rfl rfl rfl ?_ | (refine depGo_fact rfl rfl rfl ?_; intro v hv) | refine depGo_skip rfl ?_ | refine depGo_none rfl ?_)); apply Pure1.mk; intro K hk; exact W_lenS (by first | rfl | assumption) hk)); (apply steps_cons; case h1 => (apply A_pure; intro c u H' w' hG; have hS' := hG.sub; have hS2' := hG.subOld; (repeat (first | refine depGo_eq rfl rfl rfl ?_ | (refine depGo_fact rfl rfl rfl ?_; intro v hv) | refine depGo_skip rfl ?_ | refine depGo_none rfl ?_)); apply Pure1.mk; intro K hk; exact W_addN (by first | rfl | assumption) (by first | rfl | assumption) (by omega) hk)); (apply steps_cons; case h1 => (apply A_pure; intro c u H' w' hG; have hS' := hG.sub; have hS2' := hG.subOld; (repeat (first | refine depGo_eq rfl rfl rfl ?_ | (refine depGo_fact rfl rfl rfl ?_; intro v hv) | refine depGo_skip rfl ?_ | refine depGo_none rfl ?_)); apply Pure1.mk; intro K hk; exact W_gtrT (by first | rfl | assumption) (by first | rfl | assumption) (by first | omega | rfl) hk)); exact trivial)
        · (intro H' w' hG; (repeat (first | refine fin_eq rfl rfl ?_ | (refine fin_fact rfl ?_; intro v hv) | refine fin_none rfl ?_)); refine fin_nil ?_)
          (refine CW_true (by first | rfl | assumption) ?_; refine CW_seq ?_; refine CW_region rfl ?_; refine S_op ?_; refine W_assignPtr (by first | rfl | assumption) ?_; refine S_op ?_; refine W_assignSl (by first | rfl | assumption) ?_; refine S_op ?_; refine W_assignBool (by first | rfl | assumption) ?_; refine S_nil ?_; refine CW_ret ?_)
          exact ⟨_, ResW_three (v1 := .pointer _) (v2 := .slice _ _ _) (v3 := .bool _) rfl rfl rfl, _, hG9.trans hG, none, _, false, rfl, (fun h => by cases h), fun _ => ⟨rfl, rfl⟩⟩
      · (refine CW_seq ?_; refine CW_region rfl ?_; refine S_op ?_; refine W_lssT (by first | rfl | assumption) (by first | rfl | assumption) (by first | omega | rfl) ?_; refine S_nil ?_; refine CW_seq ?_; refine CW_true (by first | rfl | assumption) ?_; refine CW_skip ?_; refine CW_seq ?_; refine CW_block ?_; refine CW_seq ?_; refine CW_region rfl ?_; refine S_op ?_; refine W_moveInt (by first | rfl | assumption) ?_; refine S_op ?_; refine W_assignInt (by first | rfl | assumption) ?_; refine S_nil ?_; refine CW_seq ?_; refine CW_seq ?_)
        apply CW_region_grow [_, _, _, _, _, _, _, _, _, _, _, _, _, _] [none, none, none, none, none, none, none, none, none, none, none, none, none, none] [some 18, some 19, some 20, some 21, some 22, some 23, some 24, some 25, some 26, some 27, some 28, some 29, some 30, some 31] [18, 19, 20, 21, 22, 23, 24, 25, 26, 27, 28, 29, 30, 31] mixed rfl rfl rfl rfl (by decide) rfl (by assumption)
        · ((apply steps_cons; case h1 => (apply A_pure; intro c u H' w' hG; have hS' := hG.sub; have hS2' := hG.subOld; (repeat (first | refine depGo_eq rfl rfl rfl ?_ | (refine depGo_fact rfl rfl rfl ?_; intro v hv) | refine depGo_skip rfl ?_ | refine depGo_none rfl ?_)); apply Pure1.mk; intro K hk; exact W_moveSl (by first | rfl | assumption) hk)); (apply steps_cons; case h1 => (apply A_pure; intro c u H' w' hG; have hS' := hG.sub; have hS2' := hG.subOld; (repeat (first | refine depGo_eq rfl rfl rfl ?_ | (refine depGo_fact rfl rfl rfl ?_; intro v hv) | refine depGo_skip rfl ?_ | refine depGo_none rfl ?_)); apply Pure1.mk; intro K hk; exact W_moveInt (by first | rfl | assumption) hk)); (apply steps_cons; case h1 => (apply A_pure; intro c u H' w' hG; have hS' := hG.sub; have hS2' := hG.subOld; (repeat (first | refine depGo_eq rfl rfl rfl ?_ | (refine depGo_fact rfl rfl rfl ?_; intro v hv) | refine depGo_skip rfl ?_ | refine depGo_none rfl ?_)); apply Pure1.mk; intro K hk; exact W_index (by first | rfl | assumption) (by first | rfl | assumption) (by first | assumption | omega | decide) (by first | rfl | assumption) hk)); (apply steps_cons; case h1 => (apply A_pure; intro c u H' w' hG; have hS' := hG.sub; have hS2' := hG.subOld; (repeat (first | refine depGo_eq rfl rfl rfl ?_ | (refine depGo_fact rfl rfl rfl ?_; intro v hv) | refine depGo_skip rfl ?_ | refine depGo_none rfl ?_)); apply Pure1.mk; intro K hk; exact W_field (by first | rfl | assumption) hk)); (apply steps_cons; case h1 => (apply A_pure; intro c u H' w' hG; have hS' := hG.sub; have hS2' := hG.subOld; (repeat (first | refine depGo_eq rfl rfl rfl ?_ | (refine depGo_fact rfl rfl rfl ?_; intro v hv) | refine depGo_skip rfl ?_ | refine depGo_none rfl ?_)); apply Pure1.mk; intro K hk; exact W_loadKey (by first | rfl | assumption) (by assumption) (by first | assumption | omega) (by assumption) hk)); (apply steps_cons; case h1 => (apply A_pure; intro c u H' w' hG; have hS' := hG.sub; have hS2' := hG.subOld; (repeat (first | refine depGo_eq rfl rfl rfl ?_ | (refine depGo_fact rfl rfl rfl ?_; intro v hv) | refine depGo_skip rfl ?_ | refine depGo_none rfl ?_)); apply Pure1.mk; intro K hk; exact W_lenS (by first | rfl | assumption) hk)); (apply steps_cons; case h1 => (apply A_pure; intro c u H' w' hG; have hS' := hG.sub; have hS2' := hG.subOld; (repeat (first | refine depGo_eq rfl rfl rfl ?_ | (refine depGo_fact rfl rfl rfl ?_; intro v hv) | refine depGo_skip rfl ?_ | refine depGo_none rfl ?_)); apply Pure1.mk; intro K hk; exact W_moveSl (by first | rfl | assumption) hk)); (apply steps_cons; case h1 => (apply A_pure; intro c u H' w' hG; have hS' := hG.sub; have hS2' := hG.subOld; (repeat (first | refine depGo_eq rfl rfl rfl ?_ | (refine depGo_fact rfl rfl rfl ?_; intro v hv) | refine depGo_skip rfl ?_ | refine depGo_none rfl ?_)); apply Pure1.mk; intro K hk; exact W_moveInt (by first | rfl | assumption) hk)); (apply steps_cons; case h1 => (apply A_pure; intro c u H' w' hG; have hS' := hG.sub; have hS2' := hG.subOld; (repeat (first | refine depGo_eq rfl rfl rfl ?_ | (refine depGo_fact rfl rfl rfl ?_; intro v hv) | refine depGo_skip rfl ?_ | refine depGo_none rfl ?_)); apply Pure1.mk; intro K hk; exact W_index (by first | rfl | assumption) (by first | rfl | assumption) (by first | assumption | omega | decide) (by first | rfl | assumption) hk)); (apply steps_cons; case h1 => (apply A_pure; intro c u H' w' hG; have hS' := hG.sub; have hS2' := hG.subOld; (repeat (first | refine depGo_eq rfl rfl rfl ?_ | (refine depGo_fact rfl rfl rfl ?_; intro v hv) | refine depGo_skip rfl ?_ | refine depGo_none rfl ?_)); apply Pure1.mk; intro K hk; exact W_field (by first | rfl | assumption) hk)); (apply steps_cons; case h1 => (apply A_pure; intro c u H' w' hG; have hS' := hG.sub; have hS2' := hG.subOld; (repeat (first | refine depGo_eq rfl rfl rfl ?_ | (refine depGo_fact rfl rfl rfl ?_; intro v hv) | refine depGo_skip rfl ?_ | refine depGo_none rfl ?_)); apply Pure1.mk; intro K hk; exact W_loadVal (by first | rfl | assumption) (by assumption) (by first | assumption | omega) (by assumption) hk)); (apply steps_cons; case h1 => (apply A_pure; intro c u H' w' hG; have hS' := hG.sub; have hS2' := hG.subOld; (repeat (first | refine depGo_eq rfl rfl rfl ?_ | (refine depGo_fact rfl rfl rfl ?_; intro v hv) | refine depGo_skip rfl ?_ | refine depGo_none rfl ?_)); apply Pure1.mk; intro K hk; exact W_lenS (by first | rfl | assumption) hk)); (apply steps_cons; case h1 => (apply A_pure; intro c u H' w' hG; have hS' := hG.sub; have hS2' := hG.subOld; (repeat (first | refine depGo_eq rfl rfl rfl ?_ | (refine depGo_fact rfl rfl rfl ?_; intro v hv) | refine depGo_skip rfl ?_ | refine depGo_none rfl ?_)); apply Pure1.mk; intro K hk; exact W_addN (by first | rfl | assumption) (by first | rfl | assumption) (by omega) hk)); (apply steps_cons; case h1 => (apply A_pure; intro c u H' w' hG; have hS' := hG.sub; have hS2' := hG.subOld; (repeat (first | refine depGo_eq rfl rfl rfl ?_ | (refine depGo_fact rfl rfl rfl ?_; intro v hv) | refine depGo_skip rfl ?_ | refine depGo_none rfl ?_)); apply Pure1.mk; intro K hk; exact W_gtrF (by first | rfl | assumption) (by first | rfl | assumption) (by first | omega | rfl) hk)); exact trivial)
        · (intro H' w' hG; (repeat (first | refine fin_eq rfl rfl ?_ | (refine fin_fact rfl ?_; intro v hv) | refine fin_none rfl ?_)); refine fin_nil ?_)
          replace ht := ht.mono hG.le
          replace hl2 := hl2.mono hG.le
          replace hl := hl.mono hG.le
          replace hrow := hrow.mono hG.le
          replace hG := hG9.trans hG
          clear hG9
          replace hS := hG.sub
          rename_i H' w'
          obtain ⟨H, rfl⟩ : ∃ H, H = H' := ⟨_, rfl⟩
          obtain ⟨w, rfl⟩ : ∃ w, w = w' := ⟨_, rfl⟩
          (refine CW_false (by first | rfl | assumption) ?_; refine CW_skip ?_; refine CW_seq ?_; refine CW_region rfl ?_; refine S_op ?_; refine W_movePtr (by first | rfl | assumption) ?_; refine S_op ?_; refine W_moveSl (by first | rfl | assumption) ?_; refine S_op ?_; refine W_moveInt (by first | rfl | assumption) ?_; refine S_op ?_; refine W_index (by first | rfl | assumption) (by first | rfl | assumption) (by first | assumption | omega | decide) (by first | rfl | assumption) ?_; refine S_op ?_; refine W_loadEnt (by first | rfl | assumption) (by assumption) (by first | assumption | omega) (by assumption) ?_)
          (refine S_op ?_; refine W_call hS (by rfl) (tPut_c (ent l i) ht (by omega)) ?_); rintro v H w hG' ⟨t', rfl, hno, hp⟩; replace hG := hG.trans hG'; replace hS := hG'.sub; replace ht := ht.mono hG'.le; replace hl2 := hl2.mono hG'.le; replace hl := hl.mono hG'.le; clear hG'
          by_cases he : putE (ent l i) = 0
          · obtain ⟨ht', hp'⟩ := hp he
            obtain ⟨b, off, hA, hrow⟩ := hl.some hlt
            rw [he]
            (refine S_op ?_; refine W_moveTup (by first | rfl | assumption) ?_; refine S_op ?_; refine W_extract (by first | rfl | assumption) (by rfl) ?_; refine S_op ?_; refine W_extract (by first | rfl | assumption) (by rfl) ?_; refine S_op ?_; refine W_assignPtr (by first | rfl | assumption) ?_; refine S_op ?_; refine W_assignInt (by first | rfl | assumption) ?_; refine S_nil ?_; refine CW_seq ?_; refine CW_region rfl ?_; refine S_op ?_; refine W_moveInt (by first | rfl | assumption) ?_; refine S_op ?_; refine W_eqlT (by first | rfl | assumption) (by first | rfl | assumption) (by first | omega | rfl) ?_; refine S_nil ?_; refine CW_true (by first | rfl | assumption) ?_; refine CW_seq ?_; refine CW_region rfl ?_; refine S_op ?_; refine W_movePtr (by first | rfl | assumption) ?_; refine S_op ?_; refine W_assignPtr (by first | rfl | assumption) ?_; refine S_nil ?_; refine CW_region rfl ?_; refine S_op ?_; refine W_moveSl (by first | rfl | assumption) ?_; refine S_op ?_; refine W_moveSl (by first | rfl | assumption) ?_; refine S_op ?_; refine W_moveInt (by first | rfl | assumption) ?_; refine S_op ?_; refine W_index (by first | rfl | assumption) (by first | rfl | assumption) (by first | assumption | omega | decide) (by first | rfl | assumption) ?_; refine S_op ?_; refine W_loadEnt (by first | rfl | assumption) (by assumption) (by first | assumption | omega) (by assumption) ?_)
            (refine S_op ?_; refine W_call hS (by rfl) (rWith_c H A2 c2 t.items (ent l i) hl2 (by omega)) ?_); rintro v H w hG' hv; replace hG := hG.trans hG'; replace hS := hG'.sub; replace ht' := ht'.mono hG'.le; replace hl := hl.mono hG'.le; clear hG'
            rw [rWith_eq ht.rise, ← hp'.items] at hv
            obtain ⟨A3, c3, rfl, hc3, hl3⟩ := hv
            have hlen := withL_length_le t.items (ent l i)
            rw [← hp'.items] at hlen
            (refine S_op ?_; refine W_assignSl (by first | rfl | assumption) ?_; refine S_nil ?_; refine CW_region rfl ?_; refine S_op ?_; refine W_add1 (by first | rfl | assumption) (by omega) ?_; refine S_op ?_; refine W_moveInt (by first | rfl | assumption) ?_; refine S_nil ?_)
            exact ⟨(by repeat (first | exact AgreeOff.over | refine AgreeOff.upd rfl ?_ | refine AgreeOff.over2 rfl ?_)), m - 1, by omega, i + 1, t', A3, c3, H, rfl, rfl, rfl, hG, ht', hl3, hc3, by omega, by omega, by omega⟩
          · (refine S_op ?_; refine W_moveTup (by first | rfl | assumption) ?_; refine S_op ?_; refine W_extract (by first | rfl | assumption) (by rfl) ?_; refine S_op ?_; refine W_extract (by first | rfl | assumption) (by rfl) ?_; refine S_op ?_; refine W_assignPtr (by first | rfl | assumption) ?_; refine S_op ?_; refine W_assignInt (by first | rfl | assumption) ?_; refine S_nil ?_; refine CW_seq ?_; refine CW_region rfl ?_; refine S_op ?_; refine W_moveInt (by first | rfl | assumption) ?_; refine S_op ?_; refine W_eqlF (by first | rfl | assumption) (by first | rfl | assumption) (by first | omega | rfl) ?_; refine S_nil ?_; refine CW_false (by first | rfl | assumption) ?_; refine CW_skip ?_; refine CW_region rfl ?_; refine S_op ?_; refine W_add1 (by first | rfl | assumption) (by omega) ?_; refine S_op ?_; refine W_moveInt (by first | rfl | assumption) ?_; refine S_nil ?_)
            exact ⟨(by repeat (first | exact AgreeOff.over | refine AgreeOff.upd rfl ?_ | refine AgreeOff.over2 rfl ?_)), m - 1, by omega, i + 1, t, A2, c2, H, rfl, h5, h6, hG, ht, hl2, hc2, by omega, by omega, by omega⟩
    · have hin : i = l.length := by omega
      subst hin
      (refine CW_seq ?_; refine CW_region rfl ?_; refine S_op ?_; refine W_lssF (by first | rfl | assumption) (by first | rfl | assumption) (by first | omega | rfl) ?_; refine S_nil ?_; refine CW_seq ?_; refine CW_false (by first | rfl | assumption) ?_; refine CW_exit ?_; refine CW_seq ?_; refine CW_region rfl ?_; refine S_op ?_; refine W_movePtr (by first | rfl | assumption) ?_; refine S_op ?_; refine W_moveSl (by first | rfl | assumption) ?_; refine S_op ?_; refine W_assignPtr (by first | rfl | assumption) ?_; refine S_op ?_; refine W_assignSl (by first | rfl | assumption) ?_; refine S_op ?_; refine W_assignBool (by first | rfl | assumption) ?_; refine S_nil ?_; refine CW_ret ?_)
      exact ⟨_, ResW_three (v1 := t.val) (v2 := .slice _ _ _) (v3 := .bool _) rfl rfl rfl, H, hG, t, _, true, rfl, fun _ => ⟨ht, ⟨A2, c2, rfl, hc2, hl2⟩, by omega⟩, (fun h => by cases h)⟩
end Go.Proofs.Ytgaabmoknpifnaa
/- WalkNil, walked. Conditions: sizes. -/
namespace Go.Proofs.Ytgaabmoknpifnaa
open Go.Proofs Go.RowKit
set_option linter.unusedVariables false
attribute [local irreducible] CW CWD SeqW OpW CallV
set_option maxHeartbeats 4000000
theorem FinD_list {P : Program} {rs : Array ResultVar} {R : Value → World → Prop} {f : Fr} {H : HF} {w : World} {ds : List Nat} (hM : ∀ D ∈ ds, MarkAt H w D) (hn : ds.Nodup) (hS : Sub H w)
    (h : ∀ w', Turn (fun k => k ∈ ds) H w H w' → Fin P rs R f w') : FinD P rs R ds f w :=
  ⟨⟨hn, fun D h' => (hM D h').at_⟩, h _ (closeM_turn ds hS fun D h' => (hM D h').out)⟩
/-- A loop over what gives nothing. -/
theorem CWD_rangeNil {P : Program} {α : Type} {n : Nat} {g : Operand} {ps : Array Tmp} {assign body : Code} {f : Fr} {ds : List Nat} {gf : Nat} {lb : List Value} [FnCall P gf] {enc : α → List Value} {H : HF} {w : World}
    {Qn Qr : List Nat → Fr → World → Prop} {Qx : Nat → List Nat → Fr → World → Prop}
    (hg : ev f g = .func (.func gf) #[] lb.toArray) (hS : Sub H w) (hps : ∀ x, (enc x).length = ps.size) (hpn : ∀ p ∈ ps.toList, p < n)
    (hIt : ∀ w1, Grow H w H w1 → IterAt P gf lb enc [] (fun _ => False) H w1)
    (hassign : ∀ l x W, CW P (some l) n assign (fun _ W1 => W1 = W) (fun _ _ => False) (fun _ _ _ => False) (puts ps.toList (enc x) f) W)
    (hk : ∀ D H' w', w.heap.size ≤ D → MarkAt H' w' D → Grow H w H' w' → Qn (D :: ds) f w') : CWD P none n (.rangeFunc g ps assign body) Qn Qr Qx ds f w := by
  refine CWD_range (S := fun _ => False) (Hold H w [] (fun _ _ _ => True)) neverI (Hold.good fun _ _ _ _ _ _ _ _ h => h) neverI.stable ⟨Grow.refl hS, fun _ h => h.elim, fun _ h => by (cases h), trivial⟩ hg hS hps hpn hIt (fun _ h => h.elim) ?_ ?_ ?_ ?_
  · intro l x W
    refine CW_mono (hassign l x W) ?_ (fun _ _ h => h) (fun _ _ _ h => h)
    rintro f1 W1 rfl
    refine ⟨rfl, fun l X pre rest H W hx => ?_⟩
    have := congrArg List.length hx
    simp at this
  · exact fun D X H' W' hD hM _ _ _ _ hI => hk D H' W' hD hM hI.1
  · exact fun _ _ _ _ _ _ _ _ _ _ _ _ _ h => False.elim h
  · exact fun _ _ _ _ _ _ _ _ _ _ _ _ _ _ h => False.elim h
theorem MarkAt.ne {H : HF} {w : World} {D b : Nat} {cs : List Value} (hM : MarkAt H w D) (hm : Mut H w b cs) : b ≠ D := by
  rintro rfl
  obtain ⟨T, h⟩ := hm.at_
  rw [hM.at_] at h; cases h
theorem walkNil_c (H : HF) (k k2 : ByteArray) (n : Int) : Fn Try.prog 8 [.string k, .string k2, .int .i64 n] H fun v _ => v = .bool true := by
  refine Fn_of_CWD Try.func8 rfl Try.ntmps8 Try.results8 rfl fun w0 hS => ?_; have hS0 := hS; have hG := Grow.refl hS
  (refine CWD_seq ?_; refine CWD_region rfl ?_)
  (refine S_op (W_alloc hS ?_)); intro w c6b hG' c6h c6; replace c6h := Nat.le_trans hG.below.size (Nat.le_of_eq c6h); replace hG := hG.trans hG'; replace hS := hG'.sub; clear hG'
  (refine S_nil ?_; refine CWD_seq ?_; refine CWD_seq ?_; refine CWD_region rfl ?_)
  (refine S_op ?_; refine W_call hS (by rfl) (awake11_c H) ?_); rintro v H w hG' rfl; replace hG := hG.trans hG'; replace hS := hG'.sub; replace c6 := c6.grow hG'; clear hG'
  (refine S_op ?_; refine W_not (by first | rfl | assumption) ?_; refine S_nil ?_; refine CWD_false (by first | rfl | assumption) ?_; refine CWD_skip ?_; refine CWD_seq ?_; refine CWD_seq ?_; refine CWD_region rfl ?_)
  (refine S_op ?_; refine W_call hS (by rfl) (all_c H none trivial) ?_); rintro v H w hG' hv; replace hG := hG.trans hG'; replace hS := hG'.sub; replace c6 := c6.grow hG'; clear hG'
  obtain ⟨gf, lb, hfc, rfl, hit⟩ := hv
  (refine S_nil ?_; refine CWD_block ?_)
  refine CWD_rangeNil rfl hS (fun _ => rfl) (by decide) (fun w1 _ => hit H w1 (HLe.refl _)) ?_ ?_
  · intro l x W
    (refine CW_skip ?_)
    first | done | rfl
  clear hit
  intro D1 H w hD1 hM1 hG'
  have y1 : w0.heap.size ≤ D1 := Nat.le_trans hG.below.size hD1
  replace hG := hG.trans hG'
  replace hS := hG'.sub
  replace c6 := c6.grow hG'
  have z1 := hM1.lt
  clear hG'
  (refine CWD_seq ?_; refine CWD_seq ?_; refine CWD_region rfl ?_; refine S_op ?_; refine W_moveStr (by first | rfl | assumption) ?_)
  (refine S_op ?_; refine W_call hS (by rfl) (from_c H none k trivial) ?_); rintro v H w hG' hv; replace hG := hG.trans hG'; replace hS := hG'.sub; replace c6 := c6.grow hG'; replace hM1 := hM1.grow hG'; clear hG'
  have z1 := hM1.lt
  obtain ⟨gf, lb, hfc, rfl, hit⟩ := hv
  (refine S_nil ?_; refine CWD_block ?_)
  refine CWD_rangeNil rfl hS (fun _ => rfl) (by decide) (fun w1 _ => hit H w1 (HLe.refl _)) ?_ ?_
  · intro l x W
    (refine CW_skip ?_)
    first | done | rfl
  clear hit
  intro D2 H w hD2 hM2 hG'
  replace hG := hG.trans hG'
  replace hS := hG'.sub
  replace c6 := c6.grow hG'
  replace hM1 := hM1.grow hG'
  have y2 : D1 < D2 := by omega
  clear hG'
  (refine CWD_seq ?_; refine CWD_seq ?_; refine CWD_region rfl ?_)
  (refine S_op ?_; refine W_call hS (by rfl) (back_c H none trivial) ?_); rintro v H w hG' hv; replace hG := hG.trans hG'; replace hS := hG'.sub; replace c6 := c6.grow hG'; replace hM1 := hM1.grow hG'; replace hM2 := hM2.grow hG'; clear hG'
  have z2 := hM2.lt
  obtain ⟨gf, lb, hfc, rfl, hit⟩ := hv
  (refine S_nil ?_; refine CWD_block ?_)
  refine CWD_rangeNil rfl hS (fun _ => rfl) (by decide) (fun w1 _ => hit H w1 (HLe.refl _)) ?_ ?_
  · intro l x W
    (refine CW_skip ?_)
    first | done | rfl
  clear hit
  intro D3 H w hD3 hM3 hG'
  replace hG := hG.trans hG'
  replace hS := hG'.sub
  replace c6 := c6.grow hG'
  replace hM1 := hM1.grow hG'
  replace hM2 := hM2.grow hG'
  have y3 : D2 < D3 := by omega
  clear hG'
  (refine CWD_seq ?_; refine CWD_seq ?_; refine CWD_region rfl ?_; refine S_op ?_; refine W_moveStr (by first | rfl | assumption) ?_)
  (refine S_op ?_; refine W_call hS (by rfl) (backFrom_c H none k trivial) ?_); rintro v H w hG' hv; replace hG := hG.trans hG'; replace hS := hG'.sub; replace c6 := c6.grow hG'; replace hM1 := hM1.grow hG'; replace hM2 := hM2.grow hG'; replace hM3 := hM3.grow hG'; clear hG'
  have z3 := hM3.lt
  obtain ⟨gf, lb, hfc, rfl, hit⟩ := hv
  (refine S_nil ?_; refine CWD_block ?_)
  refine CWD_rangeNil rfl hS (fun _ => rfl) (by decide) (fun w1 _ => hit H w1 (HLe.refl _)) ?_ ?_
  · intro l x W
    (refine CW_skip ?_)
    first | done | rfl
  clear hit
  intro D4 H w hD4 hM4 hG'
  replace hG := hG.trans hG'
  replace hS := hG'.sub
  replace c6 := c6.grow hG'
  replace hM1 := hM1.grow hG'
  replace hM2 := hM2.grow hG'
  replace hM3 := hM3.grow hG'
  have y4 : D3 < D4 := by omega
  clear hG'
  (refine CWD_seq ?_; refine CWD_region rfl ?_; refine S_op ?_; refine W_moveStr (by first | rfl | assumption) ?_; refine S_op ?_; refine W_moveStr (by first | rfl | assumption) ?_)
  (refine S_op ?_; refine W_call hS (by rfl) (count_c H none k k2 trivial (by simp [Tr.items])) ?_); rintro v H w hG' rfl; replace hG := hG.trans hG'; replace hS := hG'.sub; replace c6 := c6.grow hG'; replace hM1 := hM1.grow hG'; replace hM2 := hM2.grow hG'; replace hM3 := hM3.grow hG'; replace hM4 := hM4.grow hG'; clear hG'
  rw [show aheadOf k2 (fromL k (Tr.items none)) = 0 from rfl]
  (refine S_op ?_; refine W_eqlT (by first | rfl | assumption) (by first | rfl | assumption) (by first | omega | rfl) ?_; refine S_op ?_; refine W_moveBool (by first | rfl | assumption) ?_; refine S_want (by rfl) ?_; refine W_moveStr (by first | rfl | assumption) ?_; refine S_want (by rfl) ?_; refine W_moveInt (by first | rfl | assumption) ?_)
  (refine S_want (by rfl) ?_; refine W_call hS (by rfl) (take_c H none k n trivial (by simp [Tr.items])) ?_); rintro v H w hG' hv; replace hG := hG.trans hG'; replace hS := hG'.sub; replace c6 := c6.grow hG'; replace hM1 := hM1.grow hG'; replace hM2 := hM2.grow hG'; replace hM3 := hM3.grow hG'; replace hM4 := hM4.grow hG'; clear hG'
  rw [show fromL k (Tr.items none) = [] from rfl, List.take_nil] at hv
  obtain ⟨A, c, rfl, _, _, _⟩ := hv
  (refine S_want (by rfl) ?_; refine W_len (by first | rfl | assumption) ?_; refine S_want (by rfl) ?_; refine W_eqlT (by first | rfl | assumption) (by first | rfl | assumption) (by first | omega | rfl) ?_; refine S_op ?_; refine W_pickT (by first | rfl | assumption) (by first | rfl | assumption) ?_)
  refine S_op0 (W_storeM (o := 0) (vs := [.bool true]) (by rfl) (by rfl) c6 (by rfl) (OneCells.of_all (by rfl)) (by rfl) (Nat.le_of_ble_eq_true (by rfl)) ?_)
  intro w5 hgb c7
  replace hG := hG.grownBy hgb (fun g h => by cases h; exact ⟨c6.out, c6h⟩)
  replace hM1 := hM1.other hgb (fun e => hM1.ne c6 (Option.some.inj e))
  replace hM2 := hM2.other hgb (fun e => hM2.ne c6 (Option.some.inj e))
  replace hM3 := hM3.other hgb (fun e => hM3.ne c6 (Option.some.inj e))
  replace hM4 := hM4.other hgb (fun e => hM4.ne c6 (Option.some.inj e))
  (refine S_nil ?_; refine CWD_ret ?_)
  have hn1 := hM1.ne c7
  have hn2 := hM2.ne c7
  have hn3 := hM3.ne c7
  have hn4 := hM4.ne c7
  refine FinD_list (H := H) ?_ (by simp; omega) hG.sub fun w' hT => ?_
  · intro D hD
    simp at hD
    rcases hD with rfl | rfl | rfl | rfl <;> assumption
  · exact ⟨_, ResW_v1 (RV_cell1 rfl (c7.turn hT (by simp; omega))), H, Turn.grow hG hT (fun b hb => by simp at hb; omega), rfl⟩
end Go.Proofs.Ytgaabmoknpifnaa
/- Loops over iterators that are left by an exit: one end; what such a loop gathers. Conditions: each law's own premises. -/
namespace Go.Proofs.Ytgaabmoknpifnaa
open Go.Proofs Go.RowKit
set_option linter.unusedVariables false
theorem CWD_rangeExit {P : Program} {α : Type} {n id : Nat} {g : Operand} {ps : Array Tmp} {assign body : Code} {f : Fr} {ds : List Nat} {gf : Nat} {lb : List Value} [FnCall P gf] {enc : α → List Value} {xs : List α} {S : Nat → Prop} {H : HF} {w : World}
    {Qn Qr : List Nat → Fr → World → Prop} {Qx : Nat → List Nat → Fr → World → Prop}
    (I Ix : Inv α) (hI : Good I) (hIx : Stable Ix) (h0 : I S [] H w)
    (hg : ev f g = .func (.func gf) #[] lb.toArray) (hS : Sub H w) (hps : ∀ x, (enc x).length = ps.size) (hpn : ∀ p ∈ ps.toList, p < n)
    (hIt : ∀ w1, Grow H w H w1 → IterAt P gf lb enc xs S H w1) (hSw : ∀ k, S k → k < w.heap.size)
    (hround : ∀ l x W, CW P (some l) n assign (fun f1 W1 => W1 = W ∧ RoundOk P n body xs I (exitI id Ix) x f1 (fun _ _ _ => True)) (fun _ _ => False) (fun _ _ _ => False) (puts ps.toList (enc x) f) W)
    (hk : ∀ D X H' W', w.heap.size ≤ D → MarkAt H' W' D → Sub H' W' → HLe H H' → X D → (I X xs H' W' ∨ ∃ pre rest, xs = pre ++ rest ∧ Ix X pre H' W') → Qn (D :: ds) f W') :
    CWD P none n (.rangeFunc g ps assign body) Qn Qr (xblkD id Qn Qx) ds f w := by
  refine CWD_range I (exitI id Ix) hI (exitI.stable hIx) h0 hg hS hps hpn hIt hSw hround ?_ ?_ ?_
  · exact fun D X H' W' hD hM hS' hle _ hX h => hk D X H' W' hD hM hS' hle hX (.inl h)
  · exact fun _ _ _ _ _ _ _ _ _ _ _ _ _ h => False.elim h
  · rintro i D X H' W' pre rest hx hD hM hS' hle _ hX ⟨rfl, h⟩
    exact xblkD_hit (hk D X H' W' hD hM hS' hle hX (.inr ⟨pre, rest, hx, h⟩))
/-- A slice of entries that is gathered in a variable b until it has n; bs: other rows of the call's own. -/
def Gath (H0 : HF) (w0 : World) (Hs : HF) (E : TypeId) (b : Nat) (bs : List Nat) (n : Int) (full : Prop) (ψ : HF → World → Prop) : Inv Ent :=
  HoldO H0 w0 (b :: bs) E 2 entCells (fun A m c pre H2 w2 => HLe Hs H2 ∧ Mut H2 w2 b [.slice A m c] ∧ m = pre.length ∧ (∀ a, A = some a → a.block ∉ b :: bs) ∧ (pre.length : Int) ≤ n ∧ ((pre.length : Int) = n ↔ full) ∧ ψ H2 w2)
theorem Gath.good {H0 Hs : HF} {w0 : World} {E : TypeId} {b : Nat} {bs : List Nat} {n : Int} {full : Prop} {ψ : HF → World → Prop} (hψ : Abides (α := Unit) bs (fun _ => ψ)) : Good (Gath H0 w0 Hs E b bs n full ψ) := by
  refine HoldO.good ?_
  rintro A m c S pre H w H' w' hs hT ⟨h1, h2, h3, h4, h5, h6, h7⟩
  exact ⟨h1.trans hT.le, h2.turn hT (hs _ (by simp)), h3, h4, h5, h6, hψ S [] H w H' w' (fun b' hb => hs b' (by simp [hb])) hT h7⟩
/-- Where it ends: the first n, or all. -/
theorem Gath.end_ {H0 Hs H : HF} {w0 w : World} {E : TypeId} {b : Nat} {bs : List Nat} {n : Int} {ψ : HF → World → Prop} {X : Nat → Prop} {xs : List Ent} (hn : 0 ≤ n)
    (h : Gath H0 w0 Hs E b bs n False ψ X xs H w ∨ ∃ pre rest, xs = pre ++ rest ∧ Gath H0 w0 Hs E b bs n True ψ X pre H w) :
    ∃ A c, Grow H0 w0 H w ∧ (∀ k, X k → w0.heap.size ≤ k) ∧ (∀ b' ∈ b :: bs, ¬ X b') ∧ Own H w w0.heap.size E 2 A (xs.take n.toNat).length c (entCells (xs.take n.toNat)) ∧ HLe Hs H ∧ Mut H w b [.slice A (xs.take n.toNat).length c] ∧ (∀ a, A = some a → a.block ∉ b :: bs ∧ ¬ X a.block) ∧ ψ H w := by
  rcases h with ⟨hG, hX, hb, A, m, c, ho, hXA, hle, hm, rfl, hA, h5, h6, h7⟩ | ⟨pre, rest, rfl, hG, hX, hb, A, m, c, ho, hXA, hle, hm, rfl, hA, h5, h6, h7⟩
  · have e : xs.take n.toNat = xs := List.take_of_length_le (by omega)
    rw [e]
    exact ⟨A, c, hG, fun k hk => (hX k hk).1, fun b' h' => (hb b' h').1, ho, hle, hm, fun a ha => ⟨hA a ha, hXA a ha⟩, h7⟩
  · have e : (pre ++ rest).take n.toNat = pre := by
      have := h6.2 trivial
      rw [List.take_append_of_le_length (by omega)]
      exact List.take_of_length_le (by omega)
    rw [e]
    exact ⟨A, c, hG, fun k hk => (hX k hk).1, fun b' h' => (hb b' h').1, ho, hle, hm, fun a ha => ⟨hA a ha, hXA a ha⟩, h7⟩
end Go.Proofs.Ytgaabmoknpifnaa
/- Regions that draw, and loops over iterators, that turn rows of the caller's. Conditions: each law's own premises. -/
namespace Go.Proofs.Ytgaabmoknpifnaa
open Go.Proofs Go.RowKit
set_option linter.unusedVariables false
theorem Turn.after {S X : Nat → Prop} {H0 H H' : HF} {w0 w w' : World} (h : Turn S H0 w0 H w) (k : Turn X H w H' w') (hX : ∀ b, X b → w0.heap.size ≤ b ∨ S b) : Turn S H0 w0 H' w' :=
  ⟨k.os.trans h.os, k.tape.trans h.tape, k.output.trans h.output, Nat.le_trans h.size k.size, fun j hj hs => (k.block j (Nat.lt_of_lt_of_le hj h.size) (fun h2 => by
    rcases hX j h2 with h3 | h3
    · omega
    · exact hs h3)).trans (h.block j hj hs), k.sub, h.le.trans k.le, fun b hb => (k.old b (Nat.lt_of_lt_of_le hb h.size)).trans (h.old b hb)⟩
/-- Behind c effects M c holds; rows of S are turned since H0, w0; Hr: the region's. -/
structure GT (S : Nat → Prop) (H0 : HF) (w0 : World) (Hr : HF) (M : Nat → HF → World → Prop) (c : Nat) (H : HF) (w : World) : Prop where
  grow : Turn S H0 w0 H w
  le : HLe Hr H
  m : M c H w
  cm : ∀ c, Closed (M c)
section
variable {S : Nat → Prop} {H0 Hr H H' : HF} {w0 w w' : World} {M : Nat → HF → World → Prop} {c : Nat}
theorem GT.sub (h : GT S H0 w0 Hr M c H w) : Sub H w := h.grow.sub
theorem GT.subOld (h : GT S H0 w0 Hr M c H w) : Sub Hr w := ⟨fun b o e => h.grow.sub.out b o (h.le b o e)⟩
theorem GT.trans (h : GT S H0 w0 Hr M c H w) (k : Grow H w H' w') : GT S H0 w0 Hr M c H' w' := ⟨h.grow.trans k.turn, h.le.trans k.le, h.cm _ _ _ _ _ h.m k, h.cm⟩
theorem GT.next (h : GT S H0 w0 Hr M c H w) (hg : Turn S H0 w0 H' w') (hle : HLe H H') (hf : M (c + 1) H' w') : GT S H0 w0 Hr M (c + 1) H' w' := ⟨hg, h.le.trans hle, hf, h.cm⟩
end
section
variable {P : Program} {r : Option Nat} {n : Nat} {f : Fr} {S : Nat → Prop} {H0 H : HF} {w0 w : World}
theorem CWD_region_gt {rid : Nat} {ops : Array Oper} {Qn Qr : List Nat → Fr → World → Prop} {Qx : Nat → List Nat → Fr → World → Prop} {ds : List Nat} (M : Nat → HF → World → Prop) (c0 : Nat) (Φ : List Fact) (es : List (Option Nat)) (Ds : List (Option Nat)) (D : List Nat)
    (hm : P.follows .mixedOrders = true) (hd : dstsOk n ops = true) (he : edgesOk ops = true) (hDs : ops.toList.map (·.dst) = Ds) (hD : dstsOf ops.toList = D) (hu : decide D.Nodup = true) (hef : effOk ops es = true) (heu : effUniq es = true)
    (hl : (es.any fun e => e == some c0) = true) (hG : Turn S H0 w0 H w) (hM : M 0 H w) (cm : ∀ c, Closed (M c)) (hst : StepsAny P r (GT S H0 w0 H M) Φ ops Ds D f ops.toList Φ es)
    (hfin : ∀ c H' w', c0 < c → Turn S H0 w0 H' w' → HLe H H' → M c H' w' → FinAny (Qn ds) H' w' ops.toList Φ f) : CWD P r n (.region rid ops true) Qn Qr Qx ds f w := by
  refine CWD_region_any (H := H) (GT S H0 w0 H M) Φ es Ds D hm hd he hDs hD hu hef heu ⟨hG.trans (Grow.drew hG.sub).turn, HLe.refl _, cm _ _ _ _ _ hM (Grow.drew hG.sub), cm⟩ hst ?_
  intro c H' w' hG hc
  simp only [List.any_eq_true] at hl
  obtain ⟨e, he1, he2⟩ := hl
  obtain ⟨j, hj, hje⟩ := List.mem_iff_getElem.1 he1
  have hes : es[j]? = some (some c0) := by
    rw [List.getElem?_eq_getElem hj, hje]
    simpa using he2
  exact hfin c H' w' (hc j c0 hes) hG.grow hG.le hG.m
theorem CW_region_gt {rid : Nat} {ops : Array Oper} {Qn Qr : Fr → World → Prop} {Qx : Nat → Fr → World → Prop} (M : Nat → HF → World → Prop) (c0 : Nat) (Φ : List Fact) (es : List (Option Nat)) (Ds : List (Option Nat)) (D : List Nat)
    (hm : P.follows .mixedOrders = true) (hd : dstsOk n ops = true) (he : edgesOk ops = true) (hDs : ops.toList.map (·.dst) = Ds) (hD : dstsOf ops.toList = D) (hu : decide D.Nodup = true) (hef : effOk ops es = true) (heu : effUniq es = true)
    (hl : (es.any fun e => e == some c0) = true) (hG : Turn S H0 w0 H w) (hM : M 0 H w) (cm : ∀ c, Closed (M c)) (hst : StepsAny P r (GT S H0 w0 H M) Φ ops Ds D f ops.toList Φ es)
    (hfin : ∀ c H' w', c0 < c → Turn S H0 w0 H' w' → HLe H H' → M c H' w' → FinAny Qn H' w' ops.toList Φ f) : CW P r n (.region rid ops true) Qn Qr Qx f w := by
  refine CW_region_any (H := H) (GT S H0 w0 H M) Φ es Ds D hm hd he hDs hD hu hef heu ⟨hG.trans (Grow.drew hG.sub).turn, HLe.refl _, cm _ _ _ _ _ hM (Grow.drew hG.sub), cm⟩ hst ?_
  intro c H' w' hG hc
  simp only [List.any_eq_true] at hl
  obtain ⟨e, he1, he2⟩ := hl
  obtain ⟨j, hj, hje⟩ := List.mem_iff_getElem.1 he1
  have hes : es[j]? = some (some c0) := by
    rw [List.getElem?_eq_getElem hj, hje]
    simpa using he2
  exact hfin c H' w' (hc j c0 hes) hG.grow hG.le hG.m
end
section
variable {P : Program} {r : Option Nat} {G : Nat → HF → World → Prop} {Φ : List Fact} {ops : Array Oper} {Ds : List (Option Nat)} {D : List Nat} {f0 : Fr} {p : Op} {ty : TypeId} {pos : String} {af : Array Edge}
theorem A_effG {φ : Fact} {k : Nat} {gd : Option Nat} {j : Nat} {b : Bool} (h : ∀ (u : Fr) (H : HF) (w : World), G k H w → DepGo Φ Ds H (fun f => yieldF ops f j = some b ∧ OpW P r ⟨gd, p, ty, pos, af, some (j, b)⟩ f w (fun v w' => ∃ H', HLe H H' ∧ G (k + 1) H' w' ∧ ∀ H'', HLe H' H'' → φ v H'')) af.toList (over D u f0)) :
    StepAny P r G Φ ops Ds D f0 ⟨gd, p, ty, pos, af, some (j, b)⟩ φ (some k) := by
  intro u H w hG
  refine depGo_mono ?_ _ _ (h u H w hG)
  rintro f ⟨hy, hf⟩
  have : wantF ops ⟨gd, p, ty, pos, af, some (j, b)⟩ f = true := by simp [wantF, hy]
  rw [if_pos this]
  exact hf
end
theorem W_loadMAggC {P : Program} {r : Option Nat} {f : Fr} {H : HF} {w : World} {K : Value → World → Prop} {d : Option Nat} {ty : TypeId} {pos : String} {af : Array Edge} {g : Option (Nat × Bool)} {T : TypeId} {x : Operand} {s : Nat} [TyAgg P T] [TySize P T s] {b o : Nat} {cs vs : List Value} (hx : ev f x = .pointer (some ⟨b, o, none⟩)) (hm : Mut H w b cs) (hc : (cs.drop o).take s = vs) (hl : vs.length = s) (hk : K (.agg vs.toArray) w) :
    OpW P r ⟨d, .load T x, ty, pos, af, g⟩ f w K := W_loadMAgg hx hm hl hc hk
section
variable {α : Type} {S : Nat → Prop} {H0 : HF} {w0 : World} {bs : List Nat} {φ : List α → HF → World → Prop}
/-- Hold, where the call has turned rows of S. -/
def HoldT (S : Nat → Prop) (H0 : HF) (w0 : World) (bs : List Nat) (φ : List α → HF → World → Prop) : Inv α :=
  fun X pre H w => Turn S H0 w0 H w ∧ (∀ k, X k → w0.heap.size ≤ k ∧ k < w.heap.size) ∧ (∀ b ∈ bs, ¬ X b ∧ b < w.heap.size) ∧ φ pre H w
theorem HoldT.good (hφ : Abides bs φ) : Good (HoldT S H0 w0 bs φ) := by
  refine ⟨?_, ?_, fun X pre H w h k hk => (h.2.1 k hk).2⟩
  · rintro X pre H w H' w' ⟨hG, hX, hb, h⟩ hT
    refine ⟨hG.after hT fun k hk => .inl (hX k hk).1, fun k hk => ?_, fun b h' => ⟨?_, Nat.lt_of_lt_of_le (hb b h').2 hT.size⟩, hφ X pre H w H' w' (fun b h' => (hb b h').1) hT h⟩
    · rcases hk with h1 | h1
      · exact ⟨(hX k h1).1, Nat.lt_of_lt_of_le (hX k h1).2 hT.size⟩
      · exact ⟨Nat.le_trans hG.size h1.1, h1.2⟩
    · rintro (h1 | h1)
      · exact (hb b h').1 h1
      · have := (hb b h').2; omega
  · rintro X X' pre H w hX ⟨h1, h2, h3, h4⟩
    exact ⟨h1, fun k hk => h2 k (hX k hk), fun b h' => ⟨fun h => (h3 b h').1 (hX b h), (h3 b h').2⟩, h4⟩
end
end Go.Proofs.Ytgaabmoknpifnaa
/- A place in a rising list, and the walks from there. Conditions: none; plain laws. -/
namespace Go.Proofs.Ytgaabmoknpifnaa
open Go.Proofs Go.RowKit
set_option linter.unusedVariables false
/-- A place, if it is one. -/
def posL (l : List Ent) (i : Int) : Option Nat := if 0 ≤ i ∧ i < (l.length : Int) then some i.toNat else none
theorem posL_some {l : List Ent} {i : Int} (h0 : 0 ≤ i) (h1 : i < (l.length : Int)) : posL l i = some i.toNat := if_pos ⟨h0, h1⟩
theorem posL_none {l : List Ent} {i : Int} (h : i < 0 ∨ (l.length : Int) ≤ i) : posL l i = none := if_neg (by omega)
theorem posL_lt {l : List Ent} {i : Int} {q : Nat} (h : posL l i = some q) : q < l.length ∧ (q : Int) = i := by
  unfold posL at h
  split at h
  · cases h; omega
  · cases h
theorem posL_get (l : List Ent) (n : Nat) : (posL l n).map (ent l) = l[n]? := by
  by_cases h : n < l.length
  · rw [posL_some (by omega) (by omega)]
    simp [ent, h]
  · rw [posL_none (by omega)]
    simp; omega
theorem ent_get {l : List Ent} {i : Nat} (h : i < l.length) : l[i]? = some (ent l i) := by simp [ent, h]
theorem find_head {l : List Ent} {but : ByteArray} (h : ∀ e ∈ l, e.key ≠ but) : l.find? (fun e => decide (e.key ≠ but)) = l.head? := by
  cases l with
  | nil => rfl
  | cons a l => rw [List.find?_cons_of_pos (by simpa using h a (by simp))]; rfl
theorem fromL_drop {k : ByteArray} : ∀ {l : List Ent}, riseB l = true → fromL k l = l.drop (aheadOf k l)
  | [], _ => rfl
  | a :: l, h => by
    obtain ⟨h1, h2⟩ := riseB_cons.1 h
    have ih := fromL_drop (k := k) h2
    unfold fromL aheadOf at ih ⊢
    rw [List.filter_cons, List.takeWhile_cons]
    cases ha : slt a.key k with
    | true => simpa using ih
    | false =>
      have : l.filter (fun e => !slt e.key k) = l := by
        rw [List.filter_eq_self]
        intro x hx
        cases hs : slt x.key k with
        | false => rfl
        | true => have := slt_trans (h1 x hx) hs; rw [ha] at this; cases this
      simp [this]
theorem ahead_le (k : ByteArray) (l : List Ent) : aheadOf k l ≤ l.length := by
  unfold aheadOf
  exact (List.takeWhile_sublist _).length_le
theorem ahead_lt {k : ByteArray} : ∀ {l : List Ent} {i : Nat}, i < aheadOf k l → slt (ent l i).key k = true
  | [], i, h => absurd h (by simp [aheadOf])
  | a :: l, i, h => by
    unfold aheadOf at h
    rw [List.takeWhile_cons] at h
    cases ha : slt a.key k with
    | false => rw [ha] at h; simp at h
    | true =>
      rw [ha] at h
      cases i with
      | zero => simpa [ent] using ha
      | succ i => have := ahead_lt (k := k) (l := l) (i := i) (by simpa [aheadOf] using h); simpa [ent] using this
theorem ahead_ge {k : ByteArray} : ∀ {l : List Ent}, aheadOf k l < l.length → slt (ent l (aheadOf k l)).key k = false
  | [], h => absurd h (by simp)
  | a :: l, h => by
    unfold aheadOf at h ⊢
    rw [List.takeWhile_cons] at h ⊢
    cases ha : slt a.key k with
    | false => simp [ha, ent]
    | true =>
      rw [ha] at h
      have := ahead_ge (k := k) (l := l) (by simpa [aheadOf] using h)
      simpa [ha, ent, aheadOf] using this
theorem ent_cons (a : Ent) (l : List Ent) (i : Nat) : ent (a :: l) (i + 1) = ent l i := by simp [ent]
theorem ent_zero (a : Ent) (l : List Ent) : ent (a :: l) 0 = a := by simp [ent]
theorem ahead_ent : ∀ {l : List Ent} {i : Nat}, riseB l = true → i < l.length → aheadOf (ent l i).key l = i
  | [], i, _, hi => absurd hi (by simp)
  | a :: l, 0, h, _ => by rw [ent_zero]; simp [aheadOf, slt_irrefl]
  | a :: l, i + 1, h, hi => by
    obtain ⟨h1, h2⟩ := riseB_cons.1 h
    have hi' : i < l.length := by simpa using hi
    have ih := ahead_ent h2 hi'
    rw [ent_cons]
    unfold aheadOf at ih ⊢
    rw [List.takeWhile_cons, h1 _ (ent_mem' hi')]
    simp [ih]
theorem upTo_ent : ∀ {l : List Ent} {i : Nat}, riseB l = true → i < l.length → (l.filter fun e => !slt (ent l i).key e.key) = l.take (i + 1)
  | [], i, _, hi => absurd hi (by simp)
  | a :: l, 0, h, _ => by
    obtain ⟨h1, _⟩ := riseB_cons.1 h
    rw [ent_zero, List.filter_cons, slt_irrefl]
    have : l.filter (fun e => !slt a.key e.key) = [] := by
      rw [List.filter_eq_nil_iff]
      intro x hx
      simp [h1 x hx]
    simp [this]
  | a :: l, i + 1, h, hi => by
    obtain ⟨h1, h2⟩ := riseB_cons.1 h
    have hi' : i < l.length := by simpa using hi
    have ih := upTo_ent h2 hi'
    rw [ent_cons, List.filter_cons, slt_asymm (h1 _ (ent_mem' hi'))]
    simp [ih]
theorem rise_key : ∀ {l : List Ent} {i j : Nat}, riseB l = true → i < j → j < l.length → slt (ent l i).key (ent l j).key = true
  | [], _, _, _, _, hj => absurd hj (by simp)
  | a :: l, 0, j + 1, h, _, hj => by
    obtain ⟨h1, _⟩ := riseB_cons.1 h
    rw [ent_zero, ent_cons]
    exact h1 _ (ent_mem' (by simpa using hj))
  | a :: l, i + 1, j + 1, h, hij, hj => by
    obtain ⟨_, h2⟩ := riseB_cons.1 h
    rw [ent_cons, ent_cons]
    exact rise_key h2 (by omega) (by simpa using hj)
section
variable {l : List Ent} (hn : ∀ e ∈ l, e.key ≠ ⟨#[]⟩) (hr : riseB l = true)
include hn
theorem pos_first : l.find? (fun e => decide (e.key ≠ ⟨#[]⟩)) = (posL l 0).map (ent l) := by
  rw [find_head hn, show (0 : Int) = ((0 : Nat) : Int) from rfl, posL_get, List.head?_eq_getElem?]
theorem pos_last : l.reverse.find? (fun e => decide (e.key ≠ ⟨#[]⟩)) = (posL l ((l.length : Int) - 1)).map (ent l) := by
  rw [find_head (fun e he => hn e (by simpa using he))]
  rcases Nat.eq_zero_or_pos l.length with h | h
  · rw [posL_none (by omega), List.length_eq_zero_iff.1 h]; rfl
  · rw [show (l.length : Int) - 1 = ((l.length - 1 : Nat) : Int) by omega, posL_get, List.head?_reverse, List.getLast?_eq_getElem?]
include hr
theorem pos_seek (k : ByteArray) : (fromL k l).find? (fun e => decide (e.key ≠ ⟨#[]⟩)) = (posL l (aheadOf k l : Nat)).map (ent l) := by
  rw [find_head (l := fromL k l) (fun e he => hn e (List.mem_filter.1 he).1), fromL_drop hr, posL_get, List.head?_drop]
omit hn
theorem pos_next {i : Nat} (hi : i < l.length) : (fromL (ent l i).key l).find? (fun e => decide (e.key ≠ (ent l i).key)) = (posL l ((i : Int) + 1)).map (ent l) := by
  rw [fromL_drop hr, ahead_ent hr hi, List.drop_eq_getElem_cons hi, List.find?_cons_of_neg (by simp [ent, hi])]
  rw [find_head, show (i : Int) + 1 = ((i + 1 : Nat) : Int) by omega, posL_get, List.head?_drop]
  intro e he h
  obtain ⟨q, hq, rfl⟩ := List.mem_iff_getElem.1 he
  rw [List.getElem_drop] at h
  have hq2 : i + 1 + q < l.length := by simp at hq; omega
  have h3 := rise_key hr (i := i) (j := i + 1 + q) (by omega) hq2
  have h4 : ent l (i + 1 + q) = l[i + 1 + q] := by simp [ent, hq2]
  rw [h4, h, slt_irrefl] at h3
  cases h3
theorem pos_prev {i : Nat} (hi : i < l.length) : ((l.filter fun e => !slt (ent l i).key e.key).reverse).find? (fun e => decide (e.key ≠ (ent l i).key)) = (posL l ((i : Int) - 1)).map (ent l) := by
  rw [upTo_ent hr hi, List.take_succ_eq_append_getElem hi, List.reverse_append, List.reverse_singleton, List.singleton_append, List.find?_cons_of_neg (by simp [ent, hi])]
  rw [find_head]
  · rcases Nat.eq_zero_or_pos i with h | h
    · subst h; rw [posL_none (by omega)]; rfl
    · rw [show (i : Int) - 1 = ((i - 1 : Nat) : Int) by omega, posL_get, List.head?_reverse, List.getLast?_eq_getElem?, List.length_take]
      rw [Nat.min_eq_left (by omega), List.getElem?_take, if_pos (by omega)]
  · intro e he h
    simp only [List.mem_reverse] at he
    obtain ⟨q, hq, rfl⟩ := List.mem_iff_getElem.1 he
    rw [List.getElem_take] at h
    have hq1 : q < i := by simp at hq; omega
    have h3 := rise_key hr hq1 hi
    have h4 : ent l q = l[q] := by simp [ent, show q < l.length by omega]
    rw [h4, h, slt_irrefl] at h3
    cases h3
end
end Go.Proofs.Ytgaabmoknpifnaa
