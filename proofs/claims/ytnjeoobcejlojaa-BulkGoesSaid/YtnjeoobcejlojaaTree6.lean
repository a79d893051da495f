/- tree: del: walked. Conditions: sizes. -/
import Derived.Test.YtnjeoobcejlojaaTree5
namespace Go.Proofs.Ytnjeoobcejlojaa
open Go.Proofs Go.RowKit
set_option linter.unusedVariables false
attribute [local irreducible] CW SeqW OpW
set_option maxHeartbeats 8000000
abbrev Zp : List Value := [.slice none 0 0, .slice none 0 0]
/-- The new parts, behind the last region. -/
def DelF (b4 b9 : Nat) (Q : Nat → Prop) (Hr : HF) (h : Nat) (its : List Ent) (n : Nat) (pre post : List (Nd h)) (cs : List Value) (H : HF) (w : World) : Prop :=
  (∃ out v1 v2, Mut H w b4 [v1, v2] ∧ PtAt H h (.agg #[v1, v2]) [] (pre ++ out ++ post) ∧ PartNodes Hr Q h its n out) ∧ Mut H w b9 cs
theorem closedDelF (b4 b9 : Nat) (Q : Nat → Prop) (Hr : HF) (h : Nat) (its : List Ent) (n : Nat) (pre post : List (Nd h)) (cs : List Value) : Closed (DelF b4 b9 Q Hr h its n pre post cs) :=
  fun _ _ _ _ ⟨⟨out, v1, v2, h1, h2, h3⟩, h4⟩ hg => ⟨⟨out, v1, v2, h1.grow hg, h2.mono hg.le, h3⟩, h4.grow hg⟩
def DelL (b4 b9 : Nat) (Q : Nat → Prop) (h : Nat) (its : List Ent) (n : Nat) (H : HF) (w : World) : Prop :=
  Mut H w b4 Zp ∧ ∃ v1 v2, Mut H w b9 [v1, v2] ∧ IsPart H Q h (.agg #[v1, v2]) its n
theorem closedDelL (b4 b9 : Nat) (Q : Nat → Prop) (h : Nat) (its : List Ent) (n : Nat) : Closed (DelL b4 b9 Q h its n) :=
  fun _ _ _ _ ⟨h1, v1, v2, h2, h3⟩ hg => ⟨h1.grow hg, v1, v2, h2.grow hg, h3.mono hg.le⟩
theorem last_split {α : Type} {l : List α} (h : 0 < l.length) : ∃ L s, l = L ++ [s] :=
  ⟨l.take (l.length - 1), l[l.length - 1], by rw [← take_succ' (by omega), show l.length - 1 + 1 = l.length by omega, List.take_length]⟩
theorem del_c (h : Nat) : ∀ (H : HF) (x : Nd h) (key : ByteArray), NodeAt H h x → Nd.full h x = true → lookB (Nd.items h x) key = true → h ≤ 800000 →
    Fn Try.prog 73 [x.ptr, .string key] H fun r H' => ∃ (n : Nat) (N : List Nat), N.length ≤ 2 * h ∧ IsPart H' (fun b => b ∈ N ∨ b ∈ Nd.blocks h x) h r (withoutL (Nd.items h x) key) n ∧ n ≤ Nd.size h x ∧ Nd.size h x ≤ n + 1 := by
  induction h with
  | zero =>
    intro H x key hx hf hlk hh
    have hok := hx.ok
    have hok2 := hok
    simp only [Nd.Ok, leafB, Bool.and_eq_true, decide_eq_true_eq] at hok2
    have hlen := look_withoutL_len hok2.1.2 hlk
    refine Fn_of_CW Try.func73 rfl Try.ntmps73 Try.results73 rfl fun w hS => ?_; have hG := Grow.refl hS; have hS0 := hS
    (refine CW_seq ?_; refine CW_region rfl ?_)
    refine S_op ?_
    refine W_alloc hS ?_
    intro w b4 hG' hb4 hm4
    replace hb4 := hG.base hb4
    replace hG := hG.trans hG'
    replace hS := hG'.sub
    replace hm4 : Mut H w b4 Zp := hm4
    clear hG'
    (refine S_nil ?_; refine CW_seq ?_; refine CW_seq ?_; refine CW_region rfl ?_; refine S_op ?_; refine W_movePtr (by first | rfl | assumption) ?_)
    (refine S_op ?_; refine W_call hS (by rfl) (height_c hx) ?_); rintro v H w hG' rfl; replace hG := hG.trans hG'; replace hS := hG'.sub; replace hx := hx.mono hG'.le; replace hm4 := hm4.grow hG'; clear hG'
    (refine S_op ?_; refine W_leqT (by first | rfl | assumption) (by first | rfl | assumption) (by first | omega | rfl) ?_; refine S_nil ?_; refine CW_true (by first | rfl | assumption) ?_; refine CW_seq ?_; refine CW_region rfl ?_; refine S_op ?_; refine W_movePtr (by first | rfl | assumption) ?_)
    (refine S_op ?_; refine W_call hS (by rfl) (entries_c hx) ?_); rintro v H w hG' hv; replace hG := hG.trans hG'; replace hS := hG'.sub; replace hx := hx.mono hG'.le; replace hm4 := hm4.grow hG'; clear hG'
    obtain ⟨A, c, rfl, hc, hl⟩ := hv
    have hl : EntsAt H A x.ents := hl
    have hc : x.ents.length ≤ c := hc
    rw [show Nd.own 0 x = x.ents from rfl]
    (refine S_op ?_; refine W_moveStr (by first | rfl | assumption) ?_)
    (refine S_op ?_; refine W_call hS (by rfl) (without_c H A c x.ents key hl hc (by omega)) ?_); rintro v H w hG' hv; replace hG := hG.trans hG'; replace hS := hG'.sub; replace hm4 := hm4.grow hG'; clear hG'
    obtain ⟨s, rfl, A2, c2, rfl, hc2, hl2⟩ := hv
    (refine S_op ?_; refine W_moveTup (by first | rfl | assumption) ?_; refine S_op ?_; refine W_extract (by first | rfl | assumption) (by rfl) ?_; refine S_op ?_; refine W_extract (by first | rfl | assumption) (by rfl) ?_; refine S_op ?_; refine W_assignSl (by first | rfl | assumption) ?_; refine S_op ?_; refine W_assignBool (by first | rfl | assumption) ?_; refine S_nil ?_; refine CW_seq ?_; refine CW_region rfl ?_; refine S_op ?_; refine W_moveSl (by first | rfl | assumption) ?_; refine S_op ?_; refine W_build (by rfl) ?_)
    refine S_op0 ?_
    refine W_storeM (b := b4) (o := 0) (vs := [.slice A2 (withoutL x.ents key).length c2, .slice none 0 0]) (by rfl) (by rfl) hm4 (by rfl) (two_one rfl rfl) (by rfl) (Nat.le_refl 2) ?_
    intro w3 hg3 hm3
    (refine S_nil ?_; refine CW_ret ?_)
    refine ⟨_, ResW_cell rfl hm3 rfl, H, grown_own hG hg3 hm4 hb4, (withoutL x.ents key).length, [], by simp, ⟨⟨A2, c2, none, 0, rfl, hc2, Nat.le_refl _, hl2, .inl rfl, by intro k hk; cases hk⟩, rfl⟩, ?_, ?_⟩
    · show _ ≤ x.ents.length
      have : (withoutL x.ents key).length + 1 = x.ents.length := hlen
      omega
    · show x.ents.length ≤ _
      have : (withoutL x.ents key).length + 1 = x.ents.length := hlen
      omega
  | succ h ih =>
    intro H x key hx hf hlk hh
    refine Fn_of_CW Try.func73 rfl Try.ntmps73 Try.results73 rfl fun w hS => ?_; have hG := Grow.refl hS; have hS0 := hS
    (refine CW_seq ?_; refine CW_region rfl ?_)
    refine S_op ?_
    refine W_alloc hS ?_
    intro w b4 hG' hb4 hm4
    replace hb4 := hG.base hb4
    replace hG := hG.trans hG'
    replace hS := hG'.sub
    replace hm4 : Mut H w b4 Zp := hm4
    clear hG'
    (refine S_nil ?_; refine CW_seq ?_; refine CW_seq ?_; refine CW_region rfl ?_; refine S_op ?_; refine W_movePtr (by first | rfl | assumption) ?_)
    (refine S_op ?_; refine W_call hS (by rfl) (height_c hx) ?_); rintro v H w hG' rfl; replace hG := hG.trans hG'; replace hS := hG'.sub; replace hx := hx.mono hG'.le; replace hm4 := hm4.grow hG'; clear hG'
    (refine S_op ?_; refine W_leqF (by first | rfl | assumption) (by first | rfl | assumption) (by first | omega | rfl) ?_; refine S_nil ?_; refine CW_false (by first | rfl | assumption) ?_; refine CW_skip ?_; refine CW_seq ?_; refine CW_region rfl ?_; refine S_op ?_; refine W_movePtr (by first | rfl | assumption) ?_)
    (refine S_op ?_; refine W_call hS (by rfl) (kids_c hx) ?_); rintro v H w hG' hv; replace hG := hG.trans hG'; replace hS := hG'.sub; replace hx := hx.mono hG'.le; replace hm4 := hm4.grow hG'; clear hG'
    obtain ⟨B, d, rfl, hd, hsl, _⟩ := hv
    have hok := hx.ok
    have h6 := hok.2.1
    have h2k := hok.1
    (refine S_op ?_; refine W_assignSl (by first | rfl | assumption) ?_; refine S_nil ?_; refine CW_seq ?_; refine CW_region rfl ?_; refine S_op ?_; refine W_moveSl (by first | rfl | assumption) ?_; refine S_op ?_; refine W_moveStr (by first | rfl | assumption) ?_)
    (refine S_op ?_; refine W_call hS (by rfl) (kid_c H B d h x.kids key hsl hx.kids (by omega)) ?_); rintro v H w hG' rfl; replace hG := hG.trans hG'; replace hS := hG'.sub; replace hx := hx.mono hG'.le; replace hsl := hsl.mono hG'.le; replace hm4 := hm4.grow hG'; clear hG'
    obtain ⟨a, b, h1, h2, h3, h4, _, _⟩ := Nd.kidOf_split hok key
    have hlm := Nd.look_kid hok key
    generalize Nd.kidOf x key = m at *
    have hq : a.length < x.kids.length := by rw [h1]; simp
    have hget : (x.kids.map Nd.ptr)[a.length * 1]? = some m.ptr := by rw [h1]; simp
    obtain ⟨bb, off, hA, hrow⟩ := slAt_some hsl hq
    have hmm : m ∈ x.kids := by rw [h1]; simp
    have hm : NodeAt H h m := hx.kids m hmm
    have hfm := Nd.full_kids hf m hmm
    have hem := enough_iff.1 hfm.1
    have hsm := size_le hm.ok
    have hlkm : lookB (Nd.items h m) key = true := by unfold lookB at hlk ⊢; rw [← hlm]; exact hlk
    have hxn : x.kids.length = a.length + 1 + b.length := by rw [h1]; simp; omega
    have hwk := Nd.withoutL_kid hok h1 h3 h4
    have hrw := rise_withoutL key hok.2.2.2
    have how := entOk_withoutL (key := key) (Nd.ok_ents hok)
    have hlh : lowN h ≤ 3 ∧ 2 ≤ lowN h ∧ highN h + lowN h ≤ 9 ∧ lowN h ≤ highN h := by unfold lowN highN; split <;> omega
    rw [h2]
    (refine S_op ?_; refine W_assignInt (by first | rfl | assumption) ?_; refine S_nil ?_; refine CW_seq ?_; refine CW_region rfl ?_; refine S_op ?_; refine W_moveSl (by first | rfl | assumption) ?_; refine S_op ?_; refine W_moveInt (by first | rfl | assumption) ?_; refine S_op ?_; refine W_index (by first | rfl | assumption) (by first | rfl | assumption) (by first | assumption | omega | decide) (by first | rfl | assumption) ?_)
    refine S_op (W_loadRow (by rfl) hrow hget hS ?_)
    (refine S_op ?_; refine W_moveStr (by first | rfl | assumption) ?_)
    (refine S_op ?_; refine W_call hS (by rfl) (ih H m key hm hfm.2 hlkm (by omega)) ?_); rintro v H w hG' ⟨n, N, hN, hp, hn1, hn2⟩; replace hG := hG.trans hG'; replace hS := hG'.sub; replace hx := hx.mono hG'.le; replace hsl := hsl.mono hG'.le; replace hrow := hrow.mono hG'.le; replace hm4 := hm4.grow hG'; clear hG'
    obtain ⟨A1, a1, c1, B1, b1, d1, hve⟩ := hp.agg
    subst hve
    obtain ⟨u1, hu1⟩ : ∃ u, u = Value.slice A1 a1 c1 := ⟨_, rfl⟩
    obtain ⟨u2, hu2⟩ : ∃ u, u = Value.slice B1 b1 d1 := ⟨_, rfl⟩
    skip
    refine S_op ?_
    refine W_alloc hS ?_
    intro w b9 hG' hb9 hm9
    have hne : b9 ≠ b4 := by have := hm4.lt; omega
    replace hb9 := hG.base hb9
    replace hG := hG.trans hG'
    replace hS := hG'.sub
    replace hm9 : Mut H w b9 Zp := hm9
    replace hm4 := hm4.grow hG'
    clear hG'
    skip
    refine S_op0 ?_
    refine W_storeM (b := b9) (o := 0) (vs := [.slice A1 a1 c1, .slice B1 b1 d1]) (by rfl) (by rfl) hm9 (by rfl) (two_one rfl rfl) (by rfl) (Nat.le_refl 2) ?_
    intro w hg3 hm3
    replace hm4 := hm4.other hg3 (fun e => hne (by cases e; rfl))
    replace hG := grown_own hG hg3 hm9 hb9
    replace hS := hG.sub
    replace hm9 : Mut H w b9 [.slice A1 a1 c1, .slice B1 b1 d1] := hm3
    clear hm3 hg3
    rw [← hu1, ← hu2] at hm9 hp
    (refine S_nil ?_; refine CW_seq ?_; refine CW_region rfl ?_; refine S_op ?_; refine W_moveInt (by first | rfl | assumption) ?_; refine S_op ?_; refine W_moveInt (by first | rfl | assumption) ?_; refine S_op ?_; refine W_add1 (by first | rfl | assumption) (by omega) ?_; refine S_op ?_; refine W_assignInt (by first | rfl | assumption) ?_; refine S_op ?_; refine W_assignInt (by first | rfl | assumption) ?_; refine S_nil ?_; refine CW_seq ?_; refine CW_seq ?_; refine CW_region rfl ?_)
    refine S_op ?_
    refine W_loadMAgg (s := 2) (vs := [u1, u2]) (by rfl) hm9 (by rfl) (by rfl) ?_
    skip
    (refine S_op ?_; refine W_call hS (by rfl) (part_size hp (by omega)) ?_); rintro v H w hG' rfl; replace hG := hG.trans hG'; replace hS := hG'.sub; replace hx := hx.mono hG'.le; replace hsl := hsl.mono hG'.le; replace hrow := hrow.mono hG'.le; replace hp := hp.mono hG'.le; replace hm4 := hm4.grow hG'; replace hm9 := hm9.grow hG'; clear hG'
    (refine S_op ?_; refine W_movePtr (by first | rfl | assumption) ?_)
    (refine S_op ?_; refine W_call hS (by rfl) (height_c hx) ?_); rintro v H w hG' rfl; replace hG := hG.trans hG'; replace hS := hG'.sub; replace hx := hx.mono hG'.le; replace hsl := hsl.mono hG'.le; replace hrow := hrow.mono hG'.le; replace hp := hp.mono hG'.le; replace hm4 := hm4.grow hG'; replace hm9 := hm9.grow hG'; clear hG'
    (refine S_op ?_; refine W_sub1 (by first | rfl | assumption) (by omega) (by omega) ?_)
    (refine S_op ?_; refine W_call hS (by rfl) (least_c H (h + 1 + 1 - 1)) ?_); rintro v H w hG' rfl; replace hG := hG.trans hG'; replace hS := hG'.sub; replace hx := hx.mono hG'.le; replace hsl := hsl.mono hG'.le; replace hrow := hrow.mono hG'.le; replace hp := hp.mono hG'.le; replace hm4 := hm4.grow hG'; replace hm9 := hm9.grow hG'; clear hG'
    rw [show (if h + 1 + 1 - 1 = 1 then 2 else 3) = lowN h by unfold lowN; simp]
    have hka : AllAt H h a := fun k hk => hx.kids k (by rw [h1]; simp [hk])
    have hkb : AllAt H h b := fun k hk => hx.kids k (by rw [h1]; simp [hk])
    obtain ⟨Q, hQ⟩ : ∃ Q : Nat → Prop, Q = fun b => b ∈ N ∨ b ∈ Nd.blocks (h + 1) x := ⟨_, rfl⟩
    have hbx : ∀ k ∈ x.kids, ∀ b ∈ Nd.blocks h k, Q b := by
      intro k hk b hb
      rw [hQ]
      simp only [Nd.blocks, List.mem_cons, List.mem_flatMap]
      exact .inr (.inr ⟨k, hk, hb⟩)
    replace hp := hp.wider (Q' := Q) (fun b hb => by
      rcases hb with hb | hb
      · rw [hQ]; exact .inl hb
      · exact hbx m hmm b hb)
    by_cases hlow : lowN h ≤ n
    · obtain ⟨pre, hpre⟩ : ∃ l, l = a := ⟨_, rfl⟩
      obtain ⟨post, hpost⟩ : ∃ l, l = b := ⟨_, rfl⟩
      have hlow' := hlow
      have hfrom : a.length = pre.length := by rw [hpre]
      have hto : x.kids.length - (a.length + 1) = post.length := by rw [hpost]; omega
      have hs1 : SlAt H B (pre.map Nd.ptr) := by have := SlAt.take hsl a.length; rw [h1] at this; rw [hpre]; simpa using this
      have hs2 : SlAt H (slAddr B d (a.length + 1) 1) (post.map Nd.ptr) := by
        have := SlAt.drop (l := a.length + 1) (sz := 1) hsl (by simp) hd
        rw [Nat.mul_one, ← List.map_drop, h1] at this
        rw [hpost]
        simpa using this
      have hkpre : AllAt H h pre := by rw [hpre]; exact hka
      have hkpost : AllAt H h post := by rw [hpost]; exact hkb
      have hprem : ∀ k ∈ pre, k ∈ x.kids := by intro k hk; rw [hpre] at hk; rw [h1]; simp [hk]
      have hpostm : ∀ k ∈ post, k ∈ x.kids := by intro k hk; rw [hpost] at hk; rw [h1]; simp [hk]
      obtain ⟨its, hits0⟩ : ∃ l, l = withoutL (Nd.items h m) key := ⟨_, rfl⟩
      have hits : pre.flatMap (Nd.items h) ++ its ++ post.flatMap (Nd.items h) = withoutL (Nd.items (h + 1) x) key := by rw [hwk, hits0, hpre, hpost]
      rw [← hits0] at hp
      rw [← hits] at hrw how
      have hr := (rise_parts hrw).2.1
      have ho : ∀ e ∈ its, entOk e = true := fun e he => how e (by simp [he])
      have hn8 : n ≤ 8 := by omega
      have hone : n ≤ highN h := by omega
      have hn1 : (if h = 0 then 1 else 2) ≤ n := by split <;> omega
      (refine S_op ?_; refine W_lssF (by first | rfl | assumption) (by first | rfl | assumption) (by first | omega | rfl) ?_; refine S_nil ?_; refine CW_false (by first | rfl | assumption) ?_; refine CW_skip ?_; refine CW_seq ?_)
      apply CW_region_eff (fun H w => Mut H w b4 Zp ∧ Mut H w b9 [u1, u2]) (DelF b4 b9 Q H h its n pre post [u1, u2]) 0 [_, _, _, _, _, _, _, _, _, _, _, _] [none, none, none, none, none, none, none, none, none, none, none, some 0] [some 66, some 67, some 68, some 69, some 70, some 71, some 72, some 73, some 74, some 75, some 76, none] [66, 67, 68, 69, 70, 71, 72, 73, 74, 75, 76] mixed rfl rfl rfl rfl (by decide) rfl rfl rfl (by assumption)
      · exact ⟨hm4, hm9⟩
      · exact (closedMut b4 _).and (closedMut b9 _)
      · exact closedDelF _ _ _ _ _ _ _ _ _ _
      · ((apply steps_cons; case h1 => (apply A_pure; intro c u H' w' hG; have hS' := hG.sub; have hS2' := hG.subOld; (repeat (first | refine depGo_eq rfl rfl rfl ?_ | (refine depGo_fact rfl rfl rfl ?_; intro v hv) | refine depGo_skip rfl ?_ | refine depGo_none rfl ?_)); apply Pure1.mk; intro K hk; exact W_moveSl (by first | rfl | assumption) hk)); (apply steps_cons; case h1 => (apply A_pure; intro c u H' w' hG; have hS' := hG.sub; have hS2' := hG.subOld; (repeat (first | refine depGo_eq rfl rfl rfl ?_ | (refine depGo_fact rfl rfl rfl ?_; intro v hv) | refine depGo_skip rfl ?_ | refine depGo_none rfl ?_)); apply Pure1.mk; intro K hk; exact W_moveInt (by first | rfl | assumption) hk)); (apply steps_cons; case h1 => (apply A_pure; intro c u H' w' hG; have hS' := hG.sub; have hS2' := hG.subOld; (repeat (first | refine depGo_eq rfl rfl rfl ?_ | (refine depGo_fact rfl rfl rfl ?_; intro v hv) | refine depGo_skip rfl ?_ | refine depGo_none rfl ?_)); apply Pure1.mk; intro K hk; exact W_sliceHi (by first | rfl | assumption) (by first | rfl | assumption) (by omega) hk)))
        apply steps_cons
        · refine A_pure (val := .agg #[u1, u2]) ?_
          intro c u H' w' hG'
          (repeat (first | refine depGo_eq rfl rfl rfl ?_ | (refine depGo_fact rfl rfl rfl ?_; intro v hv) | refine depGo_skip rfl ?_ | refine depGo_none rfl ?_))
          have hm' : Mut H' w' b9 [u1, u2] := by
            by_cases hc : c ≤ 0
            · exact (hG'.m hc).2
            · exact (hG'.f (by omega)).2
          apply Pure1.mk
          intro K hk
          exact W_loadMAgg (s := 2) (vs := [u1, u2]) (by rfl) hm' (by rfl) (by rfl) hk
        (apply steps_cons; case h1 => (refine A_fact (φ := (fun v H3 => ∃ out, NdsAt H3 h v out ∧ PartNodes H Q h its n out)) ?_; intro c' u H' w' hG; have hS' := hG.sub; (repeat (first | refine depGo_eq rfl rfl rfl ?_ | (refine depGo_fact rfl rfl rfl ?_; intro v hv) | refine depGo_skip rfl ?_ | refine depGo_none rfl ?_)); refine depGo_nil ?_; refine W_call hS' (by rfl) (part_nodes (hp.mono hG.le) hr ho hn1 hn8 (by omega)) ?_; intro v H3 w3 hG3 hr; exact ⟨H3, hG3.le, hG.trans hG3, fun H'' hle => (by
            obtain ⟨out, q1, q2⟩ := hr
            exact ⟨out, q1.mono hle, q2.old hG.le⟩)⟩))
        ((apply steps_cons; case h1 => (apply A_pure; intro c u H' w' hG; have hS' := hG.sub; have hS2' := hG.subOld; (repeat (first | refine depGo_eq rfl rfl rfl ?_ | (refine depGo_fact rfl rfl rfl ?_; intro v hv) | refine depGo_skip rfl ?_ | refine depGo_none rfl ?_)); apply Pure1.mk; intro K hk; exact W_moveSl (by first | rfl | assumption) hk)); (apply steps_cons; case h1 => (apply A_pure; intro c u H' w' hG; have hS' := hG.sub; have hS2' := hG.subOld; (repeat (first | refine depGo_eq rfl rfl rfl ?_ | (refine depGo_fact rfl rfl rfl ?_; intro v hv) | refine depGo_skip rfl ?_ | refine depGo_none rfl ?_)); apply Pure1.mk; intro K hk; exact W_moveInt (by first | rfl | assumption) hk)); (apply steps_cons; case h1 => (apply A_pure; intro c u H' w' hG; have hS' := hG.sub; have hS2' := hG.subOld; (repeat (first | refine depGo_eq rfl rfl rfl ?_ | (refine depGo_fact rfl rfl rfl ?_; intro v hv) | refine depGo_skip rfl ?_ | refine depGo_none rfl ?_)); apply Pure1.mk; intro K hk; exact W_sliceLo (by first | rfl | assumption) (by first | rfl | assumption) (by omega) hk)))
        apply steps_cons
        · refine A_fact (φ := fun v H3 => ∃ out, IsCat 1 v 3 (pre.length + (out.length + post.length)) (pre.map Nd.ptr ++ (out.map Nd.ptr ++ post.map Nd.ptr)) H3 ∧ AllAt H3 h out ∧ PartNodes H Q h its n out) ?_
          intro c' u H' w' hG'
          have hS' := hG'.sub
          (repeat (first | refine depGo_eq rfl rfl rfl ?_ | (refine depGo_fact rfl rfl rfl ?_; intro v hv) | refine depGo_skip rfl ?_ | refine depGo_none rfl ?_))
          obtain ⟨out, ⟨B2, d2, rfl, hd2, hsl2, hk2⟩, hpn⟩ := hv
          have i1 : IsSl 1 (.slice B (a.length) d) pre.length (pre.map Nd.ptr) H' := ⟨B, d, by rw [hfrom], by omega, hs1.mono hG'.le, by simp⟩
          have i2 : IsSl 1 (.slice B2 out.length d2) out.length (out.map Nd.ptr) H' := ⟨B2, d2, rfl, hd2, hsl2, by simp⟩
          have i3 : IsSl 1 (.slice (slAddr B d (a.length + 1) 1) (x.kids.length - (a.length + 1)) (d - (a.length + 1))) post.length (post.map Nd.ptr) H' := ⟨_, _, by rw [hto], by omega, hs2.mono hG'.le, by simp⟩
          refine depGo_nil ?_
          refine W_buildOnes hS' (by omega) (by rfl) (by rfl) ?_
          intro H3 w3 g hG3 hb3 _ _
          exact ⟨H3, hG3.le, hG'.trans hG3, fun H'' hle => ⟨out, (isCat3 hb3 hG3.le i1 i2 i3 (ptr_one _) (ptr_one _) (ptr_one _)).mono hle, (hk2.mono hG3.le).mono hle, hpn⟩⟩
        (apply steps_cons; case h1 => (refine A_fact (φ := (fun v H3 => ∃ out, NdsAt H3 h v (pre ++ out ++ post) ∧ PartNodes H Q h its n out)) ?_; intro c' u H' w' hG'; have hS' := hG'.sub; (repeat (first | refine depGo_eq rfl rfl rfl ?_ | (refine depGo_fact rfl rfl rfl ?_; intro v hv) | refine depGo_skip rfl ?_ | refine depGo_none rfl ?_)); rename_i v1 hv1; obtain ⟨out, hcat, hk2, hpn⟩ := hv1; refine depGo_nil ?_; refine W_call hS' (by rfl) ((have hsn := hpn.len; cat_Node H' _ _ _ _ hcat (by omega) (by omega))) ?_; intro v H3 w3 hG3 hr; exact ⟨H3, hG3.le, hG'.trans hG3, fun H'' hle => ⟨out, nds_of (by
            have e1 : (pre ++ out ++ post).length = pre.length + (out.length + post.length) := by rw [List.length_append, List.length_append]; omega
            rw [e1, List.map_append, List.map_append, List.append_assoc]; exact hr.mono hle) (((hkpre.mono hG'.le).append hk2).append (hkpost.mono hG'.le) |>.mono hG3.le |>.mono hle), hpn⟩⟩))
        apply steps_cons
        · refine A_fact (φ := fun v H3 => ∃ out, PtAt H3 h v [] (pre ++ out ++ post) ∧ PartNodes H Q h its n out) ?_
          intro c' u H' w' hG'
          have hS' := hG'.sub
          (repeat (first | refine depGo_eq rfl rfl rfl ?_ | (refine depGo_fact rfl rfl rfl ?_; intro v hv) | refine depGo_skip rfl ?_ | refine depGo_none rfl ?_))
          obtain ⟨out, ⟨B2, d2, rfl, hd2, hsl2, hk2⟩, hpn⟩ := hv
          refine depGo_nil ?_
          refine W_build (by rfl) ?_
          exact ⟨H', HLe.refl _, hG', fun H'' hle => ⟨out, ⟨none, 0, B2, d2, rfl, Nat.le_refl _, hd2, .inl rfl, hsl2.mono hle, hk2.mono hle⟩, hpn⟩⟩
        apply steps_cons
        · refine A_eff (φ := fun _ _ => True) ?_
          intro u' H' w' hG'
          (repeat (first | refine depGo_eq rfl rfl rfl ?_ | (refine depGo_fact rfl rfl rfl ?_; intro v hv) | refine depGo_skip rfl ?_ | refine depGo_none rfl ?_))
          obtain ⟨out, ⟨A3, c3, B3, d3, rfl, r1, r2, r4, r5, r6⟩, hpn⟩ := hv
          refine depGo_nil ?_
          obtain ⟨hm4', hm9'⟩ := hG'.m (Nat.le_refl _)
          refine W_storeM (b := b4) (o := 0) (vs := [.slice A3 ([] : List Ent).length c3, .slice B3 (pre ++ out ++ post).length d3]) (by rfl) (by rfl) hm4' (by rfl) (two_one rfl rfl) (by rfl) (Nat.le_refl 2) ?_
          intro w3 hg3 hm3
          exact ⟨H', HLe.refl _, hG'.next (grown_own hG'.grow hg3 hm4' hb4) ⟨⟨out, _, _, hm3, ⟨A3, c3, B3, d3, rfl, r1, r2, r4, r5, r6⟩, hpn⟩, hm9'.other hg3 (fun e => hne (by cases e; rfl))⟩, fun _ _ => trivial⟩
        exact trivial
      · intro H' w' hG' hle' hF
        (repeat (first | refine fin_eq rfl rfl ?_ | (refine fin_fact rfl ?_; intro v hv) | refine fin_none rfl ?_)); refine fin_nil ?_
        (refine CW_ret ?_)
        obtain ⟨⟨out, v1, v2, hm', hpt, hpn⟩, _⟩ := hF
        have hlo := hpn.len
        refine ⟨_, ResW_cell (cs := [v1, v2]) rfl hm' rfl, H', hG', pre.length + out.length + post.length, out.map Nd.blk ++ N, by simp; omega, (del_kids hpt hf hprem hpostm hpn hlow' hits hbx).wider (fun b hb => ?_), ?_, ?_⟩
        · rcases hb with hb | hb
          · exact .inl (List.mem_append_left _ hb)
          · rw [hQ] at hb
            rcases hb with hb | hb
            · exact .inl (List.mem_append_right _ hb)
            · exact .inr hb
        · show _ ≤ x.kids.length
          have := hpn.one hone; omega
        · show x.kids.length ≤ _
          have := hpn.one hone; omega
    · by_cases ha : 0 < a.length
      · obtain ⟨L, s, hLs⟩ := last_split ha
        have hal : a.length = L.length + 1 := by rw [hLs]; simp
        have hsk : s ∈ x.kids := by rw [h1, hLs]; simp
        have hats : NodeAt H h s := hx.kids s hsk
        have hfs := Nd.full_kids hf s hsk
        have hes := enough_iff.1 hfs.1
        have hss := size_le hats.ok
        have hgets : (x.kids.map Nd.ptr)[(a.length - 1) * 1]? = some s.ptr := by rw [h1, hLs]; simp
        have hq2 : a.length - 1 < x.kids.length := by omega
        (refine S_op ?_; refine W_lssT (by first | rfl | assumption) (by first | rfl | assumption) (by first | omega | rfl) ?_; refine S_nil ?_; refine CW_true (by first | rfl | assumption) ?_; refine CW_seq ?_; refine CW_region rfl ?_; refine S_op ?_; refine W_moveInt (by first | rfl | assumption) ?_; refine S_op ?_; refine W_gtrT (by first | rfl | assumption) (by first | rfl | assumption) (by first | omega | rfl) ?_; refine S_nil ?_; refine CW_true (by first | rfl | assumption) ?_; refine CW_seq ?_; refine CW_region rfl ?_; refine S_op ?_; refine W_moveInt (by first | rfl | assumption) ?_; refine S_op ?_; refine W_sub1 (by first | rfl | assumption) (by omega) (by omega) ?_; refine S_op ?_; refine W_assignInt (by first | rfl | assumption) ?_; refine S_nil ?_)
        apply CW_region_eff (fun H w => Mut H w b4 Zp ∧ Mut H w b9 [u1, u2]) (DelL b4 b9 Q h (Nd.items h s ++ withoutL (Nd.items h m) key) (Nd.size h s + n)) 1 [_, _, _, _, _, _, _, _] [none, none, none, none, none, some 0, none, some 1] [some 49, some 50, some 51, some 52, some 53, some 54, some 55, none] [49, 50, 51, 52, 53, 54, 55] mixed rfl rfl rfl rfl (by decide) rfl rfl rfl (by assumption)
        · exact ⟨hm4, hm9⟩
        · exact (closedMut b4 _).and (closedMut b9 _)
        · exact closedDelL _ _ _ _ _ _
        · ((apply steps_cons; case h1 => (apply A_pure; intro c u H' w' hG; have hS' := hG.sub; have hS2' := hG.subOld; (repeat (first | refine depGo_eq rfl rfl rfl ?_ | (refine depGo_fact rfl rfl rfl ?_; intro v hv) | refine depGo_skip rfl ?_ | refine depGo_none rfl ?_)); apply Pure1.mk; intro K hk; exact W_moveSl (by first | rfl | assumption) hk)); (apply steps_cons; case h1 => (apply A_pure; intro c u H' w' hG; have hS' := hG.sub; have hS2' := hG.subOld; (repeat (first | refine depGo_eq rfl rfl rfl ?_ | (refine depGo_fact rfl rfl rfl ?_; intro v hv) | refine depGo_skip rfl ?_ | refine depGo_none rfl ?_)); apply Pure1.mk; intro K hk; exact W_moveInt (by first | rfl | assumption) hk)); (apply steps_cons; case h1 => (apply A_pure; intro c u H' w' hG; have hS' := hG.sub; have hS2' := hG.subOld; (repeat (first | refine depGo_eq rfl rfl rfl ?_ | (refine depGo_fact rfl rfl rfl ?_; intro v hv) | refine depGo_skip rfl ?_ | refine depGo_none rfl ?_)); apply Pure1.mk; intro K hk; exact W_index (by first | rfl | assumption) (by first | rfl | assumption) (by first | assumption | omega | decide) (by first | rfl | assumption) hk)))
          apply steps_cons; case h1 => (apply A_pure; intro c u H' w' hG'; have hS2' := hG'.subOld; (repeat (first | refine depGo_eq rfl rfl rfl ?_ | (refine depGo_fact rfl rfl rfl ?_; intro v hv) | refine depGo_skip rfl ?_ | refine depGo_none rfl ?_)); apply Pure1.mk; intro K hk; exact W_loadRow (j := (a.length - 1) * 1) (by rfl) hrow hgets hS2' hk)
          (apply steps_cons; case h1 => (refine A_fact (φ := (fun v H3 => IsPart H3 Q h v (Nd.items h s) (Nd.size h s))) ?_; intro c' u H' w' hG; have hS' := hG.sub; (repeat (first | refine depGo_eq rfl rfl rfl ?_ | (refine depGo_fact rfl rfl rfl ?_; intro v hv) | refine depGo_skip rfl ?_ | refine depGo_none rfl ?_)); refine depGo_nil ?_; refine W_call hS' (by rfl) (part_of (hats.mono hG.le) hfs.2 (hbx s hsk)) ?_; intro v H3 w3 hG3 hr; exact ⟨H3, hG3.le, hG.trans hG3, fun H'' hle => hr.mono hle⟩))
          apply steps_cons
          · refine A_eff (φ := fun v _ => v = .agg #[u1, u2]) ?_
            intro u' H' w' hG'
            (repeat (first | refine depGo_eq rfl rfl rfl ?_ | (refine depGo_fact rfl rfl rfl ?_; intro v hv) | refine depGo_skip rfl ?_ | refine depGo_none rfl ?_))
            refine depGo_nil ?_
            refine W_loadMAgg (s := 2) (vs := [u1, u2]) (by rfl) (hG'.m (by omega)).2 (by rfl) (by rfl) ?_
            exact ⟨H', HLe.refl _, hG'.pass (by omega), fun _ _ => rfl⟩
          (apply steps_cons; case h1 => (refine A_fact (φ := (fun v H3 => IsPart H3 Q h v (Nd.items h s ++ withoutL (Nd.items h m) key) (Nd.size h s + n))) ?_; intro c' u H' w' hG'; have hS' := hG'.sub; (repeat (first | refine depGo_eq rfl rfl rfl ?_ | (refine depGo_fact rfl rfl rfl ?_; intro v hv) | refine depGo_skip rfl ?_ | refine depGo_none rfl ?_)); have hps := hv; refine depGo_nil ?_; refine W_call hS' (by rfl) (part_with hps (hp.mono hG'.le) (by omega) (by omega)) ?_; intro v H3 w3 hG3 hr; exact ⟨H3, hG3.le, hG'.trans hG3, fun H'' hle => hr.mono hle⟩))
          apply steps_cons
          · refine A_eff (φ := fun _ _ => True) ?_
            intro u' H' w' hG'
            (repeat (first | refine depGo_eq rfl rfl rfl ?_ | (refine depGo_fact rfl rfl rfl ?_; intro v hv) | refine depGo_skip rfl ?_ | refine depGo_none rfl ?_))
            have hv : IsPart H' Q h v _ _ := hv
            obtain ⟨A3, a3, c3, B3, b3, d3, hve⟩ := hv.agg
            subst hve
            refine depGo_nil ?_
            obtain ⟨hm4', hm9'⟩ := hG'.m (Nat.le_refl _)
            refine W_storeM (b := b9) (o := 0) (vs := [.slice A3 a3 c3, .slice B3 b3 d3]) (by rfl) (by rfl) hm9' (by rfl) (two_one rfl rfl) (by rfl) (Nat.le_refl 2) ?_
            intro w3 hg3 hm3
            exact ⟨H', HLe.refl _, hG'.next (grown_own hG'.grow hg3 hm9' hb9) ⟨hm4'.other hg3 (fun e => hne (by cases e; rfl)), _, _, hm3, hv⟩, fun _ _ => trivial⟩
          exact trivial
        · skip
          intro H w hG hle' hF
          (repeat (first | refine fin_eq rfl rfl ?_ | (refine fin_fact rfl ?_; intro v hv) | refine fin_none rfl ?_)); refine fin_nil ?_
          obtain ⟨hm4, u1, u2, hm9, hp⟩ := hF
          obtain ⟨n', hnn⟩ : ∃ k, k = Nd.size h s + n := ⟨_, rfl⟩
          rw [← hnn] at hp
          replace hS := hG.sub
          replace hsl := hsl.mono hle'
          replace hka := hka.mono hle'
          replace hkb := hkb.mono hle'
          obtain ⟨pre, hpre⟩ : ∃ l, l = L := ⟨_, rfl⟩
          obtain ⟨post, hpost⟩ : ∃ l, l = b := ⟨_, rfl⟩
          obtain ⟨its, hits0⟩ : ∃ l, l = Nd.items h s ++ withoutL (Nd.items h m) key := ⟨_, rfl⟩
          have hits : pre.flatMap (Nd.items h) ++ its ++ post.flatMap (Nd.items h) = withoutL (Nd.items (h + 1) x) key := by rw [hwk, hits0, hpre, hpost, hLs]; simp
          have hfrom : a.length - 1 = pre.length := by rw [hpre]; omega
          have hto : x.kids.length - (a.length + 1) = post.length := by rw [hpost]; omega
          have hs1 : SlAt H B (pre.map Nd.ptr) := by have := SlAt.take hsl L.length; rw [h1, hLs] at this; rw [hpre]; simpa using this
          have hs2 : SlAt H (slAddr B d (a.length + 1) 1) (post.map Nd.ptr) := by
            have := SlAt.drop (l := a.length + 1) (sz := 1) hsl (by simp) hd
            rw [Nat.mul_one, ← List.map_drop, h1] at this
            rw [hpost]
            simpa using this
          have hkpre : AllAt H h pre := by rw [hpre]; intro k hk; exact hka k (by rw [hLs]; simp [hk])
          have hkpost : AllAt H h post := by rw [hpost]; exact hkb
          have hprem : ∀ k ∈ pre, k ∈ x.kids := by intro k hk; rw [hpre] at hk; rw [h1, hLs]; simp [hk]
          have hpostm : ∀ k ∈ post, k ∈ x.kids := by intro k hk; rw [hpost] at hk; rw [h1]; simp [hk]
          rw [← hits0] at hp
          rw [← hits] at hrw how
          have hr := (rise_parts hrw).2.1
          have ho : ∀ e ∈ its, entOk e = true := fun e he => how e (by simp [he])
          have hlow' : lowN h ≤ n' := by omega
          have hn8 : n' ≤ 8 := by omega
          have hn1 : (if h = 0 then 1 else 2) ≤ n' := by split <;> omega
          obtain ⟨n, hn⟩ : ∃ k, k = n' := ⟨_, rfl⟩
          rw [← hn] at hp hlow' hn8 hn1
          (refine CW_seq ?_)
          apply CW_region_eff (fun H w => Mut H w b4 Zp ∧ Mut H w b9 [u1, u2]) (DelF b4 b9 Q H h its n pre post [u1, u2]) 0 [_, _, _, _, _, _, _, _, _, _, _, _] [none, none, none, none, none, none, none, none, none, none, none, some 0] [some 66, some 67, some 68, some 69, some 70, some 71, some 72, some 73, some 74, some 75, some 76, none] [66, 67, 68, 69, 70, 71, 72, 73, 74, 75, 76] mixed rfl rfl rfl rfl (by decide) rfl rfl rfl (by assumption)
          · exact ⟨hm4, hm9⟩
          · exact (closedMut b4 _).and (closedMut b9 _)
          · exact closedDelF _ _ _ _ _ _ _ _ _ _
          · ((apply steps_cons; case h1 => (apply A_pure; intro c u H' w' hG; have hS' := hG.sub; have hS2' := hG.subOld; (repeat (first | refine depGo_eq rfl rfl rfl ?_ | (refine depGo_fact rfl rfl rfl ?_; intro v hv) | refine depGo_skip rfl ?_ | refine depGo_none rfl ?_)); apply Pure1.mk; intro K hk; exact W_moveSl (by first | rfl | assumption) hk)); (apply steps_cons; case h1 => (apply A_pure; intro c u H' w' hG; have hS' := hG.sub; have hS2' := hG.subOld; (repeat (first | refine depGo_eq rfl rfl rfl ?_ | (refine depGo_fact rfl rfl rfl ?_; intro v hv) | refine depGo_skip rfl ?_ | refine depGo_none rfl ?_)); apply Pure1.mk; intro K hk; exact W_moveInt (by first | rfl | assumption) hk)); (apply steps_cons; case h1 => (apply A_pure; intro c u H' w' hG; have hS' := hG.sub; have hS2' := hG.subOld; (repeat (first | refine depGo_eq rfl rfl rfl ?_ | (refine depGo_fact rfl rfl rfl ?_; intro v hv) | refine depGo_skip rfl ?_ | refine depGo_none rfl ?_)); apply Pure1.mk; intro K hk; exact W_sliceHi (by first | rfl | assumption) (by first | rfl | assumption) (by omega) hk)))
            apply steps_cons
            · refine A_pure (val := .agg #[u1, u2]) ?_
              intro c u H' w' hG'
              (repeat (first | refine depGo_eq rfl rfl rfl ?_ | (refine depGo_fact rfl rfl rfl ?_; intro v hv) | refine depGo_skip rfl ?_ | refine depGo_none rfl ?_))
              have hm' : Mut H' w' b9 [u1, u2] := by
                by_cases hc : c ≤ 0
                · exact (hG'.m hc).2
                · exact (hG'.f (by omega)).2
              apply Pure1.mk
              intro K hk
              exact W_loadMAgg (s := 2) (vs := [u1, u2]) (by rfl) hm' (by rfl) (by rfl) hk
            (apply steps_cons; case h1 => (refine A_fact (φ := (fun v H3 => ∃ out, NdsAt H3 h v out ∧ PartNodes H Q h its n out)) ?_; intro c' u H' w' hG; have hS' := hG.sub; (repeat (first | refine depGo_eq rfl rfl rfl ?_ | (refine depGo_fact rfl rfl rfl ?_; intro v hv) | refine depGo_skip rfl ?_ | refine depGo_none rfl ?_)); refine depGo_nil ?_; refine W_call hS' (by rfl) (part_nodes (hp.mono hG.le) hr ho hn1 hn8 (by omega)) ?_; intro v H3 w3 hG3 hr; exact ⟨H3, hG3.le, hG.trans hG3, fun H'' hle => (by
                obtain ⟨out, q1, q2⟩ := hr
                exact ⟨out, q1.mono hle, q2.old hG.le⟩)⟩))
            ((apply steps_cons; case h1 => (apply A_pure; intro c u H' w' hG; have hS' := hG.sub; have hS2' := hG.subOld; (repeat (first | refine depGo_eq rfl rfl rfl ?_ | (refine depGo_fact rfl rfl rfl ?_; intro v hv) | refine depGo_skip rfl ?_ | refine depGo_none rfl ?_)); apply Pure1.mk; intro K hk; exact W_moveSl (by first | rfl | assumption) hk)); (apply steps_cons; case h1 => (apply A_pure; intro c u H' w' hG; have hS' := hG.sub; have hS2' := hG.subOld; (repeat (first | refine depGo_eq rfl rfl rfl ?_ | (refine depGo_fact rfl rfl rfl ?_; intro v hv) | refine depGo_skip rfl ?_ | refine depGo_none rfl ?_)); apply Pure1.mk; intro K hk; exact W_moveInt (by first | rfl | assumption) hk)); (apply steps_cons; case h1 => (apply A_pure; intro c u H' w' hG; have hS' := hG.sub; have hS2' := hG.subOld; (repeat (first | refine depGo_eq rfl rfl rfl ?_ | (refine depGo_fact rfl rfl rfl ?_; intro v hv) | refine depGo_skip rfl ?_ | refine depGo_none rfl ?_)); apply Pure1.mk; intro K hk; exact W_sliceLo (by first | rfl | assumption) (by first | rfl | assumption) (by omega) hk)))
            apply steps_cons
            · refine A_fact (φ := fun v H3 => ∃ out, IsCat 1 v 3 (pre.length + (out.length + post.length)) (pre.map Nd.ptr ++ (out.map Nd.ptr ++ post.map Nd.ptr)) H3 ∧ AllAt H3 h out ∧ PartNodes H Q h its n out) ?_
              intro c' u H' w' hG'
              have hS' := hG'.sub
              (repeat (first | refine depGo_eq rfl rfl rfl ?_ | (refine depGo_fact rfl rfl rfl ?_; intro v hv) | refine depGo_skip rfl ?_ | refine depGo_none rfl ?_))
              obtain ⟨out, ⟨B2, d2, rfl, hd2, hsl2, hk2⟩, hpn⟩ := hv
              have i1 : IsSl 1 (.slice B (a.length - 1) d) pre.length (pre.map Nd.ptr) H' := ⟨B, d, by rw [hfrom], by omega, hs1.mono hG'.le, by simp⟩
              have i2 : IsSl 1 (.slice B2 out.length d2) out.length (out.map Nd.ptr) H' := ⟨B2, d2, rfl, hd2, hsl2, by simp⟩
              have i3 : IsSl 1 (.slice (slAddr B d (a.length + 1) 1) (x.kids.length - (a.length + 1)) (d - (a.length + 1))) post.length (post.map Nd.ptr) H' := ⟨_, _, by rw [hto], by omega, hs2.mono hG'.le, by simp⟩
              refine depGo_nil ?_
              refine W_buildOnes hS' (by omega) (by rfl) (by rfl) ?_
              intro H3 w3 g hG3 hb3 _ _
              exact ⟨H3, hG3.le, hG'.trans hG3, fun H'' hle => ⟨out, (isCat3 hb3 hG3.le i1 i2 i3 (ptr_one _) (ptr_one _) (ptr_one _)).mono hle, (hk2.mono hG3.le).mono hle, hpn⟩⟩
            (apply steps_cons; case h1 => (refine A_fact (φ := (fun v H3 => ∃ out, NdsAt H3 h v (pre ++ out ++ post) ∧ PartNodes H Q h its n out)) ?_; intro c' u H' w' hG'; have hS' := hG'.sub; (repeat (first | refine depGo_eq rfl rfl rfl ?_ | (refine depGo_fact rfl rfl rfl ?_; intro v hv) | refine depGo_skip rfl ?_ | refine depGo_none rfl ?_)); rename_i v1 hv1; obtain ⟨out, hcat, hk2, hpn⟩ := hv1; refine depGo_nil ?_; refine W_call hS' (by rfl) ((have hsn := hpn.len; cat_Node H' _ _ _ _ hcat (by omega) (by omega))) ?_; intro v H3 w3 hG3 hr; exact ⟨H3, hG3.le, hG'.trans hG3, fun H'' hle => ⟨out, nds_of (by
                have e1 : (pre ++ out ++ post).length = pre.length + (out.length + post.length) := by rw [List.length_append, List.length_append]; omega
                rw [e1, List.map_append, List.map_append, List.append_assoc]; exact hr.mono hle) (((hkpre.mono hG'.le).append hk2).append (hkpost.mono hG'.le) |>.mono hG3.le |>.mono hle), hpn⟩⟩))
            apply steps_cons
            · refine A_fact (φ := fun v H3 => ∃ out, PtAt H3 h v [] (pre ++ out ++ post) ∧ PartNodes H Q h its n out) ?_
              intro c' u H' w' hG'
              have hS' := hG'.sub
              (repeat (first | refine depGo_eq rfl rfl rfl ?_ | (refine depGo_fact rfl rfl rfl ?_; intro v hv) | refine depGo_skip rfl ?_ | refine depGo_none rfl ?_))
              obtain ⟨out, ⟨B2, d2, rfl, hd2, hsl2, hk2⟩, hpn⟩ := hv
              refine depGo_nil ?_
              refine W_build (by rfl) ?_
              exact ⟨H', HLe.refl _, hG', fun H'' hle => ⟨out, ⟨none, 0, B2, d2, rfl, Nat.le_refl _, hd2, .inl rfl, hsl2.mono hle, hk2.mono hle⟩, hpn⟩⟩
            apply steps_cons
            · refine A_eff (φ := fun _ _ => True) ?_
              intro u' H' w' hG'
              (repeat (first | refine depGo_eq rfl rfl rfl ?_ | (refine depGo_fact rfl rfl rfl ?_; intro v hv) | refine depGo_skip rfl ?_ | refine depGo_none rfl ?_))
              obtain ⟨out, ⟨A3, c3, B3, d3, rfl, r1, r2, r4, r5, r6⟩, hpn⟩ := hv
              refine depGo_nil ?_
              obtain ⟨hm4', hm9'⟩ := hG'.m (Nat.le_refl _)
              refine W_storeM (b := b4) (o := 0) (vs := [.slice A3 ([] : List Ent).length c3, .slice B3 (pre ++ out ++ post).length d3]) (by rfl) (by rfl) hm4' (by rfl) (two_one rfl rfl) (by rfl) (Nat.le_refl 2) ?_
              intro w3 hg3 hm3
              exact ⟨H', HLe.refl _, hG'.next (grown_own hG'.grow hg3 hm4' hb4) ⟨⟨out, _, _, hm3, ⟨A3, c3, B3, d3, rfl, r1, r2, r4, r5, r6⟩, hpn⟩, hm9'.other hg3 (fun e => hne (by cases e; rfl))⟩, fun _ _ => trivial⟩
            exact trivial
          · intro H' w' hG' hle' hF
            (repeat (first | refine fin_eq rfl rfl ?_ | (refine fin_fact rfl ?_; intro v hv) | refine fin_none rfl ?_)); refine fin_nil ?_
            (refine CW_ret ?_)
            obtain ⟨⟨out, v1, v2, hm', hpt, hpn⟩, _⟩ := hF
            have hlo := hpn.len
            refine ⟨_, ResW_cell (cs := [v1, v2]) rfl hm' rfl, H', hG', pre.length + out.length + post.length, out.map Nd.blk ++ N, by simp; omega, (del_kids hpt hf hprem hpostm hpn hlow' hits hbx).wider (fun b hb => ?_), ?_, ?_⟩
            · rcases hb with hb | hb
              · exact .inl (List.mem_append_left _ hb)
              · rw [hQ] at hb
                rcases hb with hb | hb
                · exact .inl (List.mem_append_right _ hb)
                · exact .inr hb
            · show _ ≤ x.kids.length
              omega
            · show x.kids.length ≤ _
              omega
      · have ha0 : a = [] := List.eq_nil_of_length_eq_zero (by omega)
        have hal : a.length = 0 := by omega
        match b, h1, h4, hxn, hwk, hkb with
        | [], h1, h4, hxn, hwk, hkb => simp at hxn; omega
        | s :: b', h1, h4, hxn, hwk, hkb =>
        have hsk : s ∈ x.kids := by rw [h1]; simp
        have hats : NodeAt H h s := hx.kids s hsk
        have hfs := Nd.full_kids hf s hsk
        have hes := enough_iff.1 hfs.1
        have hss := size_le hats.ok
        have hgets : (x.kids.map Nd.ptr)[(a.length + 1) * 1]? = some s.ptr := by rw [h1, ha0]; simp
        have hxn : x.kids.length = a.length + 1 + (b'.length + 1) := hxn
        have hq2 : a.length + 1 < x.kids.length := by omega
        (refine S_op ?_; refine W_lssT (by first | rfl | assumption) (by first | rfl | assumption) (by first | omega | rfl) ?_; refine S_nil ?_; refine CW_true (by first | rfl | assumption) ?_; refine CW_seq ?_; refine CW_region rfl ?_; refine S_op ?_; refine W_moveInt (by first | rfl | assumption) ?_; refine S_op ?_; refine W_gtrF (by first | rfl | assumption) (by first | rfl | assumption) (by first | omega | rfl) ?_; refine S_nil ?_; refine CW_false (by first | rfl | assumption) ?_; refine CW_seq ?_; refine CW_region rfl ?_; refine S_op ?_; refine W_moveInt (by first | rfl | assumption) ?_; refine S_op ?_; refine W_add2 (by first | rfl | assumption) (by omega) ?_; refine S_op ?_; refine W_assignInt (by first | rfl | assumption) ?_; refine S_nil ?_)
        apply CW_region_eff (fun H w => Mut H w b4 Zp ∧ Mut H w b9 [u1, u2]) (DelL b4 b9 Q h (withoutL (Nd.items h m) key ++ Nd.items h s) (n + Nd.size h s)) 1 [_, _, _, _, _, _, _, _, _] [some 0, none, none, none, none, none, none, none, some 1] [some 58, some 59, some 60, some 61, some 62, some 63, some 64, some 65, none] [58, 59, 60, 61, 62, 63, 64, 65] mixed rfl rfl rfl rfl (by decide) rfl rfl rfl (by assumption)
        · exact ⟨hm4, hm9⟩
        · exact (closedMut b4 _).and (closedMut b9 _)
        · exact closedDelL _ _ _ _ _ _
        · skip
          apply steps_cons
          · refine A_eff (φ := fun v _ => v = .agg #[u1, u2]) ?_
            intro u' H' w' hG'
            (repeat (first | refine depGo_eq rfl rfl rfl ?_ | (refine depGo_fact rfl rfl rfl ?_; intro v hv) | refine depGo_skip rfl ?_ | refine depGo_none rfl ?_))
            refine depGo_nil ?_
            refine W_loadMAgg (s := 2) (vs := [u1, u2]) (by rfl) (hG'.m (by omega)).2 (by rfl) (by rfl) ?_
            exact ⟨H', HLe.refl _, hG'.pass (by omega), fun _ _ => rfl⟩
          ((apply steps_cons; case h1 => (apply A_pure; intro c u H' w' hG; have hS' := hG.sub; have hS2' := hG.subOld; (repeat (first | refine depGo_eq rfl rfl rfl ?_ | (refine depGo_fact rfl rfl rfl ?_; intro v hv) | refine depGo_skip rfl ?_ | refine depGo_none rfl ?_)); apply Pure1.mk; intro K hk; exact W_moveSl (by first | rfl | assumption) hk)); (apply steps_cons; case h1 => (apply A_pure; intro c u H' w' hG; have hS' := hG.sub; have hS2' := hG.subOld; (repeat (first | refine depGo_eq rfl rfl rfl ?_ | (refine depGo_fact rfl rfl rfl ?_; intro v hv) | refine depGo_skip rfl ?_ | refine depGo_none rfl ?_)); apply Pure1.mk; intro K hk; exact W_moveInt (by first | rfl | assumption) hk)); (apply steps_cons; case h1 => (apply A_pure; intro c u H' w' hG; have hS' := hG.sub; have hS2' := hG.subOld; (repeat (first | refine depGo_eq rfl rfl rfl ?_ | (refine depGo_fact rfl rfl rfl ?_; intro v hv) | refine depGo_skip rfl ?_ | refine depGo_none rfl ?_)); apply Pure1.mk; intro K hk; exact W_add1 (by first | rfl | assumption) (by omega) hk)); (apply steps_cons; case h1 => (apply A_pure; intro c u H' w' hG; have hS' := hG.sub; have hS2' := hG.subOld; (repeat (first | refine depGo_eq rfl rfl rfl ?_ | (refine depGo_fact rfl rfl rfl ?_; intro v hv) | refine depGo_skip rfl ?_ | refine depGo_none rfl ?_)); apply Pure1.mk; intro K hk; exact W_index (by first | rfl | assumption) (by first | rfl | assumption) (by first | assumption | omega | decide) (by first | rfl | assumption) hk)))
          apply steps_cons; case h1 => (apply A_pure; intro c u H' w' hG'; have hS2' := hG'.subOld; (repeat (first | refine depGo_eq rfl rfl rfl ?_ | (refine depGo_fact rfl rfl rfl ?_; intro v hv) | refine depGo_skip rfl ?_ | refine depGo_none rfl ?_)); apply Pure1.mk; intro K hk; exact W_loadRow (j := (a.length + 1) * 1) (by rfl) hrow hgets hS2' hk)
          (apply steps_cons; case h1 => (refine A_fact (φ := (fun v H3 => IsPart H3 Q h v (Nd.items h s) (Nd.size h s))) ?_; intro c' u H' w' hG; have hS' := hG.sub; (repeat (first | refine depGo_eq rfl rfl rfl ?_ | (refine depGo_fact rfl rfl rfl ?_; intro v hv) | refine depGo_skip rfl ?_ | refine depGo_none rfl ?_)); refine depGo_nil ?_; refine W_call hS' (by rfl) (part_of (hats.mono hG.le) hfs.2 (hbx s hsk)) ?_; intro v H3 w3 hG3 hr; exact ⟨H3, hG3.le, hG.trans hG3, fun H'' hle => hr.mono hle⟩))
          (apply steps_cons; case h1 => (refine A_fact (φ := (fun v H3 => IsPart H3 Q h v (withoutL (Nd.items h m) key ++ Nd.items h s) (n + Nd.size h s))) ?_; intro c' u H' w' hG'; have hS' := hG'.sub; (repeat (first | refine depGo_eq rfl rfl rfl ?_ | (refine depGo_fact rfl rfl rfl ?_; intro v hv) | refine depGo_skip rfl ?_ | refine depGo_none rfl ?_)); have hps := hv; refine depGo_nil ?_; refine W_call hS' (by rfl) (part_with (hp.mono hG'.le) hps (by omega) (by omega)) ?_; intro v H3 w3 hG3 hr; exact ⟨H3, hG3.le, hG'.trans hG3, fun H'' hle => hr.mono hle⟩))
          apply steps_cons
          · refine A_eff (φ := fun _ _ => True) ?_
            intro u' H' w' hG'
            (repeat (first | refine depGo_eq rfl rfl rfl ?_ | (refine depGo_fact rfl rfl rfl ?_; intro v hv) | refine depGo_skip rfl ?_ | refine depGo_none rfl ?_))
            have hv : IsPart H' Q h v _ _ := hv
            obtain ⟨A3, a3, c3, B3, b3, d3, hve⟩ := hv.agg
            subst hve
            refine depGo_nil ?_
            obtain ⟨hm4', hm9'⟩ := hG'.m (Nat.le_refl _)
            refine W_storeM (b := b9) (o := 0) (vs := [.slice A3 a3 c3, .slice B3 b3 d3]) (by rfl) (by rfl) hm9' (by rfl) (two_one rfl rfl) (by rfl) (Nat.le_refl 2) ?_
            intro w3 hg3 hm3
            exact ⟨H', HLe.refl _, hG'.next (grown_own hG'.grow hg3 hm9' hb9) ⟨hm4'.other hg3 (fun e => hne (by cases e; rfl)), _, _, hm3, hv⟩, fun _ _ => trivial⟩
          exact trivial
        · skip
          intro H w hG hle' hF
          (repeat (first | refine fin_eq rfl rfl ?_ | (refine fin_fact rfl ?_; intro v hv) | refine fin_none rfl ?_)); refine fin_nil ?_
          obtain ⟨hm4, u1, u2, hm9, hp⟩ := hF
          obtain ⟨n', hnn⟩ : ∃ k, k = n + Nd.size h s := ⟨_, rfl⟩
          rw [← hnn] at hp
          replace hS := hG.sub
          replace hsl := hsl.mono hle'
          replace hka := hka.mono hle'
          replace hkb := hkb.mono hle'
          obtain ⟨pre, hpre⟩ : ∃ l : List (Nd h), l = [] := ⟨_, rfl⟩
          obtain ⟨post, hpost⟩ : ∃ l, l = b' := ⟨_, rfl⟩
          obtain ⟨its, hits0⟩ : ∃ l, l = withoutL (Nd.items h m) key ++ Nd.items h s := ⟨_, rfl⟩
          have hits : pre.flatMap (Nd.items h) ++ its ++ post.flatMap (Nd.items h) = withoutL (Nd.items (h + 1) x) key := by rw [hwk, hits0, hpre, hpost, ha0]; simp
          have hfrom : a.length = pre.length := by rw [hpre]; exact hal
          have hto : x.kids.length - (a.length + 2) = post.length := by rw [hpost]; omega
          have hs1 : SlAt H B (pre.map Nd.ptr) := by rw [hpre]; exact .inl rfl
          have hs2 : SlAt H (slAddr B d (a.length + 2) 1) (post.map Nd.ptr) := by
            have := SlAt.drop (l := a.length + 2) (sz := 1) hsl (by simp) hd
            rw [Nat.mul_one, ← List.map_drop, h1, ha0] at this
            rw [hpost, ha0]
            simpa using this
          have hkpre : AllAt H h pre := by rw [hpre]; intro k hk; cases hk
          have hkpost : AllAt H h post := by rw [hpost]; intro k hk; exact hkb k (by simp [hk])
          have hprem : ∀ k ∈ pre, k ∈ x.kids := by intro k hk; rw [hpre] at hk; cases hk
          have hpostm : ∀ k ∈ post, k ∈ x.kids := by intro k hk; rw [hpost] at hk; rw [h1]; simp [hk]
          rw [← hits0] at hp
          rw [← hits] at hrw how
          have hr := (rise_parts hrw).2.1
          have ho : ∀ e ∈ its, entOk e = true := fun e he => how e (by simp [he])
          have hlow' : lowN h ≤ n' := by omega
          have hn8 : n' ≤ 8 := by omega
          have hn1 : (if h = 0 then 1 else 2) ≤ n' := by split <;> omega
          obtain ⟨n, hn⟩ : ∃ k, k = n' := ⟨_, rfl⟩
          rw [← hn] at hp hlow' hn8 hn1
          (refine CW_seq ?_)
          apply CW_region_eff (fun H w => Mut H w b4 Zp ∧ Mut H w b9 [u1, u2]) (DelF b4 b9 Q H h its n pre post [u1, u2]) 0 [_, _, _, _, _, _, _, _, _, _, _, _] [none, none, none, none, none, none, none, none, none, none, none, some 0] [some 66, some 67, some 68, some 69, some 70, some 71, some 72, some 73, some 74, some 75, some 76, none] [66, 67, 68, 69, 70, 71, 72, 73, 74, 75, 76] mixed rfl rfl rfl rfl (by decide) rfl rfl rfl (by assumption)
          · exact ⟨hm4, hm9⟩
          · exact (closedMut b4 _).and (closedMut b9 _)
          · exact closedDelF _ _ _ _ _ _ _ _ _ _
          · ((apply steps_cons; case h1 => (apply A_pure; intro c u H' w' hG; have hS' := hG.sub; have hS2' := hG.subOld; (repeat (first | refine depGo_eq rfl rfl rfl ?_ | (refine depGo_fact rfl rfl rfl ?_; intro v hv) | refine depGo_skip rfl ?_ | refine depGo_none rfl ?_)); apply Pure1.mk; intro K hk; exact W_moveSl (by first | rfl | assumption) hk)); (apply steps_cons; case h1 => (apply A_pure; intro c u H' w' hG; have hS' := hG.sub; have hS2' := hG.subOld; (repeat (first | refine depGo_eq rfl rfl rfl ?_ | (refine depGo_fact rfl rfl rfl ?_; intro v hv) | refine depGo_skip rfl ?_ | refine depGo_none rfl ?_)); apply Pure1.mk; intro K hk; exact W_moveInt (by first | rfl | assumption) hk)); (apply steps_cons; case h1 => (apply A_pure; intro c u H' w' hG; have hS' := hG.sub; have hS2' := hG.subOld; (repeat (first | refine depGo_eq rfl rfl rfl ?_ | (refine depGo_fact rfl rfl rfl ?_; intro v hv) | refine depGo_skip rfl ?_ | refine depGo_none rfl ?_)); apply Pure1.mk; intro K hk; exact W_sliceHi (by first | rfl | assumption) (by first | rfl | assumption) (by omega) hk)))
            apply steps_cons
            · refine A_pure (val := .agg #[u1, u2]) ?_
              intro c u H' w' hG'
              (repeat (first | refine depGo_eq rfl rfl rfl ?_ | (refine depGo_fact rfl rfl rfl ?_; intro v hv) | refine depGo_skip rfl ?_ | refine depGo_none rfl ?_))
              have hm' : Mut H' w' b9 [u1, u2] := by
                by_cases hc : c ≤ 0
                · exact (hG'.m hc).2
                · exact (hG'.f (by omega)).2
              apply Pure1.mk
              intro K hk
              exact W_loadMAgg (s := 2) (vs := [u1, u2]) (by rfl) hm' (by rfl) (by rfl) hk
            (apply steps_cons; case h1 => (refine A_fact (φ := (fun v H3 => ∃ out, NdsAt H3 h v out ∧ PartNodes H Q h its n out)) ?_; intro c' u H' w' hG; have hS' := hG.sub; (repeat (first | refine depGo_eq rfl rfl rfl ?_ | (refine depGo_fact rfl rfl rfl ?_; intro v hv) | refine depGo_skip rfl ?_ | refine depGo_none rfl ?_)); refine depGo_nil ?_; refine W_call hS' (by rfl) (part_nodes (hp.mono hG.le) hr ho hn1 hn8 (by omega)) ?_; intro v H3 w3 hG3 hr; exact ⟨H3, hG3.le, hG.trans hG3, fun H'' hle => (by
                obtain ⟨out, q1, q2⟩ := hr
                exact ⟨out, q1.mono hle, q2.old hG.le⟩)⟩))
            ((apply steps_cons; case h1 => (apply A_pure; intro c u H' w' hG; have hS' := hG.sub; have hS2' := hG.subOld; (repeat (first | refine depGo_eq rfl rfl rfl ?_ | (refine depGo_fact rfl rfl rfl ?_; intro v hv) | refine depGo_skip rfl ?_ | refine depGo_none rfl ?_)); apply Pure1.mk; intro K hk; exact W_moveSl (by first | rfl | assumption) hk)); (apply steps_cons; case h1 => (apply A_pure; intro c u H' w' hG; have hS' := hG.sub; have hS2' := hG.subOld; (repeat (first | refine depGo_eq rfl rfl rfl ?_ | (refine depGo_fact rfl rfl rfl ?_; intro v hv) | refine depGo_skip rfl ?_ | refine depGo_none rfl ?_)); apply Pure1.mk; intro K hk; exact W_moveInt (by first | rfl | assumption) hk)); (apply steps_cons; case h1 => (apply A_pure; intro c u H' w' hG; have hS' := hG.sub; have hS2' := hG.subOld; (repeat (first | refine depGo_eq rfl rfl rfl ?_ | (refine depGo_fact rfl rfl rfl ?_; intro v hv) | refine depGo_skip rfl ?_ | refine depGo_none rfl ?_)); apply Pure1.mk; intro K hk; exact W_sliceLo (by first | rfl | assumption) (by first | rfl | assumption) (by omega) hk)))
            apply steps_cons
            · refine A_fact (φ := fun v H3 => ∃ out, IsCat 1 v 3 (pre.length + (out.length + post.length)) (pre.map Nd.ptr ++ (out.map Nd.ptr ++ post.map Nd.ptr)) H3 ∧ AllAt H3 h out ∧ PartNodes H Q h its n out) ?_
              intro c' u H' w' hG'
              have hS' := hG'.sub
              (repeat (first | refine depGo_eq rfl rfl rfl ?_ | (refine depGo_fact rfl rfl rfl ?_; intro v hv) | refine depGo_skip rfl ?_ | refine depGo_none rfl ?_))
              obtain ⟨out, ⟨B2, d2, rfl, hd2, hsl2, hk2⟩, hpn⟩ := hv
              have i1 : IsSl 1 (.slice B (a.length) d) pre.length (pre.map Nd.ptr) H' := ⟨B, d, by rw [hfrom], by omega, hs1.mono hG'.le, by simp⟩
              have i2 : IsSl 1 (.slice B2 out.length d2) out.length (out.map Nd.ptr) H' := ⟨B2, d2, rfl, hd2, hsl2, by simp⟩
              have i3 : IsSl 1 (.slice (slAddr B d (a.length + 2) 1) (x.kids.length - (a.length + 2)) (d - (a.length + 2))) post.length (post.map Nd.ptr) H' := ⟨_, _, by rw [hto], by omega, hs2.mono hG'.le, by simp⟩
              refine depGo_nil ?_
              refine W_buildOnes hS' (by omega) (by rfl) (by rfl) ?_
              intro H3 w3 g hG3 hb3 _ _
              exact ⟨H3, hG3.le, hG'.trans hG3, fun H'' hle => ⟨out, (isCat3 hb3 hG3.le i1 i2 i3 (ptr_one _) (ptr_one _) (ptr_one _)).mono hle, (hk2.mono hG3.le).mono hle, hpn⟩⟩
            (apply steps_cons; case h1 => (refine A_fact (φ := (fun v H3 => ∃ out, NdsAt H3 h v (pre ++ out ++ post) ∧ PartNodes H Q h its n out)) ?_; intro c' u H' w' hG'; have hS' := hG'.sub; (repeat (first | refine depGo_eq rfl rfl rfl ?_ | (refine depGo_fact rfl rfl rfl ?_; intro v hv) | refine depGo_skip rfl ?_ | refine depGo_none rfl ?_)); rename_i v1 hv1; obtain ⟨out, hcat, hk2, hpn⟩ := hv1; refine depGo_nil ?_; refine W_call hS' (by rfl) ((have hsn := hpn.len; cat_Node H' _ _ _ _ hcat (by omega) (by omega))) ?_; intro v H3 w3 hG3 hr; exact ⟨H3, hG3.le, hG'.trans hG3, fun H'' hle => ⟨out, nds_of (by
                have e1 : (pre ++ out ++ post).length = pre.length + (out.length + post.length) := by rw [List.length_append, List.length_append]; omega
                rw [e1, List.map_append, List.map_append, List.append_assoc]; exact hr.mono hle) (((hkpre.mono hG'.le).append hk2).append (hkpost.mono hG'.le) |>.mono hG3.le |>.mono hle), hpn⟩⟩))
            apply steps_cons
            · refine A_fact (φ := fun v H3 => ∃ out, PtAt H3 h v [] (pre ++ out ++ post) ∧ PartNodes H Q h its n out) ?_
              intro c' u H' w' hG'
              have hS' := hG'.sub
              (repeat (first | refine depGo_eq rfl rfl rfl ?_ | (refine depGo_fact rfl rfl rfl ?_; intro v hv) | refine depGo_skip rfl ?_ | refine depGo_none rfl ?_))
              obtain ⟨out, ⟨B2, d2, rfl, hd2, hsl2, hk2⟩, hpn⟩ := hv
              refine depGo_nil ?_
              refine W_build (by rfl) ?_
              exact ⟨H', HLe.refl _, hG', fun H'' hle => ⟨out, ⟨none, 0, B2, d2, rfl, Nat.le_refl _, hd2, .inl rfl, hsl2.mono hle, hk2.mono hle⟩, hpn⟩⟩
            apply steps_cons
            · refine A_eff (φ := fun _ _ => True) ?_
              intro u' H' w' hG'
              (repeat (first | refine depGo_eq rfl rfl rfl ?_ | (refine depGo_fact rfl rfl rfl ?_; intro v hv) | refine depGo_skip rfl ?_ | refine depGo_none rfl ?_))
              obtain ⟨out, ⟨A3, c3, B3, d3, rfl, r1, r2, r4, r5, r6⟩, hpn⟩ := hv
              refine depGo_nil ?_
              obtain ⟨hm4', hm9'⟩ := hG'.m (Nat.le_refl _)
              refine W_storeM (b := b4) (o := 0) (vs := [.slice A3 ([] : List Ent).length c3, .slice B3 (pre ++ out ++ post).length d3]) (by rfl) (by rfl) hm4' (by rfl) (two_one rfl rfl) (by rfl) (Nat.le_refl 2) ?_
              intro w3 hg3 hm3
              exact ⟨H', HLe.refl _, hG'.next (grown_own hG'.grow hg3 hm4' hb4) ⟨⟨out, _, _, hm3, ⟨A3, c3, B3, d3, rfl, r1, r2, r4, r5, r6⟩, hpn⟩, hm9'.other hg3 (fun e => hne (by cases e; rfl))⟩, fun _ _ => trivial⟩
            exact trivial
          · intro H' w' hG' hle' hF
            (repeat (first | refine fin_eq rfl rfl ?_ | (refine fin_fact rfl ?_; intro v hv) | refine fin_none rfl ?_)); refine fin_nil ?_
            (refine CW_ret ?_)
            obtain ⟨⟨out, v1, v2, hm', hpt, hpn⟩, _⟩ := hF
            have hlo := hpn.len
            refine ⟨_, ResW_cell (cs := [v1, v2]) rfl hm' rfl, H', hG', pre.length + out.length + post.length, out.map Nd.blk ++ N, by simp; omega, (del_kids hpt hf hprem hpostm hpn hlow' hits hbx).wider (fun b hb => ?_), ?_, ?_⟩
            · rcases hb with hb | hb
              · exact .inl (List.mem_append_left _ hb)
              · rw [hQ] at hb
                rcases hb with hb | hb
                · exact .inl (List.mem_append_right _ hb)
                · exact .inr hb
            · show _ ≤ x.kids.length
              omega
            · show x.kids.length ≤ _
              omega
end Go.Proofs.Ytnjeoobcejlojaa
