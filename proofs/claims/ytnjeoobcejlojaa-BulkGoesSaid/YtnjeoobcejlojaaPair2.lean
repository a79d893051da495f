/- pair.With, pair.Without: what they make. Conditions: sizes. -/
import Derived.Test.YtnjeoobcejlojaaPair1
import Derived.Test.YtnjeoobcejlojaaLibEnt
namespace Go.Proofs.Ytnjeoobcejlojaa
open Go.Proofs Go.RowKit
set_option linter.unusedVariables false
attribute [local irreducible] CW SeqW OpW
set_option maxHeartbeats 4000000

theorem find_le (l : List Ent) (key : ByteArray) : findAt l key ≤ l.length := by
  have key1 : ∀ (k a b : Nat), a ≤ b → b ≤ l.length → findLoop l key k a b ≤ l.length := by
    intro k
    induction k with
    | zero => intro a b h1 h2; simp only [findLoop]; omega
    | succ k ih =>
      intro a b h1 h2
      simp only [findLoop]
      split
      · split
        · exact ih _ _ (by omega) h2
        · exact ih _ _ (by omega) (by omega)
      · omega
  exact key1 _ _ _ (by omega) (by omega)
theorem findIs_lt {l : List Ent} {key : ByteArray} (h : findIs l key = true) : findAt l key < l.length := by
  simp [findIs] at h; exact h.1
/-- The lists that they make. -/
def withL (l : List Ent) (e : Ent) : List Ent := l.take (findAt l e.key) ++ [e] ++ l.drop (findAt l e.key + if findIs l e.key then 1 else 0)
def withoutL (l : List Ent) (key : ByteArray) : List Ent := if findIs l key then l.take (findAt l key) ++ l.drop (findAt l key + 1) else l
theorem IsNew.ents {H H' : HF} {E : TypeId} {v : Value} {n : Nat} {l : List Ent} (h : IsNew H E 2 v n (entCells l) H') : IsNew H E 2 v l.length (entCells l) H' := by
  have hn : n = l.length := by
    obtain ⟨A, c, _, h2, _⟩ := h
    rw [entCells_length] at h2; omega
  rw [← hn]; exact h
theorem IsNew.isEnts {H H' : HF} {E : TypeId} {v : Value} {n : Nat} {l : List Ent} (h : IsNew H E 2 v n (entCells l) H') : IsEnts v l H' := h.sl.ents
theorem withN_c (H : HF) (A : Option Addr) (c : Nat) (l : List Ent) (e : Ent) (hl : EntsAt H A l) (hc : l.length ≤ c) (hb : l.length ≤ 1000000) :
    Fn Try.prog 94 [.slice A l.length c, .agg #[.string e.key, .string e.val]] H fun v H' => IsNew H 60 2 v (withL l e).length (entCells (withL l e)) H' := by
  refine Fn_of_CW Try.func94 rfl Try.ntmps94 Try.results94 rfl fun w hS => ?_
  (refine CW_seq ?_; refine CW_region rfl ?_)
  refine S_op (W_boxAgg hS rfl ?_)
  intro H1 w1 bx hG1 hb1
  have hl1 := hl.mono hG1.le
  have hS1 := hG1.sub
  have hfl := find_le l e.key
  (refine S_op ?_; refine W_assignSl (by first | rfl | assumption) ?_; refine S_nil ?_; refine CW_seq ?_; refine CW_region rfl ?_; refine S_op ?_; refine W_moveSl (by first | rfl | assumption) ?_; refine S_op ?_; refine W_field (by first | rfl | assumption) ?_; refine S_op ?_; refine W_loadHL (by first | rfl | assumption) (by assumption) (by rfl) (by assumption) ?_)
  refine S_op ?_
  refine W_call hG1.sub rfl (find_c H1 A c l e.key hl1 hb) ?_
  rintro v H2 w2 hG2 rfl
  have hl2 := hl1.mono hG2.le
  have hS2 := hG2.sub
  have hb2 := hG2.le _ _ hb1
  have hG02 := hG1.trans hG2
  cases hf : findIs l e.key with
  | true =>
    have hq := findIs_lt hf
    (refine S_op ?_; refine W_moveTup (by first | rfl | assumption) ?_; refine S_op ?_; refine W_extract (by first | rfl | assumption) (by rfl) ?_; refine S_op ?_; refine W_extract (by first | rfl | assumption) (by rfl) ?_; refine S_op ?_; refine W_assignInt (by first | rfl | assumption) ?_; refine S_op ?_; refine W_assignBool (by first | rfl | assumption) ?_; refine S_nil ?_; refine CW_seq ?_; refine CW_region rfl ?_; refine S_op ?_; refine W_moveInt (by first | rfl | assumption) ?_; refine S_op ?_; refine W_assignInt (by first | rfl | assumption) ?_; refine S_nil ?_; refine CW_seq ?_; refine CW_seq ?_; refine CW_region rfl ?_; refine S_op ?_; refine W_moveBool (by first | rfl | assumption) ?_; refine S_nil ?_; refine CW_true (by first | rfl | assumption) ?_; refine CW_region rfl ?_; refine S_op ?_; refine W_moveInt (by first | rfl | assumption) ?_; refine S_op ?_; refine W_add1 (by first | rfl | assumption) (by omega) ?_; refine S_op ?_; refine W_assignInt (by first | rfl | assumption) ?_; refine S_nil ?_; refine CW_seq ?_)
    apply CW_region_grow [_, _, _, _, _, _, _, _, _, _, _] [none, none, none, none, none, none, none, none, none, none, none] [some 19, some 20, some 21, some 22, some 23, some 24, some 25, some 26, some 27, some 28, some 4] [19, 20, 21, 22, 23, 24, 25, 26, 27, 28, 4] mixed rfl rfl rfl rfl (by decide) rfl (by assumption)
    · ((apply steps_cons; case h1 => (apply A_pure; intro c u H' w' hG; have hS' := hG.sub; have hS2' := hG.subOld; (repeat (first | refine depGo_eq rfl rfl rfl ?_ | (refine depGo_fact rfl rfl rfl ?_; intro v hv) | refine depGo_skip rfl ?_ | refine depGo_none rfl ?_)); apply Pure1.mk; intro K hk; exact W_moveSl (by first | rfl | assumption) hk)); (apply steps_cons; case h1 => (apply A_pure; intro c u H' w' hG; have hS' := hG.sub; have hS2' := hG.subOld; (repeat (first | refine depGo_eq rfl rfl rfl ?_ | (refine depGo_fact rfl rfl rfl ?_; intro v hv) | refine depGo_skip rfl ?_ | refine depGo_none rfl ?_)); apply Pure1.mk; intro K hk; exact W_moveInt (by first | rfl | assumption) hk)); (apply steps_cons; case h1 => (apply A_pure; intro c u H' w' hG; have hS' := hG.sub; have hS2' := hG.subOld; (repeat (first | refine depGo_eq rfl rfl rfl ?_ | (refine depGo_fact rfl rfl rfl ?_; intro v hv) | refine depGo_skip rfl ?_ | refine depGo_none rfl ?_)); apply Pure1.mk; intro K hk; exact W_sliceHi (by first | rfl | assumption) (by first | rfl | assumption) (by omega) hk)); (apply steps_cons; case h1 => (apply A_pure; intro c u H' w' hG; have hS' := hG.sub; have hS2' := hG.subOld; (repeat (first | refine depGo_eq rfl rfl rfl ?_ | (refine depGo_fact rfl rfl rfl ?_; intro v hv) | refine depGo_skip rfl ?_ | refine depGo_none rfl ?_)); apply Pure1.mk; intro K hk; exact W_loadWhole (by first | rfl | assumption) (by assumption) (by rfl) (by assumption) hk)))
      apply steps_cons
      · refine A_fact (φ := fun v H => IsSl 2 v 1 (entCells [e]) H) ?_
        intro c' u H' w' hG
        have hS' := hG.sub
        (repeat (rintro _ rfl))
        refine depGo_nil ?_
        refine W_build1 (sz := 2) (v := .agg #[.string e.key, .string e.val]) hS' (by omega) (by rfl) (by rfl) ?_
        intro H3 w3 b hG3 hb3 _ _
        exact ⟨H3, hG3.le, hG.trans hG3, fun H'' hle => ⟨_, _, rfl, Nat.le_refl _, SlAt.of_row (hle _ _ hb3), rfl⟩⟩
      ((apply steps_cons; case h1 => (apply A_pure; intro c u H' w' hG; have hS' := hG.sub; have hS2' := hG.subOld; (repeat (first | refine depGo_eq rfl rfl rfl ?_ | (refine depGo_fact rfl rfl rfl ?_; intro v hv) | refine depGo_skip rfl ?_ | refine depGo_none rfl ?_)); apply Pure1.mk; intro K hk; exact W_moveSl (by first | rfl | assumption) hk)); (apply steps_cons; case h1 => (apply A_pure; intro c u H' w' hG; have hS' := hG.sub; have hS2' := hG.subOld; (repeat (first | refine depGo_eq rfl rfl rfl ?_ | (refine depGo_fact rfl rfl rfl ?_; intro v hv) | refine depGo_skip rfl ?_ | refine depGo_none rfl ?_)); apply Pure1.mk; intro K hk; exact W_moveInt (by first | rfl | assumption) hk)); (apply steps_cons; case h1 => (apply A_pure; intro c u H' w' hG; have hS' := hG.sub; have hS2' := hG.subOld; (repeat (first | refine depGo_eq rfl rfl rfl ?_ | (refine depGo_fact rfl rfl rfl ?_; intro v hv) | refine depGo_skip rfl ?_ | refine depGo_none rfl ?_)); apply Pure1.mk; intro K hk; exact W_sliceLo (by first | rfl | assumption) (by first | rfl | assumption) (by omega) hk)))
      apply steps_cons
      · refine A_fact (φ := fun v H => IsCat 2 v 3 (findAt l e.key + (1 + (l.length - (findAt l e.key + 1)))) (entCells (l.take (findAt l e.key)) ++ (entCells [e] ++ entCells (l.drop (findAt l e.key + 1)))) H) ?_
        intro c' u H' w' hG
        have hS' := hG.sub
        rintro _ rfl v4 hv4 _ rfl
        have hv4 : IsSl 2 v4 1 (entCells [e]) H' := hv4
        obtain ⟨A4, c4, rfl, hr4⟩ := id hv4
        refine depGo_nil ?_
        have hl' := hl2.mono hG.le
        have hT := hl'.slTake hfl hc
        have hD := hl'.slDrop (k := (findAt l e.key + 1)) (by omega) hc
        refine W_buildOnes hS' (by omega) (by rfl) (by rfl) ?_
        intro H3 w3 b hG3 hb3 _ _
        exact ⟨H3, hG3.le, hG.trans hG3, fun H'' hle => (isCat3 hb3 hG3.le hT hv4 hD (entCells_one _) (entCells_one _) (entCells_one _)).mono hle⟩
      apply steps_cons
      · refine A_fact (φ := fun v H => IsNew H2 60 2 v (findAt l e.key + (1 + (l.length - (findAt l e.key + 1)))) (entCells (l.take (findAt l e.key)) ++ (entCells [e] ++ entCells (l.drop (findAt l e.key + 1)))) H) ?_
        intro c' u H' w' hG
        have hS' := hG.sub
        intro v8 hv8
        refine depGo_nil ?_
        refine W_call hS' (by rfl) (catN_Ent _ _ _ _ _ hv8 (by omega) (by omega)) ?_
        intro v H3 w3 hG3 hv
        exact ⟨H3, hG3.le, hG.trans hG3, fun H'' hle => (hv.old hG.le).mono hle⟩
      apply steps_cons; case h1 => (refine A_fact (φ := (fun v H => IsNew H2 60 2 v (findAt l e.key + (1 + (l.length - (findAt l e.key + 1)))) (entCells (l.take (findAt l e.key)) ++ (entCells [e] ++ entCells (l.drop (findAt l e.key + 1)))) H)) ?_; intro c u H' w' hG; (repeat (first | refine depGo_eq rfl rfl rfl ?_ | (refine depGo_fact rfl rfl rfl ?_; intro v hv) | refine depGo_skip rfl ?_ | refine depGo_none rfl ?_)); refine depGo_nil ?_; refine W_assign (by rfl) ?_; exact ⟨H', HLe.refl _, hG, fun H'' hle => IsNew.mono hv hle⟩)
      exact trivial
    · intro H' w' hG
      (repeat (first | refine fin_eq rfl rfl ?_ | (refine fin_fact rfl ?_; intro v hv) | refine fin_none rfl ?_)); refine fin_nil ?_
      (refine CW_ret ?_)
      have hv : IsNew H2 60 2 v (findAt l e.key + (1 + (l.length - (findAt l e.key + 1)))) (entCells (l.take (findAt l e.key)) ++ (entCells [e] ++ entCells (l.drop (findAt l e.key + 1)))) H' := hv
      rw [← entCells_append, ← entCells_append] at hv
      have hw : withL l e = l.take (findAt l e.key) ++ ([e] ++ l.drop (findAt l e.key + 1)) := by simp [withL, hf]
      rw [← hw] at hv
      exact ⟨_, ResW_one (v := v) rfl, H', hG02.trans hG, (hv.old hG02.le).ents⟩
  | false =>
    (refine S_op ?_; refine W_moveTup (by first | rfl | assumption) ?_; refine S_op ?_; refine W_extract (by first | rfl | assumption) (by rfl) ?_; refine S_op ?_; refine W_extract (by first | rfl | assumption) (by rfl) ?_; refine S_op ?_; refine W_assignInt (by first | rfl | assumption) ?_; refine S_op ?_; refine W_assignBool (by first | rfl | assumption) ?_; refine S_nil ?_; refine CW_seq ?_; refine CW_region rfl ?_; refine S_op ?_; refine W_moveInt (by first | rfl | assumption) ?_; refine S_op ?_; refine W_assignInt (by first | rfl | assumption) ?_; refine S_nil ?_; refine CW_seq ?_; refine CW_seq ?_; refine CW_region rfl ?_; refine S_op ?_; refine W_moveBool (by first | rfl | assumption) ?_; refine S_nil ?_; refine CW_false (by first | rfl | assumption) ?_; refine CW_skip ?_; refine CW_seq ?_)
    apply CW_region_grow [_, _, _, _, _, _, _, _, _, _, _] [none, none, none, none, none, none, none, none, none, none, none] [some 19, some 20, some 21, some 22, some 23, some 24, some 25, some 26, some 27, some 28, some 4] [19, 20, 21, 22, 23, 24, 25, 26, 27, 28, 4] mixed rfl rfl rfl rfl (by decide) rfl (by assumption)
    · ((apply steps_cons; case h1 => (apply A_pure; intro c u H' w' hG; have hS' := hG.sub; have hS2' := hG.subOld; (repeat (first | refine depGo_eq rfl rfl rfl ?_ | (refine depGo_fact rfl rfl rfl ?_; intro v hv) | refine depGo_skip rfl ?_ | refine depGo_none rfl ?_)); apply Pure1.mk; intro K hk; exact W_moveSl (by first | rfl | assumption) hk)); (apply steps_cons; case h1 => (apply A_pure; intro c u H' w' hG; have hS' := hG.sub; have hS2' := hG.subOld; (repeat (first | refine depGo_eq rfl rfl rfl ?_ | (refine depGo_fact rfl rfl rfl ?_; intro v hv) | refine depGo_skip rfl ?_ | refine depGo_none rfl ?_)); apply Pure1.mk; intro K hk; exact W_moveInt (by first | rfl | assumption) hk)); (apply steps_cons; case h1 => (apply A_pure; intro c u H' w' hG; have hS' := hG.sub; have hS2' := hG.subOld; (repeat (first | refine depGo_eq rfl rfl rfl ?_ | (refine depGo_fact rfl rfl rfl ?_; intro v hv) | refine depGo_skip rfl ?_ | refine depGo_none rfl ?_)); apply Pure1.mk; intro K hk; exact W_sliceHi (by first | rfl | assumption) (by first | rfl | assumption) (by omega) hk)); (apply steps_cons; case h1 => (apply A_pure; intro c u H' w' hG; have hS' := hG.sub; have hS2' := hG.subOld; (repeat (first | refine depGo_eq rfl rfl rfl ?_ | (refine depGo_fact rfl rfl rfl ?_; intro v hv) | refine depGo_skip rfl ?_ | refine depGo_none rfl ?_)); apply Pure1.mk; intro K hk; exact W_loadWhole (by first | rfl | assumption) (by assumption) (by rfl) (by assumption) hk)))
      apply steps_cons
      · refine A_fact (φ := fun v H => IsSl 2 v 1 (entCells [e]) H) ?_
        intro c' u H' w' hG
        have hS' := hG.sub
        (repeat (rintro _ rfl))
        refine depGo_nil ?_
        refine W_build1 (sz := 2) (v := .agg #[.string e.key, .string e.val]) hS' (by omega) (by rfl) (by rfl) ?_
        intro H3 w3 b hG3 hb3 _ _
        exact ⟨H3, hG3.le, hG.trans hG3, fun H'' hle => ⟨_, _, rfl, Nat.le_refl _, SlAt.of_row (hle _ _ hb3), rfl⟩⟩
      ((apply steps_cons; case h1 => (apply A_pure; intro c u H' w' hG; have hS' := hG.sub; have hS2' := hG.subOld; (repeat (first | refine depGo_eq rfl rfl rfl ?_ | (refine depGo_fact rfl rfl rfl ?_; intro v hv) | refine depGo_skip rfl ?_ | refine depGo_none rfl ?_)); apply Pure1.mk; intro K hk; exact W_moveSl (by first | rfl | assumption) hk)); (apply steps_cons; case h1 => (apply A_pure; intro c u H' w' hG; have hS' := hG.sub; have hS2' := hG.subOld; (repeat (first | refine depGo_eq rfl rfl rfl ?_ | (refine depGo_fact rfl rfl rfl ?_; intro v hv) | refine depGo_skip rfl ?_ | refine depGo_none rfl ?_)); apply Pure1.mk; intro K hk; exact W_moveInt (by first | rfl | assumption) hk)); (apply steps_cons; case h1 => (apply A_pure; intro c u H' w' hG; have hS' := hG.sub; have hS2' := hG.subOld; (repeat (first | refine depGo_eq rfl rfl rfl ?_ | (refine depGo_fact rfl rfl rfl ?_; intro v hv) | refine depGo_skip rfl ?_ | refine depGo_none rfl ?_)); apply Pure1.mk; intro K hk; exact W_sliceLo (by first | rfl | assumption) (by first | rfl | assumption) (by omega) hk)))
      apply steps_cons
      · refine A_fact (φ := fun v H => IsCat 2 v 3 (findAt l e.key + (1 + (l.length - (findAt l e.key)))) (entCells (l.take (findAt l e.key)) ++ (entCells [e] ++ entCells (l.drop (findAt l e.key)))) H) ?_
        intro c' u H' w' hG
        have hS' := hG.sub
        rintro _ rfl v4 hv4 _ rfl
        have hv4 : IsSl 2 v4 1 (entCells [e]) H' := hv4
        obtain ⟨A4, c4, rfl, hr4⟩ := id hv4
        refine depGo_nil ?_
        have hl' := hl2.mono hG.le
        have hT := hl'.slTake hfl hc
        have hD := hl'.slDrop (k := (findAt l e.key)) (by omega) hc
        refine W_buildOnes hS' (by omega) (by rfl) (by rfl) ?_
        intro H3 w3 b hG3 hb3 _ _
        exact ⟨H3, hG3.le, hG.trans hG3, fun H'' hle => (isCat3 hb3 hG3.le hT hv4 hD (entCells_one _) (entCells_one _) (entCells_one _)).mono hle⟩
      apply steps_cons
      · refine A_fact (φ := fun v H => IsNew H2 60 2 v (findAt l e.key + (1 + (l.length - (findAt l e.key)))) (entCells (l.take (findAt l e.key)) ++ (entCells [e] ++ entCells (l.drop (findAt l e.key)))) H) ?_
        intro c' u H' w' hG
        have hS' := hG.sub
        intro v8 hv8
        refine depGo_nil ?_
        refine W_call hS' (by rfl) (catN_Ent _ _ _ _ _ hv8 (by omega) (by omega)) ?_
        intro v H3 w3 hG3 hv
        exact ⟨H3, hG3.le, hG.trans hG3, fun H'' hle => (hv.old hG.le).mono hle⟩
      apply steps_cons; case h1 => (refine A_fact (φ := (fun v H => IsNew H2 60 2 v (findAt l e.key + (1 + (l.length - (findAt l e.key)))) (entCells (l.take (findAt l e.key)) ++ (entCells [e] ++ entCells (l.drop (findAt l e.key)))) H)) ?_; intro c u H' w' hG; (repeat (first | refine depGo_eq rfl rfl rfl ?_ | (refine depGo_fact rfl rfl rfl ?_; intro v hv) | refine depGo_skip rfl ?_ | refine depGo_none rfl ?_)); refine depGo_nil ?_; refine W_assign (by rfl) ?_; exact ⟨H', HLe.refl _, hG, fun H'' hle => IsNew.mono hv hle⟩)
      exact trivial
    · intro H' w' hG
      (repeat (first | refine fin_eq rfl rfl ?_ | (refine fin_fact rfl ?_; intro v hv) | refine fin_none rfl ?_)); refine fin_nil ?_
      (refine CW_ret ?_)
      have hv : IsNew H2 60 2 v (findAt l e.key + (1 + (l.length - (findAt l e.key)))) (entCells (l.take (findAt l e.key)) ++ (entCells [e] ++ entCells (l.drop (findAt l e.key)))) H' := hv
      rw [← entCells_append, ← entCells_append] at hv
      have hw : withL l e = l.take (findAt l e.key) ++ ([e] ++ l.drop (findAt l e.key)) := by simp [withL, hf]
      rw [← hw] at hv
      exact ⟨_, ResW_one (v := v) rfl, H', hG02.trans hG, (hv.old hG02.le).ents⟩
theorem with_c (H : HF) (A : Option Addr) (c : Nat) (l : List Ent) (e : Ent) (hl : EntsAt H A l) (hc : l.length ≤ c) (hb : l.length ≤ 1000000) :
    Fn Try.prog 94 [.slice A l.length c, .agg #[.string e.key, .string e.val]] H fun v H' => IsEnts v (withL l e) H' :=
  (withN_c H A c l e hl hc hb).mono fun v H' _ h => h.isEnts
end Go.Proofs.Ytnjeoobcejlojaa
