/- TreeStays: it answers true. Conditions: sizes. -/
import Derived.Test.YtlkbdgfipdeloaaLaw10b
namespace Go.Proofs.Ytlkbdgfipdeloaa
open Go.Proofs Go.RowKit
set_option linter.unusedVariables false
attribute [local irreducible] CW SeqW OpW
set_option maxHeartbeats 4000000
/-- Trees, and a list of entries for each. -/
def Kept (H : HF) (ps : List (Tr × Value)) : Prop := ∀ p ∈ ps, TreeAt H p.1 ∧ IsEnts p.2 p.1.items H ∧ p.1.items.length ≤ 1000
theorem Kept.mono {H H' : HF} {ps : List (Tr × Value)} (h : Kept H ps) (hle : HLe H H') : Kept H' ps := fun p hp => by
  obtain ⟨h1, h2, h3⟩ := h p hp
  exact ⟨h1.mono hle, h2.mono hle, h3⟩
def tCells (ps : List (Tr × Value)) : List Value := ps.map fun p => p.1.val
def eCells (ps : List (Tr × Value)) : List Value := ps.map (·.2)
/-- Two slices of the call's own, in blocks of their own. -/
def Blocks2 (A A2 : Option Addr) : Prop := ∀ a a2, A = some a → A2 = some a2 → a.block ≠ a2.block
theorem Own.lt {H : HF} {w : World} {B : Nat} {E : TypeId} {sz : Nat} {A : Option Addr} {n cap : Nat} {xs : List Value} (h : Own H w B E sz A n cap xs) : ∀ a, A = some a → a.block < w.heap.size := fun a ha => (h.block ha).2
theorem Blocks2.ne {A A2 : Option Addr} (h : Blocks2 A A2) {n c : Nat} : ∀ a, A2 = some a → some a.block ≠ (Value.slice A n c).ownBlock := by
  intro a ha
  cases A with
  | none => simp [Value.ownBlock]
  | some b => simp only [Value.ownBlock]; intro e; exact h b a rfl ha (Option.some.inj e).symm
theorem Blocks2.symm {A A2 : Option Addr} (h : Blocks2 A A2) : Blocks2 A2 A := fun a a2 h1 h2 => (h a2 a h2 h1).symm
theorem Blocks2.new {A A' A2 : Option Addr} {cap cap' n : Nat} (h : Blocks2 A A2) (hA : (A' = A ∧ cap' = cap) ∨ ∃ g, A' = some ⟨g, 0, none⟩ ∧ n ≤ g) (hl : ∀ a, A2 = some a → a.block < n) : Blocks2 A' A2 := by
  intro a a2 h1 h2
  rcases hA with ⟨rfl, _⟩ | ⟨g, rfl, hg⟩
  · exact h a a2 h1 h2
  · cases h1
    have := hl a2 h2
    show g ≠ _
    omega
theorem treeStays_c (H0 : HF) (A : Option Addr) (c : Nat) (l : List Op10) (hl : SlAt H0 A (ops10 l)) (hb : l.length ≤ 100000000000000) (hs : ∀ o ∈ l, o.Ok) :
    Fn Try.prog 8 [.slice A l.length c] H0 fun v _ => v = .bool true := by
  refine Fn_of_CW Try.func8 rfl Try.ntmps8 Try.results8 rfl fun w0 hS => ?_; have hG := Grow.refl hS
  (refine CW_seq ?_; refine CW_region rfl ?_; refine S_op ?_; refine W_assignBool (by first | rfl | assumption) ?_; refine S_nil ?_; refine CW_seq ?_; refine CW_seq ?_; refine CW_region rfl ?_)
  (refine S_op ?_; refine W_call hS (by rfl) (awake10_c H0) ?_); rintro v H w hG' rfl; replace hG := hG.trans hG'; replace hS := hG'.sub; replace hl := hl.mono hG'.le; clear hG'
  (refine S_op ?_; refine W_not (by first | rfl | assumption) ?_; refine S_op ?_; refine W_moveBool (by first | rfl | assumption) ?_; refine S_want (by rfl) ?_; refine W_moveSl (by first | rfl | assumption) ?_)
  (refine S_want (by rfl) ?_; refine W_call hS (by rfl) (few10_c H A c l hl hb hs) ?_); rintro v H w hG' rfl; replace hG := hG.trans hG'; replace hS := hG'.sub; replace hl := hl.mono hG'.le; clear hG'
  cases hf : few10B l with
  | false =>
    (refine S_want (by rfl) ?_; refine W_not (by first | rfl | assumption) ?_; refine S_op ?_; refine W_pickF (by first | rfl | assumption) (by first | rfl | assumption) ?_; refine S_op ?_; refine W_moveBool (by first | rfl | assumption) ?_; refine S_pass (by rfl) ?_; refine S_pass (by rfl) ?_; refine S_pass (by rfl) ?_; refine S_op ?_; refine W_pickT (by first | rfl | assumption) (by first | rfl | assumption) ?_; refine S_nil ?_; refine CW_true (by first | rfl | assumption) ?_; refine CW_seq ?_; refine CW_region rfl ?_)
    (refine S_op ?_; refine W_call hS (by rfl) (awake10_c H) ?_); rintro v H w hG' rfl; replace hG := hG.trans hG'; replace hS := hG'.sub; clear hG'
    (refine S_op ?_; refine W_assignBool (by first | rfl | assumption) ?_; refine S_nil ?_; refine CW_ret ?_)
    exact ⟨_, ResW_one (v := .bool _) rfl, H, hG, rfl⟩
  | true =>
    by_cases hk2 : 60 < l.length
    · (refine S_want (by rfl) ?_; refine W_not (by first | rfl | assumption) ?_; refine S_op ?_; refine W_pickF (by first | rfl | assumption) (by first | rfl | assumption) ?_; refine S_op ?_; refine W_moveBool (by first | rfl | assumption) ?_; refine S_want (by rfl) ?_; refine W_moveSl (by first | rfl | assumption) ?_; refine S_want (by rfl) ?_; refine W_len (by first | rfl | assumption) ?_; refine S_want (by rfl) ?_; refine W_gtrT (by first | rfl | assumption) (by first | rfl | assumption) (by first | omega | rfl) ?_; refine S_op ?_; refine W_pickF (by first | rfl | assumption) (by first | rfl | assumption) ?_; refine S_nil ?_; refine CW_true (by first | rfl | assumption) ?_; refine CW_seq ?_; refine CW_region rfl ?_)
      (refine S_op ?_; refine W_call hS (by rfl) (awake10_c H) ?_); rintro v H w hG' rfl; replace hG := hG.trans hG'; replace hS := hG'.sub; clear hG'
      (refine S_op ?_; refine W_assignBool (by first | rfl | assumption) ?_; refine S_nil ?_; refine CW_ret ?_)
      exact ⟨_, ResW_one (v := .bool _) rfl, H, hG, rfl⟩
    · (refine S_want (by rfl) ?_; refine W_not (by first | rfl | assumption) ?_; refine S_op ?_; refine W_pickF (by first | rfl | assumption) (by first | rfl | assumption) ?_; refine S_op ?_; refine W_moveBool (by first | rfl | assumption) ?_; refine S_want (by rfl) ?_; refine W_moveSl (by first | rfl | assumption) ?_; refine S_want (by rfl) ?_; refine W_len (by first | rfl | assumption) ?_; refine S_want (by rfl) ?_; refine W_gtrF (by first | rfl | assumption) (by first | rfl | assumption) (by first | omega | rfl) ?_; refine S_op ?_; refine W_pickF (by first | rfl | assumption) (by first | rfl | assumption) ?_; refine S_nil ?_; refine CW_false (by first | rfl | assumption) ?_; refine CW_skip ?_; refine CW_seq ?_; refine CW_region rfl ?_; refine S_op ?_; refine W_assignSl (by first | rfl | assumption) ?_; refine S_nil ?_; refine CW_seq ?_; refine CW_region rfl ?_; refine S_op ?_; refine W_assignSl (by first | rfl | assumption) ?_; refine S_nil ?_; refine CW_seq ?_; refine CW_region rfl ?_; refine S_op ?_; refine W_assignPtr (by first | rfl | assumption) ?_; refine S_nil ?_; refine CW_seq ?_; refine CW_seq ?_; refine CW_region rfl ?_; refine S_op ?_; refine W_moveSl (by first | rfl | assumption) ?_; refine S_op ?_; refine W_len (by first | rfl | assumption) ?_; refine S_op ?_; refine W_moveInt (by first | rfl | assumption) ?_; refine S_nil ?_; refine CW_block ?_)
      refine CW_loopM [3, 4, 5, 6, 7, 8, 25, 26, 27, 28, 29, 30, 31, 32, 33, 34, 35, 36, 37, 38, 39, 40, 41, 42, 43, 44, 45, 46, 47, 48, 49, 50, 51, 52, 53, 54, 55, 56, 57, 58, 59, 60, 61, 62, 63, 64, 65, 66]
        (fun m u w2 => ∃ (i : Nat) (t : Tr) (ps : List (Tr × Value)) (A1 A2 : Option Addr) (c1 c2 : Nat) (H2 : HF), u 25 = .int .i64 (i : Int) ∧ u 5 = t.val ∧ u 3 = .slice A1 i c1 ∧ u 4 = .slice A2 i c2 ∧ Grow H0 w0 H2 w2 ∧ SlAt H2 A (ops10 l) ∧ TreeAt H2 t ∧ t.items.length ≤ i ∧
          Own H2 w2 w0.heap.size 29 1 A1 i c1 (tCells ps) ∧ Own H2 w2 w0.heap.size 22 1 A2 i c2 (eCells ps) ∧ Blocks2 A1 A2 ∧ Kept H2 ps ∧ ps.length = i ∧ i ≤ l.length ∧ l.length - i ≤ m)
        (m := l.length) ⟨0, none, [], none, none, 0, 0, H, rfl, rfl, rfl, rfl, hG, hl, TreeAt.nil, by simp [Tr.items], Own.nil _ _ _ _ _, Own.nil _ _ _ _ _, (by intro a a2 h; cases h), (by intro p hp; cases hp), rfl, by omega, by omega⟩ ?_
      clear hG hl
      rintro m u w ⟨i, t, ps, A1, A2, c1, c2, H, h25, h5, h3, h4, hG, hl, ht, htl, ho1, ho2, hne, hkp, hpl, hi, hm⟩
      replace hS := hG.sub
      by_cases hlt : i < l.length
      · obtain ⟨b, off, hA, hrow⟩ := ops10_some hl hlt
        have hsl := stepL_len t.items (nth l i)
        (refine CW_seq ?_; refine CW_region rfl ?_; refine S_op ?_; refine W_lssT (by first | rfl | assumption) (by first | rfl | assumption) (by first | omega | rfl) ?_; refine S_nil ?_; refine CW_seq ?_; refine CW_true (by first | rfl | assumption) ?_; refine CW_skip ?_; refine CW_seq ?_; refine CW_block ?_; refine CW_seq ?_; refine CW_region rfl ?_; refine S_op ?_; refine W_moveInt (by first | rfl | assumption) ?_; refine S_op ?_; refine W_assignInt (by first | rfl | assumption) ?_; refine S_nil ?_; refine CW_seq ?_; refine CW_region rfl ?_; refine S_op ?_; refine W_moveSl (by first | rfl | assumption) ?_; refine S_op ?_; refine W_movePtr (by first | rfl | assumption) ?_)
        refine S_op ?_
        refine W_build1 (sz := 1) (v := t.val) hS (by omega) (by rfl) (by rfl) ?_
        intro H w b1 hG' hb1 _ _
        replace hG := hG.trans hG'
        replace hS := hG'.sub
        replace ht := ht.mono hG'.le
        replace ho1 := ho1.grow hG'
        replace ho2 := ho2.grow hG'
        replace hkp := hkp.mono hG'.le
        replace hrow := hrow.mono hG'.le
        replace hl := hl.mono hG'.le
        clear hG'
        skip
        refine S_op ?_
        refine W_append (news := [t.val]) (m := 1) (by rfl) (by rfl) hG ho1 ((SlAt.of_row hb1).cells hS) (by rfl) (by intro u hu; simp at hu; subst hu; rfl) (by decide) (by omega) (by omega) ?_
        intro A1' c1' w hG ho1' hgb hA1'
        have hl2 := ho2.lt
        replace ho2 := ho2.other hgb hne.ne
        replace hne := hne.new hA1' hl2
        replace hS := hG.sub
        clear hgb hA1' ho1 hl2
        (refine S_op ?_; refine W_moveSl (by first | rfl | assumption) ?_; refine S_op ?_; refine W_movePtr (by first | rfl | assumption) ?_)
        (refine S_op ?_; refine W_call hS (by rfl) (items_t ht.at_ (by omega)) ?_); rintro v H w hG' hv; replace hG := hG.trans hG'; replace hS := hG'.sub; replace hl := hl.mono hG'.le; replace ht := ht.mono hG'.le; replace hkp := hkp.mono hG'.le; replace hrow := hrow.mono hG'.le; replace ho1' := ho1'.grow hG'; replace ho2 := ho2.grow hG'; clear hG'
        obtain ⟨A3, c3, rfl, hc3, hl3⟩ := hv
        skip
        refine S_op ?_
        refine W_build1 (sz := 1) (v := .slice A3 t.items.length c3) hS (by omega) (by rfl) (by rfl) ?_
        intro H w b2 hG' hb2 _ _
        replace hG := hG.trans hG'
        replace hS := hG'.sub
        replace ht := ht.mono hG'.le
        replace ho1' := ho1'.grow hG'
        replace ho2 := ho2.grow hG'
        replace hkp := hkp.mono hG'.le
        replace hrow := hrow.mono hG'.le
        replace hl := hl.mono hG'.le
        replace hl3 := hl3.mono hG'.le
        clear hG'
        skip
        refine S_op ?_
        refine W_append (news := [.slice A3 t.items.length c3]) (m := 1) (by rfl) (by rfl) hG ho2 ((SlAt.of_row hb2).cells hS) (by rfl) (by intro u hu; simp at hu; subst hu; rfl) (by decide) (by omega) (by omega) ?_
        intro A2' c2' w hG ho2' hgb hA2'
        have hl1 := ho1'.lt
        replace ho1' := ho1'.other hgb hne.symm.ne
        replace hne := (hne.symm.new hA2' hl1).symm
        replace hS := hG.sub
        clear hgb hA2' ho2 hl1
        have hkp' : Kept H (ps ++ [(t, .slice A3 t.items.length c3)]) := by
          intro p hp
          rcases List.mem_append.1 hp with hp | hp
          · exact hkp p hp
          · rw [List.mem_singleton] at hp
            subst hp
            exact ⟨ht, ⟨A3, c3, rfl, hc3, hl3⟩, by show t.items.length ≤ _; omega⟩
        have e1 : tCells ps ++ [t.val] = tCells (ps ++ [(t, .slice A3 t.items.length c3)]) := by simp [tCells]
        have e2 : eCells ps ++ [.slice A3 t.items.length c3] = eCells (ps ++ [(t, .slice A3 t.items.length c3)]) := by simp [eCells]
        rw [e1] at ho1'
        rw [e2] at ho2'
        have hpl' : (ps ++ [(t, Value.slice A3 t.items.length c3)]).length = i + 1 := by simp [hpl]
        generalize ps ++ [(t, Value.slice A3 t.items.length c3)] = qs at *
        clear hkp e1 e2
        cases hd : (nth l i).del with
        | true =>
          have hst : stepL t.items (nth l i) = withoutL t.items (nth l i).e.key := by simp [stepL, hd]
          (refine S_op ?_; refine W_assignSl (by first | rfl | assumption) ?_; refine S_op ?_; refine W_assignSl (by first | rfl | assumption) ?_; refine S_nil ?_; refine CW_seq ?_; refine CW_seq ?_; refine CW_region rfl ?_; refine S_op ?_; refine W_moveSl (by first | rfl | assumption) ?_; refine S_op ?_; refine W_moveInt (by first | rfl | assumption) ?_; refine S_op ?_; refine W_index (by first | rfl | assumption) (by first | rfl | assumption) (by first | assumption | omega | decide) (by first | rfl | assumption) ?_; refine S_op ?_; refine W_field (by first | rfl | assumption) ?_; refine S_op ?_; refine W_loadBo (by first | rfl | assumption) (by assumption) (by first | assumption | omega) (by assumption) (by assumption) ?_; refine S_nil ?_; refine CW_true (by first | rfl | assumption) ?_; refine CW_seq ?_; refine CW_region rfl ?_; refine S_op ?_; refine W_movePtr (by first | rfl | assumption) ?_; refine S_op ?_; refine W_moveSl (by first | rfl | assumption) ?_; refine S_op ?_; refine W_moveInt (by first | rfl | assumption) ?_; refine S_op ?_; refine W_index (by first | rfl | assumption) (by first | rfl | assumption) (by first | assumption | omega | decide) (by first | rfl | assumption) ?_; refine S_op ?_; refine W_field (by first | rfl | assumption) ?_; refine S_op ?_; refine W_field (by first | rfl | assumption) ?_; refine S_op ?_; refine W_loadOb (by first | rfl | assumption) (by assumption) (by first | assumption | omega) (by assumption) ?_)
          (refine S_op ?_; refine W_call hS (by rfl) (tDel_c (nth l i).e.key ht (by omega)) ?_); rintro v H w hG' ⟨t', rfl, ht', hd', _⟩; replace hG := hG.trans hG'; replace hS := hG'.sub; replace hl := hl.mono hG'.le; replace hkp' := hkp'.mono hG'.le; replace ho1' := ho1'.grow hG'; replace ho2' := ho2'.grow hG'; clear hG'
          (refine S_op ?_; refine W_moveTup (by first | rfl | assumption) ?_; refine S_op ?_; refine W_extract (by first | rfl | assumption) (by rfl) ?_; refine S_op ?_; refine W_extract (by first | rfl | assumption) (by rfl) ?_; refine S_op ?_; refine W_assignPtr (by first | rfl | assumption) ?_; refine S_nil ?_; refine CW_exit ?_; refine CW_region rfl ?_; refine S_op ?_; refine W_add1 (by first | rfl | assumption) (by omega) ?_; refine S_op ?_; refine W_moveInt (by first | rfl | assumption) ?_; refine S_nil ?_)
          exact ⟨(by repeat (first | exact AgreeOff.over | refine AgreeOff.upd rfl ?_ | refine AgreeOff.over2 rfl ?_)), m - 1, by omega, i + 1, t', qs, A1', A2', c1', c2', H, rfl, rfl, rfl, rfl, hG, hl, ht', by rw [hd'.items, ← hst]; omega, ho1', ho2', hne, hkp', hpl', by omega, by omega⟩
        | false =>
          have hst : stepL t.items (nth l i) = putL t.items (nth l i).e := by simp [stepL, hd]
          by_cases he : putE (nth l i).e = 0
          · have hst2 : stepL t.items (nth l i) = withL t.items (nth l i).e := by rw [hst]; simp [putL, putE_ok.1 he]
            (refine S_op ?_; refine W_assignSl (by first | rfl | assumption) ?_; refine S_op ?_; refine W_assignSl (by first | rfl | assumption) ?_; refine S_nil ?_; refine CW_seq ?_; refine CW_seq ?_; refine CW_region rfl ?_; refine S_op ?_; refine W_moveSl (by first | rfl | assumption) ?_; refine S_op ?_; refine W_moveInt (by first | rfl | assumption) ?_; refine S_op ?_; refine W_index (by first | rfl | assumption) (by first | rfl | assumption) (by first | assumption | omega | decide) (by first | rfl | assumption) ?_; refine S_op ?_; refine W_field (by first | rfl | assumption) ?_; refine S_op ?_; refine W_loadBo (by first | rfl | assumption) (by assumption) (by first | assumption | omega) (by assumption) (by assumption) ?_; refine S_nil ?_; refine CW_false (by first | rfl | assumption) ?_; refine CW_skip ?_; refine CW_seq ?_; refine CW_region rfl ?_; refine S_op ?_; refine W_movePtr (by first | rfl | assumption) ?_; refine S_op ?_; refine W_moveSl (by first | rfl | assumption) ?_; refine S_op ?_; refine W_moveInt (by first | rfl | assumption) ?_; refine S_op ?_; refine W_index (by first | rfl | assumption) (by first | rfl | assumption) (by first | assumption | omega | decide) (by first | rfl | assumption) ?_; refine S_op ?_; refine W_field (by first | rfl | assumption) ?_; refine S_op ?_; refine W_loadOe (by first | rfl | assumption) (by assumption) (by first | assumption | omega) (by assumption) ?_)
            (refine S_op ?_; refine W_call hS (by rfl) (tPut_c (nth l i).e ht (by omega)) ?_); rintro v H w hG' ⟨t', rfl, _, hp⟩; replace hG := hG.trans hG'; replace hS := hG'.sub; replace hl := hl.mono hG'.le; replace hkp' := hkp'.mono hG'.le; replace ho1' := ho1'.grow hG'; replace ho2' := ho2'.grow hG'; clear hG'
            obtain ⟨ht', hp'⟩ := hp he
            (refine S_op ?_; refine W_moveTup (by first | rfl | assumption) ?_; refine S_op ?_; refine W_extract (by first | rfl | assumption) (by rfl) ?_; refine S_op ?_; refine W_extract (by first | rfl | assumption) (by rfl) ?_; refine S_op ?_; refine W_assignPtr (by first | rfl | assumption) ?_; refine S_op ?_; refine W_assignInt (by first | rfl | assumption) ?_; refine S_nil ?_; refine CW_seq ?_; refine CW_region rfl ?_; refine S_op ?_; refine W_moveInt (by first | rfl | assumption) ?_; refine S_op ?_; refine W_eqlT (by first | rfl | assumption) (by first | rfl | assumption) (by first | omega | rfl) ?_; refine S_nil ?_; refine CW_true (by first | rfl | assumption) ?_; refine CW_region rfl ?_; refine S_op ?_; refine W_movePtr (by first | rfl | assumption) ?_; refine S_op ?_; refine W_assignPtr (by first | rfl | assumption) ?_; refine S_nil ?_; refine CW_region rfl ?_; refine S_op ?_; refine W_add1 (by first | rfl | assumption) (by omega) ?_; refine S_op ?_; refine W_moveInt (by first | rfl | assumption) ?_; refine S_nil ?_)
            exact ⟨(by repeat (first | exact AgreeOff.over | refine AgreeOff.upd rfl ?_ | refine AgreeOff.over2 rfl ?_)), m - 1, by omega, i + 1, t', qs, A1', A2', c1', c2', H, rfl, rfl, rfl, rfl, hG, hl, ht', by rw [hp'.items, ← hst2]; omega, ho1', ho2', hne, hkp', hpl', by omega, by omega⟩
          · (refine S_op ?_; refine W_assignSl (by first | rfl | assumption) ?_; refine S_op ?_; refine W_assignSl (by first | rfl | assumption) ?_; refine S_nil ?_; refine CW_seq ?_; refine CW_seq ?_; refine CW_region rfl ?_; refine S_op ?_; refine W_moveSl (by first | rfl | assumption) ?_; refine S_op ?_; refine W_moveInt (by first | rfl | assumption) ?_; refine S_op ?_; refine W_index (by first | rfl | assumption) (by first | rfl | assumption) (by first | assumption | omega | decide) (by first | rfl | assumption) ?_; refine S_op ?_; refine W_field (by first | rfl | assumption) ?_; refine S_op ?_; refine W_loadBo (by first | rfl | assumption) (by assumption) (by first | assumption | omega) (by assumption) (by assumption) ?_; refine S_nil ?_; refine CW_false (by first | rfl | assumption) ?_; refine CW_skip ?_; refine CW_seq ?_; refine CW_region rfl ?_; refine S_op ?_; refine W_movePtr (by first | rfl | assumption) ?_; refine S_op ?_; refine W_moveSl (by first | rfl | assumption) ?_; refine S_op ?_; refine W_moveInt (by first | rfl | assumption) ?_; refine S_op ?_; refine W_index (by first | rfl | assumption) (by first | rfl | assumption) (by first | assumption | omega | decide) (by first | rfl | assumption) ?_; refine S_op ?_; refine W_field (by first | rfl | assumption) ?_; refine S_op ?_; refine W_loadOe (by first | rfl | assumption) (by assumption) (by first | assumption | omega) (by assumption) ?_)
            (refine S_op ?_; refine W_call hS (by rfl) (tPut_c (nth l i).e ht (by omega)) ?_); rintro v H w hG' ⟨t', rfl, _, _⟩; replace hG := hG.trans hG'; replace hS := hG'.sub; replace hl := hl.mono hG'.le; replace ht := ht.mono hG'.le; replace hkp' := hkp'.mono hG'.le; replace ho1' := ho1'.grow hG'; replace ho2' := ho2'.grow hG'; clear hG'
            (refine S_op ?_; refine W_moveTup (by first | rfl | assumption) ?_; refine S_op ?_; refine W_extract (by first | rfl | assumption) (by rfl) ?_; refine S_op ?_; refine W_extract (by first | rfl | assumption) (by rfl) ?_; refine S_op ?_; refine W_assignPtr (by first | rfl | assumption) ?_; refine S_op ?_; refine W_assignInt (by first | rfl | assumption) ?_; refine S_nil ?_; refine CW_seq ?_; refine CW_region rfl ?_; refine S_op ?_; refine W_moveInt (by first | rfl | assumption) ?_; refine S_op ?_; refine W_eqlF (by first | rfl | assumption) (by first | rfl | assumption) (by first | omega | rfl) ?_; refine S_nil ?_; refine CW_false (by first | rfl | assumption) ?_; refine CW_skip ?_; refine CW_region rfl ?_; refine S_op ?_; refine W_add1 (by first | rfl | assumption) (by omega) ?_; refine S_op ?_; refine W_moveInt (by first | rfl | assumption) ?_; refine S_nil ?_)
            exact ⟨(by repeat (first | exact AgreeOff.over | refine AgreeOff.upd rfl ?_ | refine AgreeOff.over2 rfl ?_)), m - 1, by omega, i + 1, t, qs, A1', A2', c1', c2', H, rfl, h5, rfl, rfl, hG, hl, ht, by omega, ho1', ho2', hne, hkp', hpl', by omega, by omega⟩
      · have hin : i = l.length := by omega
        obtain ⟨H3, hle3, hG3, hsl3, hout3⟩ := ho1.freeze hG
        have ho2' : Own H3 w w0.heap.size 22 1 A2 i c2 (eCells ps) := ⟨ho2.row, fun a ha => by
          rw [hout3 a.block (fun a1 h1 => (hne a1 a h1 ha).symm)]; exact ho2.out a ha⟩
        obtain ⟨H4, hle4, hG4, hsl4, _⟩ := ho2'.freeze hG3
        replace hsl3 := hsl3.mono hle4
        replace hkp := (hkp.mono hle3).mono hle4
        replace hS := hG4.sub
        clear ho1 ho2 ho2' hout3 hle3 hle4 hG3 hG ht hl
        (refine CW_seq ?_; refine CW_region rfl ?_; refine S_op ?_; refine W_lssF (by first | rfl | assumption) (by first | rfl | assumption) (by first | omega | rfl) ?_; refine S_nil ?_; refine CW_seq ?_; refine CW_false (by first | rfl | assumption) ?_; refine CW_exit ?_; refine CW_seq ?_; refine CW_seq ?_; refine CW_region rfl ?_; refine S_op ?_; refine W_moveSl (by first | rfl | assumption) ?_; refine S_op ?_; refine W_len (by first | rfl | assumption) ?_; refine S_op ?_; refine W_moveInt (by first | rfl | assumption) ?_; refine S_nil ?_; refine CW_block ?_)
        refine CW_loopM [2, 9, 69, 70, 71, 72, 73, 74, 75, 76, 77, 78, 79, 80, 81, 82, 83, 84, 85, 86, 87, 88, 89, 90, 91]
          (fun m u w2 => ∃ (j : Nat) (H2 : HF), u 69 = .int .i64 (j : Int) ∧ Grow H4 w H2 w2 ∧ j ≤ ps.length ∧ ps.length - j ≤ m)
          (m := ps.length) ⟨0, H4, rfl, Grow.refl hS, by omega, by omega⟩ ?_
        rintro m2 u2 w2 ⟨j, H2, h69, hG2, hj, hm2⟩
        have hG5 := hG4.trans hG2
        replace hS := hG2.sub
        replace hsl3 := hsl3.mono hG2.le
        replace hsl4 := hsl4.mono hG2.le
        replace hkp := hkp.mono hG2.le
        by_cases hjl : j < ps.length
        · obtain ⟨b1, off1, hA1, hrow1⟩ := slAt_some (l := ps) (val := fun p : Tr × Value => p.1.val) hsl3 hjl
          obtain ⟨b2, off2, hA2, hrow2⟩ := slAt_some (l := ps) (val := fun p : Tr × Value => p.2) hsl4 hjl
          obtain ⟨p1, p2, p3⟩ := hkp ps[j] (List.getElem_mem _)
          have hg1 : (ps.map fun p : Tr × Value => p.1.val)[j * 1]? = some (ps[j]).1.val := by simp [hjl]
          have hg2 : (ps.map fun p : Tr × Value => p.2)[j * 1]? = some (ps[j]).2 := by simp [hjl]
          obtain ⟨Ae, ce, hve, hce, hle⟩ := p2
          rw [hve] at hg2
          generalize (ps[j]).1 = tt at *
          (refine CW_seq ?_; refine CW_region rfl ?_; refine S_op ?_; refine W_lssT (by first | rfl | assumption) (by first | rfl | assumption) (by first | omega | rfl) ?_; refine S_nil ?_; refine CW_seq ?_; refine CW_true (by first | rfl | assumption) ?_; refine CW_skip ?_; refine CW_seq ?_; refine CW_block ?_; refine CW_seq ?_; refine CW_region rfl ?_; refine S_op ?_; refine W_moveInt (by first | rfl | assumption) ?_; refine S_op ?_; refine W_assignInt (by first | rfl | assumption) ?_; refine S_nil ?_; refine CW_seq ?_)
          apply CW_region_grow [_, _, _, _, _, _, _, _, _, _, _, _, _, _, _, _, _, _, _] [none, none, none, none, none, none, none, none, none, none, none, none, none, none, none, none, none, none, none] [some 72, some 73, some 74, some 75, some 76, some 77, some 78, some 79, some 80, some 81, some 82, some 83, some 84, some 85, some 86, some 87, some 88, some 89, some 90] [72, 73, 74, 75, 76, 77, 78, 79, 80, 81, 82, 83, 84, 85, 86, 87, 88, 89, 90] mixed rfl rfl rfl rfl (by decide) rfl (by assumption)
          · ((apply steps_cons; case h1 => (apply A_pure; intro c u H' w' hG; have hS' := hG.sub; have hS2' := hG.subOld; (repeat (first | refine depGo_eq rfl rfl rfl ?_ | (refine depGo_fact rfl rfl rfl ?_; intro v hv) | refine depGo_skip rfl ?_ | refine depGo_none rfl ?_)); apply Pure1.mk; intro K hk; exact W_moveSl (by first | rfl | assumption) hk)); (apply steps_cons; case h1 => (apply A_pure; intro c u H' w' hG; have hS' := hG.sub; have hS2' := hG.subOld; (repeat (first | refine depGo_eq rfl rfl rfl ?_ | (refine depGo_fact rfl rfl rfl ?_; intro v hv) | refine depGo_skip rfl ?_ | refine depGo_none rfl ?_)); apply Pure1.mk; intro K hk; exact W_moveInt (by first | rfl | assumption) hk)); (apply steps_cons; case h1 => (apply A_pure; intro c u H' w' hG; have hS' := hG.sub; have hS2' := hG.subOld; (repeat (first | refine depGo_eq rfl rfl rfl ?_ | (refine depGo_fact rfl rfl rfl ?_; intro v hv) | refine depGo_skip rfl ?_ | refine depGo_none rfl ?_)); apply Pure1.mk; intro K hk; exact W_index (by first | rfl | assumption) (by first | rfl | assumption) (by first | assumption | omega | decide) (by first | rfl | assumption) hk)))
            apply steps_cons; case h1 => (apply A_pure; intro c u H' w' hG'; have hS2' := hG'.subOld; (repeat (first | refine depGo_eq rfl rfl rfl ?_ | (refine depGo_fact rfl rfl rfl ?_; intro v hv) | refine depGo_skip rfl ?_ | refine depGo_none rfl ?_)); apply Pure1.mk; intro K hk; exact W_loadRow (j := j * 1) (by rfl) hrow1 hg1 hS2' hk)
            (apply steps_cons; case h1 => (refine A_fact (φ := (fun v H => IsEnts v tt.items H)) ?_; intro c' u H' w' hG; have hS' := hG.sub; (repeat (first | refine depGo_eq rfl rfl rfl ?_ | (refine depGo_fact rfl rfl rfl ?_; intro v hv) | refine depGo_skip rfl ?_ | refine depGo_none rfl ?_)); refine depGo_nil ?_; refine W_call hS' (by rfl) (items_t (p1.mono hG.le).at_ (by omega)) ?_; intro v H3 w3 hG3 hr; exact ⟨H3, hG3.le, hG.trans hG3, fun H'' hle => hr.mono hle⟩))
            ((apply steps_cons; case h1 => (apply A_pure; intro c u H' w' hG; have hS' := hG.sub; have hS2' := hG.subOld; (repeat (first | refine depGo_eq rfl rfl rfl ?_ | (refine depGo_fact rfl rfl rfl ?_; intro v hv) | refine depGo_skip rfl ?_ | refine depGo_none rfl ?_)); apply Pure1.mk; intro K hk; exact W_moveSl (by first | rfl | assumption) hk)); (apply steps_cons; case h1 => (apply A_pure; intro c u H' w' hG; have hS' := hG.sub; have hS2' := hG.subOld; (repeat (first | refine depGo_eq rfl rfl rfl ?_ | (refine depGo_fact rfl rfl rfl ?_; intro v hv) | refine depGo_skip rfl ?_ | refine depGo_none rfl ?_)); apply Pure1.mk; intro K hk; exact W_moveInt (by first | rfl | assumption) hk)); (apply steps_cons; case h1 => (apply A_pure; intro c u H' w' hG; have hS' := hG.sub; have hS2' := hG.subOld; (repeat (first | refine depGo_eq rfl rfl rfl ?_ | (refine depGo_fact rfl rfl rfl ?_; intro v hv) | refine depGo_skip rfl ?_ | refine depGo_none rfl ?_)); apply Pure1.mk; intro K hk; exact W_index (by first | rfl | assumption) (by first | rfl | assumption) (by first | assumption | omega | decide) (by first | rfl | assumption) hk)))
            apply steps_cons; case h1 => (apply A_pure; intro c u H' w' hG'; have hS2' := hG'.subOld; (repeat (first | refine depGo_eq rfl rfl rfl ?_ | (refine depGo_fact rfl rfl rfl ?_; intro v hv) | refine depGo_skip rfl ?_ | refine depGo_none rfl ?_)); apply Pure1.mk; intro K hk; exact W_loadRow (j := j * 1) (by rfl) hrow2 hg2 hS2' hk)
            (apply steps_cons; case h1 => (refine A_fact (φ := (fun v _ => v = .bool true)) ?_; intro c' u H' w' hG'; have hS' := hG'.sub; (repeat (first | refine depGo_eq rfl rfl rfl ?_ | (refine depGo_fact rfl rfl rfl ?_; intro v hv) | refine depGo_skip rfl ?_ | refine depGo_none rfl ?_)); obtain ⟨A6, c6, rfl, hc6, hl6⟩ := hv; refine depGo_nil ?_; refine W_call hS' (by rfl) (((same_c H' A6 Ae c6 ce tt.items tt.items hl6 (hle.mono hG'.le) (by omega)).mono (fun v H' _ hv => (by rw [hv, decide_eq_true rfl] : v = .bool true)))) ?_; intro v H3 w3 hG3 hr; exact ⟨H3, hG3.le, hG'.trans hG3, fun H'' hle => hr⟩))
            ((apply steps_cons; case h1 => (apply A_pure; intro c u H' w' hG; have hS' := hG.sub; have hS2' := hG.subOld; (repeat (first | refine depGo_eq rfl rfl rfl ?_ | (refine depGo_fact rfl rfl rfl ?_; intro v hv) | refine depGo_skip rfl ?_ | refine depGo_none rfl ?_)); apply Pure1.mk; intro K hk; exact W_not (by first | rfl | assumption) hk)); (apply steps_cons; case h1 => (apply A_pure; intro c u H' w' hG; have hS' := hG.sub; have hS2' := hG.subOld; (repeat (first | refine depGo_eq rfl rfl rfl ?_ | (refine depGo_fact rfl rfl rfl ?_; intro v hv) | refine depGo_skip rfl ?_ | refine depGo_none rfl ?_)); apply Pure1.mk; intro K hk; exact W_moveBool (by first | rfl | assumption) hk)); (apply steps_cons; case h1 => (apply A_want; intro c u H' w' hG; have hS' := hG.sub; have hS2' := hG.subOld; (repeat (first | refine depGo_eq rfl rfl rfl ?_ | (refine depGo_fact rfl rfl rfl ?_; intro v hv) | refine depGo_skip rfl ?_ | refine depGo_none rfl ?_)); apply Pure2.mk; (case want => rfl); intro K hk; exact W_moveSl (by first | rfl | assumption) hk)); (apply steps_cons; case h1 => (apply A_want; intro c u H' w' hG; have hS' := hG.sub; have hS2' := hG.subOld; (repeat (first | refine depGo_eq rfl rfl rfl ?_ | (refine depGo_fact rfl rfl rfl ?_; intro v hv) | refine depGo_skip rfl ?_ | refine depGo_none rfl ?_)); apply Pure2.mk; (case want => rfl); intro K hk; exact W_moveInt (by first | rfl | assumption) hk)); (apply steps_cons; case h1 => (apply A_want; intro c u H' w' hG; have hS' := hG.sub; have hS2' := hG.subOld; (repeat (first | refine depGo_eq rfl rfl rfl ?_ | (refine depGo_fact rfl rfl rfl ?_; intro v hv) | refine depGo_skip rfl ?_ | refine depGo_none rfl ?_)); apply Pure2.mk; (case want => rfl); intro K hk; exact W_index (by first | rfl | assumption) (by first | rfl | assumption) (by first | assumption | omega | decide) (by first | rfl | assumption) hk)))
            apply steps_cons; case h1 => (apply A_want; intro c u H' w' hG'; have hS2' := hG'.subOld; (repeat (first | refine depGo_eq rfl rfl rfl ?_ | (refine depGo_fact rfl rfl rfl ?_; intro v hv) | refine depGo_skip rfl ?_ | refine depGo_none rfl ?_)); apply Pure2.mk; (case want => rfl); intro K hk; exact W_loadRow (j := j * 1) (by rfl) hrow1 hg1 hS2' hk)
            (apply steps_cons; case h1 => (refine A_factG (φ := (fun v _ => v = .bool true)) ?_; intro c' u H' w' hG; have hS' := hG.sub; (repeat (first | refine depGo_eq rfl rfl rfl ?_ | (refine depGo_fact rfl rfl rfl ?_; intro v hv) | refine depGo_skip rfl ?_ | refine depGo_none rfl ?_)); refine depGo_nil ⟨rfl, ?_⟩; refine W_call hS' (by rfl) (((right_t (p1.mono hG.le).at_).mono (fun v H' _ hv => (by rw [hv, p1.full] : v = .bool true)))) ?_; intro v H3 w3 hG3 hr; exact ⟨H3, hG3.le, hG.trans hG3, fun H'' hle => hr⟩))
            ((apply steps_cons; case h1 => (apply A_want; intro c u H' w' hG; have hS' := hG.sub; have hS2' := hG.subOld; (repeat (first | refine depGo_eq rfl rfl rfl ?_ | (refine depGo_fact rfl rfl rfl ?_; intro v hv) | refine depGo_skip rfl ?_ | refine depGo_none rfl ?_)); apply Pure2.mk; (case want => rfl); intro K hk; exact W_not (by first | rfl | assumption) hk)); (apply steps_cons; case h1 => (apply A_pure; intro c u H' w' hG; have hS' := hG.sub; have hS2' := hG.subOld; (repeat (first | refine depGo_eq rfl rfl rfl ?_ | (refine depGo_fact rfl rfl rfl ?_; intro v hv) | refine depGo_skip rfl ?_ | refine depGo_none rfl ?_)); apply Pure1.mk; intro K hk; exact W_pickF (by first | rfl | assumption) (by first | rfl | assumption) hk)); exact trivial)
          · (intro H' w' hG; (repeat (first | refine fin_eq rfl rfl ?_ | (refine fin_fact rfl ?_; intro v hv) | refine fin_none rfl ?_)); refine fin_nil ?_)
            (refine CW_false (by first | rfl | assumption) ?_; refine CW_skip ?_; refine CW_region rfl ?_; refine S_op ?_; refine W_add1 (by first | rfl | assumption) (by omega) ?_; refine S_op ?_; refine W_moveInt (by first | rfl | assumption) ?_; refine S_nil ?_)
            exact ⟨(by repeat (first | exact AgreeOff.over | refine AgreeOff.upd rfl ?_ | refine AgreeOff.over2 rfl ?_)), m2 - 1, by omega, j + 1, H', rfl, hG2.trans hG, by omega, by omega⟩
        · (refine CW_seq ?_; refine CW_region rfl ?_; refine S_op ?_; refine W_lssF (by first | rfl | assumption) (by first | rfl | assumption) (by first | omega | rfl) ?_; refine S_nil ?_; refine CW_seq ?_; refine CW_false (by first | rfl | assumption) ?_; refine CW_exit ?_; refine CW_seq ?_; refine CW_region rfl ?_; refine S_op ?_; refine W_assignBool (by first | rfl | assumption) ?_; refine S_nil ?_; refine CW_ret ?_)
          exact ⟨_, ResW_one (v := .bool _) rfl, H2, hG5, rfl⟩
end Go.Proofs.Ytlkbdgfipdeloaa
