/- Lengths; what changes make of keys: plain laws. Conditions: keys rise. -/
import Derived.Test.YtnjeoobcejlojaaDiff3
import Derived.Test.YtnjeoobcejlojaaDiff4
import Derived.Test.YtnjeoobcejlojaaDiff5
namespace Go.Proofs.Ytnjeoobcejlojaa
open Go.Proofs Go.RowKit
set_option linter.unusedVariables false
theorem ofM_len (a b : List Ent) : (ofM a b).length ≤ a.length + b.length := by
  have : ∀ (n : Nat) (a b : List Ent), a.length + b.length = n → (ofM a b).length ≤ a.length + b.length := by
    intro n
    induction n using Nat.strongRecOn with
    | _ n ih =>
      intro a b hn
      by_cases ha : a.length = 0
      · by_cases hb : b.length = 0
        · have e1 := List.eq_nil_of_length_eq_zero ha
          have e2 := List.eq_nil_of_length_eq_zero hb
          subst e1 e2
          rw [of_both_nil]; simp
        · rw [of_right (by omega) (.inl ha)]
          have := ih (a.length + (b.drop 1).length) (by simp; omega) a (b.drop 1) rfl
          simp only [List.length_cons, List.length_drop] at this ⊢
          omega
      · by_cases hb : b.length = 0
        · rw [of_left (by omega) (.inl hb)]
          have := ih ((a.drop 1).length + b.length) (by simp; omega) (a.drop 1) b rfl
          simp only [List.length_cons, List.length_drop] at this ⊢
          omega
        · cases h1 : slt (ent a 0).key (ent b 0).key with
          | true =>
            rw [of_left (by omega) (.inr h1)]
            have := ih ((a.drop 1).length + b.length) (by simp; omega) (a.drop 1) b rfl
            simp only [List.length_cons, List.length_drop] at this ⊢
            omega
          | false =>
            cases h2 : slt (ent b 0).key (ent a 0).key with
            | true =>
              rw [of_right (by omega) (.inr ⟨h1, h2⟩)]
              have := ih (a.length + (b.drop 1).length) (by simp; omega) a (b.drop 1) rfl
              simp only [List.length_cons, List.length_drop] at this ⊢
              omega
            | false =>
              rw [of_same (by omega) (by omega) h1 h2]
              have := ih ((a.drop 1).length + (b.drop 1).length) (by simp; omega) (a.drop 1) (b.drop 1) rfl
              rw [List.length_append]
              have h3 : (if (ent a 0).val = (ent b 0).val then [] else [both (ent a 0) (ent b 0)]).length ≤ 1 := by split <;> simp
              simp only [List.length_drop] at this
              omega
  exact this _ a b rfl
theorem stepL_other {l : List Ent} (o : Op10) (h : riseB l = true) {k : ByteArray} (hk : o.e.key ≠ k) : look (stepL l o) k = look l k := by
  unfold stepL
  split
  · rw [look_withoutL h, if_neg hk]
  · unfold putL
    split
    · rw [look_withL h, if_neg hk]
    · rfl
theorem runL_rise : ∀ {l : List Ent} (ops : List Op10), riseB l = true → riseB (runL l ops) = true
  | _, [], h => h
  | l, o :: ops, h => runL_rise ops (rise_stepL o h)
theorem runL_other : ∀ {l : List Ent} (ops : List Op10), riseB l = true → ∀ {k : ByteArray}, (∀ o ∈ ops, o.e.key ≠ k) → look (runL l ops) k = look l k
  | _, [], _, _, _ => rfl
  | l, o :: ops, h, k, hk => by
    show look (runL (stepL l o) ops) k = _
    rw [runL_other ops (rise_stepL o h) (fun p hp => hk p (by simp [hp])), stepL_other o h (hk o (by simp))]
theorem few_of_nodup {α : Type} [DecidableEq α] : ∀ {l m : List α}, l.Pairwise (· ≠ ·) → (∀ x ∈ l, x ∈ m) → l.length ≤ m.length
  | [], _, _, _ => Nat.zero_le _
  | x :: l, m, h, hm => by
    rw [List.pairwise_cons] at h
    have h1 := hm x (by simp)
    have h2 := few_of_nodup (m := m.erase x) h.2 fun y hy => (List.mem_erase_of_ne (Ne.symm (h.1 y hy))).2 (hm y (by simp [hy]))
    rw [List.length_erase_of_mem h1] at h2
    have := List.length_pos_of_mem h1
    simp only [List.length_cons]
    omega
theorem of_few {a : List Ent} (ops : List Op10) (ha : riseB a = true) : (ofM a (runL a ops)).length ≤ ops.length := by
  have hb := runL_rise ops ha
  have h1 : ((ofM a (runL a ops)).map Chg.key).length ≤ (ops.map fun o => o.e.key).length := by
    refine few_of_nodup ?_ ?_
    · rw [List.pairwise_map]
      exact (ofM_ups ha hb).imp fun h e => by rw [e, slt_irrefl] at h; cases h
    · intro k hk
      obtain ⟨c, hc, rfl⟩ := List.mem_map.1 hk
      by_cases hn : ∃ o ∈ ops, o.e.key = c.key
      · obtain ⟨o, ho, hok⟩ := hn
        exact List.mem_map.2 ⟨o, ho, hok⟩
      · exfalso
        have h2 := ((ofM_mem ha hb c).1 hc).1
        have h3 := (look_same ha hb (k := c.key)).2 (runL_other ops ha fun o ho e => hn ⟨o, ho, e⟩).symm
        rw [h3] at h2; cases h2
  simpa using h1
theorem of_good {a b : List Ent} (ha : riseB a = true) (hb : riseB b = true) {c : Chg} (hc : c ∈ ofM a b) : (c.was = true ∧ c.is = true ∧ c.old ≠ c.new) ∨ (c.was = true ∧ c.is = false ∧ c.new = ⟨#[]⟩) ∨ (c.was = false ∧ c.is = true ∧ c.old = ⟨#[]⟩) := by
  obtain ⟨h1, h2⟩ := (ofM_mem ha hb c).1 hc
  rw [h2]
  simp only [chgOf]
  simp only [differs, lookB, lookV] at h1 ⊢
  cases e1 : look a c.key with
  | none =>
    cases e2 : look b c.key with
    | none => simp [e1, e2] at h1
    | some y => simp
  | some x =>
    cases e2 : look b c.key with
    | none => simp
    | some y => simp [e1, e2] at h1; simp [h1]
theorem of_rises {a b : List Ent} (ha : riseB a = true) (hb : riseB b = true) {i j : Nat} (hij : i < j) (hj : j < (ofM a b).length) : slt (chg (ofM a b) i).key (chg (ofM a b) j).key = true := by
  have h := List.pairwise_iff_getElem.1 (ofM_ups ha hb) i j (by omega) hj hij
  rw [chg_elem, chg_elem] at h
  exact h
end Go.Proofs.Ytnjeoobcejlojaa
