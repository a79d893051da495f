/- Histories that can have been done one after the other: plain laws. Conditions: none. -/
import Derived.Test.YtcbboghjocoiiaaHist1
namespace Go.Proofs.Ytcbboghjocoiiaa
open Go.Proofs Go.RowKit
set_option linter.unusedVariables false
def Fits : List Ent → List Don → Prop
  | _, [] => True
  | l, d :: p => (∀ e ∈ p, ¬ e.to_ < d.from_) ∧ doesR l d.x = d.r ∧ Fits (doesL l d.x) p
def Lin (l : List Ent) (h : List Don) : Prop := ∃ p, p.Perm h ∧ Fits l p
def MayP (h : List Don) (i : Nat) : Prop := ∀ k, k < h.length → k ≠ i → ¬ (don h k).to_ < (don h i).from_
def IsB (v : Value) (p : Prop) : Prop := (v = .bool true ∧ p) ∨ (v = .bool false ∧ ¬ p)
theorem IsB.iff {v : Value} {p q : Prop} (h : IsB v p) (e : p ↔ q) : IsB v q := by
  rcases h with ⟨h1, h2⟩ | ⟨h1, h2⟩
  · exact .inl ⟨h1, e.1 h2⟩
  · exact .inr ⟨h1, fun h => h2 (e.2 h)⟩
theorem IsB.bool {v : Value} {p : Prop} (h : IsB v p) : ∃ z, v = .bool z ∧ (z = true ↔ p) := by
  rcases h with ⟨h1, h2⟩ | ⟨h1, h2⟩
  · exact ⟨true, h1, fun _ => h2, fun _ => rfl⟩
  · exact ⟨false, h1, (fun h => by cases h), fun h => absurd h h2⟩
theorem don_split {h : List Don} {i : Nat} (hi : i < h.length) : h = h.take i ++ don h i :: h.drop (i + 1) := by
  have := don_get hi
  conv => lhs; rw [← List.take_append_drop i h]
  rw [List.drop_eq_getElem_cons hi]
  rw [List.getElem?_eq_getElem hi] at this
  rw [Option.some.inj this]
theorem don_perm {h : List Don} {i : Nat} (hi : i < h.length) : (don h i :: (h.take i ++ h.drop (i + 1))).Perm h := by
  conv => rhs; rw [don_split hi]
  exact List.perm_middle.symm
theorem don_rest {h : List Don} {i k : Nat} (hi : i < h.length) (hk : k < h.length) (hne : k ≠ i) : don h k ∈ h.take i ++ h.drop (i + 1) := by
  rw [List.mem_append]
  rcases Nat.lt_or_ge k i with h1 | h1
  · left
    exact List.mem_of_getElem? (i := k) (by rw [List.getElem?_take, if_pos h1]; exact don_get hk)
  · right
    exact List.mem_of_getElem? (i := k - (i + 1)) (by rw [List.getElem?_drop, show i + 1 + (k - (i + 1)) = k by omega]; exact don_get hk)
theorem rest_don {h : List Don} {i : Nat} {e : Don} (he : e ∈ h.take i ++ h.drop (i + 1)) : ∃ k, k < h.length ∧ k ≠ i ∧ don h k = e := by
  rcases List.mem_append.1 he with h1 | h1
  · obtain ⟨k, hk, h2⟩ := List.mem_iff_getElem.1 h1
    have hk' : k < i ∧ k < h.length := by simp at hk; omega
    refine ⟨k, by omega, by omega, ?_⟩
    have := don_get hk'.2
    rw [List.getElem_take] at h2
    rw [List.getElem?_eq_getElem hk'.2, h2] at this
    exact (Option.some.inj this).symm
  · obtain ⟨k, hk, h2⟩ := List.mem_iff_getElem.1 h1
    have hk' : i + 1 + k < h.length := by simp at hk; omega
    refine ⟨i + 1 + k, hk', by omega, ?_⟩
    have := don_get hk'
    rw [List.getElem_drop] at h2
    rw [List.getElem?_eq_getElem hk', h2] at this
    exact (Option.some.inj this).symm
theorem lin_nil (l : List Ent) : Lin l [] := ⟨[], List.Perm.refl _, trivial⟩
theorem lin_step {l : List Ent} {h : List Don} (h0 : h ≠ []) : Lin l h ↔ ∃ i, i < h.length ∧ MayP h i ∧ doesR l (don h i).x = (don h i).r ∧ Lin (doesL l (don h i).x) (h.take i ++ h.drop (i + 1)) := by
  constructor
  · rintro ⟨p, hp, hf⟩
    cases p with
    | nil => exact absurd (List.Perm.eq_nil hp.symm) h0
    | cons d p =>
      obtain ⟨h1, h2, h3⟩ := hf
      obtain ⟨i, hi, hd⟩ := List.mem_iff_getElem.1 (hp.subset (List.mem_cons_self))
      have hd' : don h i = d := by
        have := don_get hi
        rw [List.getElem?_eq_getElem hi, hd] at this
        exact (Option.some.inj this).symm
      have hpp : p.Perm (h.take i ++ h.drop (i + 1)) := by
        have := hp.trans (don_perm hi).symm
        rw [hd'] at this
        exact List.Perm.cons_inv this
      subst hd'
      refine ⟨i, hi, fun k hk hne => h1 _ (hpp.symm.subset (don_rest hi hk hne)), h2, p, hpp, h3⟩
  · rintro ⟨i, hi, h1, h2, p, hp, h3⟩
    refine ⟨don h i :: p, (hp.cons _).trans (don_perm hi), fun e he => ?_, h2, h3⟩
    obtain ⟨k, hk, hne, rfl⟩ := rest_don (hp.subset he)
    exact h1 k hk hne
theorem lin_perm {l : List Ent} {h h' : List Don} (hp : h.Perm h') : Lin l h ↔ Lin l h' :=
  ⟨fun ⟨p, h1, h2⟩ => ⟨p, h1.trans hp, h2⟩, fun ⟨p, h1, h2⟩ => ⟨p, h1.trans hp.symm, h2⟩⟩
/-! ### The reference's way -/
def afterH (l : List Ent) (h : List Don) : List Ent := h.foldl (fun l d => doesL l d.x) l
theorem afterH_rise {l : List Ent} (hr : riseB l = true) (h : List Don) : riseB (afterH l h) = true := by
  induction h generalizing l with
  | nil => exact hr
  | cons d h ih => exact ih (doesL_rise hr d.x)
theorem afterH_len (l : List Ent) (h : List Don) : (afterH l h).length ≤ l.length + h.length := by
  induction h generalizing l with
  | nil => exact Nat.le_refl _
  | cons d h ih =>
    have h1 := ih (doesL l d.x)
    have h2 := doesL_len l d.x
    show (afterH (doesL l d.x) h).length ≤ _
    simp only [List.length_cons]; omega
theorem afterH_take {l : List Ent} {h : List Don} {i : Nat} (hi : i < h.length) : afterH l (h.take (i + 1)) = doesL (afterH l (h.take i)) (don h i).x := by
  have h1 : h[i] = don h i := by
    have := don_get hi
    rw [List.getElem?_eq_getElem hi] at this
    exact Option.some.inj this
  rw [take_succ' hi, h1]
  simp [afterH, List.foldl_append]
def OkAt (l : List Ent) (h : List Don) (i : Nat) : Prop := (∀ k, k < i → ¬ (don h i).to_ < (don h k).from_) ∧ doesR (afterH l (h.take i)) (don h i).x = (don h i).r
theorem fits_iff {l : List Ent} {h : List Don} : Fits l h ↔ ∀ i, i < h.length → OkAt l h i := by
  induction h generalizing l with
  | nil => exact ⟨fun _ i hi => by simp at hi, fun _ => trivial⟩
  | cons d p ih =>
    simp only [Fits]
    rw [ih]
    constructor
    · rintro ⟨h1, h2, h3⟩ i hi
      cases i with
      | zero => exact ⟨fun k hk => by omega, h2⟩
      | succ i =>
        have hi' : i < p.length := by simpa using hi
        obtain ⟨h4, h5⟩ := h3 i hi'
        refine ⟨fun k hk => ?_, h5⟩
        cases k with
        | zero => exact h1 _ (don_mem hi')
        | succ k => exact h4 k (by omega)
    · intro h
      refine ⟨fun e he => ?_, (h 0 (by simp)).2, fun i hi => ?_⟩
      · obtain ⟨i, hi, rfl⟩ := List.mem_iff_getElem.1 he
        have h1 := (h (i + 1) (by simpa using hi)).1 0 (by omega)
        have h2 : don (d :: p) (i + 1) = p[i] := by simp [don, hi]
        rw [h2] at h1
        exact h1
      · obtain ⟨h1, h2⟩ := h (i + 1) (by simpa using hi)
        exact ⟨fun k hk => h1 (k + 1) (by omega), h2⟩
def OrdR (l : List Ent) (a r : List Don) : Prop := ∃ p, p.Perm r ∧ Fits l (a ++ p)
theorem ordR_nil {l : List Ent} {a : List Don} : OrdR l a [] ↔ Fits l a :=
  ⟨fun ⟨p, h1, h2⟩ => by rw [List.Perm.eq_nil h1, List.append_nil] at h2; exact h2, fun h => ⟨[], List.Perm.refl _, by rw [List.append_nil]; exact h⟩⟩
theorem ordR_step {l : List Ent} {a r : List Don} (h0 : r ≠ []) : OrdR l a r ↔ ∃ i, i < r.length ∧ OrdR l (a ++ [don r i]) (r.take i ++ r.drop (i + 1)) := by
  constructor
  · rintro ⟨p, hp, hf⟩
    cases p with
    | nil => exact absurd (List.Perm.eq_nil hp.symm) h0
    | cons d p =>
      obtain ⟨i, hi, hd⟩ := List.mem_iff_getElem.1 (hp.subset (List.mem_cons_self))
      have hd' : don r i = d := by
        have := don_get hi
        rw [List.getElem?_eq_getElem hi, hd] at this
        exact (Option.some.inj this).symm
      subst hd'
      exact ⟨i, hi, p, List.Perm.cons_inv (hp.trans (don_perm hi).symm), by rw [List.append_assoc]; exact hf⟩
  · rintro ⟨i, hi, p, hp, hf⟩
    exact ⟨don r i :: p, (hp.cons _).trans (don_perm hi), by rw [List.append_assoc] at hf; exact hf⟩
theorem ordR_lin {l : List Ent} {h : List Don} : OrdR l [] h ↔ Lin l h := Iff.rfl
end Go.Proofs.Ytcbboghjocoiiaa
