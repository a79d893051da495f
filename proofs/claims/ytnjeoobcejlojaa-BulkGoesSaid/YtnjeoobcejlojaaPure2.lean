/- The reference's lists are those that were made. Plain lists, no program. Conditions: none. -/
import Derived.Test.YtnjeoobcejlojaaPure
import Derived.Test.YtnjeoobcejlojaaRef03
namespace Go.Proofs.Ytnjeoobcejlojaa
open Go.RowKit
set_option linter.unusedVariables false
theorem rFindGo_below {a r : List Ent} {k : ByteArray} (ha : Below' a k) : ∀ (i n : Nat), rFindGo k (a ++ r) i n = rFindGo k r (i + a.length) (n + a.length) := by
  induction a with
  | nil => intro i n; rfl
  | cons x a ih =>
    intro i n
    have hx := ha x (by simp)
    simp only [List.cons_append, rFindGo, if_neg (slt_ne hx), hx, if_true]
    rw [ih (fun y hy => ha y (by simp [hy]))]
    simp only [List.length_cons]
    congr 1 <;> omega
theorem rFindGo_above {t : List Ent} {k : ByteArray} (ht : Above t k) : ∀ (i n : Nat), rFindGo k t i n = (n, false) := by
  induction t with
  | nil => intro i n; rfl
  | cons x t ih =>
    intro i n
    have hx := ht x (by simp)
    simp only [rFindGo, if_neg (slt_ne hx).symm, slt_asymm hx, Bool.false_eq_true, if_false]
    exact ih (fun y hy => ht y (by simp [hy])) _ _
theorem rFind_eq {l : List Ent} (h : riseB l = true) (k : ByteArray) : rFind l k = (findAt l k, findIs l k) := by
  rcases split_at h k with ⟨a, t, rfl, h1, h2⟩ | ⟨a, x, t, rfl, h1, hx, h2⟩
  · rw [findAt_no h1 h2, findIs_no h1 h2, rFind, rFindGo_below h1, rFindGo_above h2]; simp
  · rw [findAt_yes h1 hx h2, findIs_yes h1 hx h2, rFind, rFindGo_below h1]; simp [rFindGo, hx]
theorem filter_below {a : List Ent} {k : ByteArray} (h : ∀ x ∈ a, x.key ≠ k) : a.filter (fun e => decide (e.key ≠ k)) = a := by
  rw [List.filter_eq_self]; intro x hx; simpa using h x hx
theorem rWithout_eq {l : List Ent} (h : riseB l = true) (k : ByteArray) : rWithout l k = withoutL l k := by
  rcases split_at h k with ⟨a, t, rfl, h1, h2⟩ | ⟨a, x, t, rfl, h1, hx, h2⟩
  · rw [withoutL_no h1 h2, rWithout, List.filter_append, filter_below (fun x hx => slt_ne (h1 x hx)), filter_below (fun x hx => (slt_ne (h2 x hx)).symm)]
  · rw [withoutL_yes h1 hx h2, rWithout, List.filter_append, List.filter_cons, filter_below (fun x hx => slt_ne (h1 x hx)), filter_below (fun x hx => (slt_ne (h2 x hx)).symm)]
    simp [hx]
theorem rWithGo_true {t : List Ent} {e : Ent} (ht : Above t e.key) : rWithGo e t true = t := by
  induction t with
  | nil => rfl
  | cons x t ih =>
    have hx := ht x (by simp)
    rw [rWith_step]
    simp only [Bool.true_eq_false, false_and, if_false, List.nil_append, if_neg (slt_ne hx).symm, Bool.true_or]
    rw [ih (fun y hy => ht y (by simp [hy]))]
    rfl
theorem rWithGo_below {a r : List Ent} {e : Ent} (ha : Below' a e.key) : rWithGo e (a ++ r) false = a ++ rWithGo e r false := by
  induction a with
  | nil => rfl
  | cons x a ih =>
    have hx := ha x (by simp)
    rw [List.cons_append, rWith_step]
    simp only [hx, Bool.true_eq_false, and_false, if_false, List.nil_append, if_neg (slt_ne hx), Bool.not_true, Bool.or_false]
    rw [ih (fun y hy => ha y (by simp [hy]))]
    rfl
theorem rWithGo_above {t : List Ent} {e : Ent} (ht : Above t e.key) : rWithGo e t false = e :: t := by
  cases t with
  | nil => rfl
  | cons x t =>
    have hx := ht x (by simp)
    rw [rWith_step, slt_asymm hx]
    simp only [and_self, if_true, if_neg (slt_ne hx).symm, Bool.not_false, Bool.or_true]
    rw [rWithGo_true (fun y hy => ht y (by simp [hy]))]
    rfl
theorem rWith_eq {l : List Ent} (h : riseB l = true) (e : Ent) : rWith l e = withL l e := by
  rcases split_at h e.key with ⟨a, t, rfl, h1, h2⟩ | ⟨a, x, t, rfl, h1, hx, h2⟩
  · rw [withL_no h1 h2, rWith, rWithGo_below h1, rWithGo_above h2]
  · rw [withL_yes h1 hx h2, rWith, rWithGo_below h1, rWith_step]
    have hs : slt x.key e.key = false := by rw [hx]; exact slt_irrefl _
    simp only [hs, and_self, if_true, if_pos hx, Bool.not_false, Bool.or_true, List.append_nil]
    rw [rWithGo_true h2]
    rfl
/-- A list made of any entries. -/
def builtGo : List Ent → List Ent → List Ent
  | [], out => out
  | e :: l, out => builtGo l (withL out e)
def builtL (l : List Ent) : List Ent := builtGo l []
theorem builtGo_rise : ∀ {l out : List Ent}, riseB out = true → riseB (builtGo l out) = true
  | [], _, h => h
  | e :: l, _, h => builtGo_rise (l := l) (rise_withL e h)
theorem built_rise (l : List Ent) : riseB (builtL l) = true := builtGo_rise rfl
theorem builtGo_length : ∀ {l out : List Ent}, riseB out = true → (builtGo l out).length ≤ out.length + l.length
  | [], _, _ => by simp [builtGo]
  | e :: l, out, h => by
    have h1 := builtGo_length (l := l) (rise_withL e h)
    have h2 := withL_length h e
    simp only [builtGo, List.length_cons]
    split at h2 <;> omega
theorem built_length (l : List Ent) : (builtL l).length ≤ l.length := by have := builtGo_length (l := l) (out := []) rfl; simpa [builtL] using this
/-- The last entry of a key. -/
def lastGo (k : ByteArray) : List Ent → Option Ent → Option Ent
  | [], o => o
  | e :: l, o => lastGo k l (if e.key = k then some e else o)
theorem builtGo_look (k : ByteArray) : ∀ {l out : List Ent}, riseB out = true → look (builtGo l out) k = lastGo k l (look out k)
  | [], _, _ => rfl
  | e :: l, out, h => by
    simp only [builtGo, lastGo]
    rw [builtGo_look k (rise_withL e h), look_withL h]
theorem built_look (l : List Ent) (k : ByteArray) : look (builtL l) k = lastGo k l none := builtGo_look k rfl
theorem mem_withL {l : List Ent} {e x : Ent} (h : x ∈ withL l e) : x = e ∨ x ∈ l := by
  simp only [withL, List.mem_append, List.mem_singleton] at h
  rcases h with (h | h) | h
  · exact .inr (List.mem_of_mem_take h)
  · exact .inl h
  · exact .inr (List.mem_of_mem_drop h)
theorem mem_builtGo : ∀ {l out : List Ent} {x : Ent}, x ∈ builtGo l out → x ∈ l ∨ x ∈ out
  | [], _, _, h => .inr h
  | e :: l, out, x, h => by
    rcases mem_builtGo (l := l) h with h | h
    · exact .inl (by simp [h])
    · rcases mem_withL h with rfl | h
      · exact .inl (by simp)
      · exact .inr h
theorem withL_length_le (l : List Ent) (e : Ent) : (withL l e).length ≤ l.length + 1 := by
  have := find_le l e.key
  simp [withL]; omega
theorem withoutL_length_le (l : List Ent) (k : ByteArray) : (withoutL l k).length ≤ l.length := by
  rw [withoutL]; split
  · have := find_le l k; simp; omega
  · exact Nat.le_refl _
theorem at_split {l : List Ent} {i : Nat} (h : i < l.length) : l = l.take i ++ ent l i :: l.drop (i + 1) := by
  rw [← ent_drop h, List.take_append_drop]
theorem find_own {l : List Ent} (hr : riseB l = true) {i : Nat} (h : i < l.length) : findAt l (ent l i).key = i ∧ findIs l (ent l i).key = true := by
  have e := at_split h
  have hr' := hr
  rw [e, riseB_append, riseB_cons] at hr'
  obtain ⟨h1, ⟨h2, h3⟩, h4⟩ := hr'
  have hb : Below' (l.take i) (ent l i).key := fun x hx => h4 x hx _ (by simp)
  have f1 := findAt_yes hb rfl h2
  have f2 := findIs_yes hb rfl h2
  rw [← e] at f1 f2
  exact ⟨by rw [f1]; simp; omega, f2⟩
theorem without_is {l : List Ent} (h : riseB l = true) (k : ByteArray) : (withoutL l k).length + (if findIs l k then 1 else 0) = l.length := by
  have := withoutL_length h k
  cases hf : findIs l k with
  | false => rw [hf] at this; simp at this ⊢; exact this
  | true => have h1 := findIs_lt hf; rw [hf] at this; simp at this ⊢; omega
def lookV (l : List Ent) (key : ByteArray) : ByteArray := ((look l key).map Ent.val).getD ⟨#[]⟩
def lookB (l : List Ent) (key : ByteArray) : Bool := (look l key).isSome
theorem lookV_no {l : List Ent} {key : ByteArray} (h : findIs l key = false) : lookV l key = ⟨#[]⟩ ∧ lookB l key = false := by simp [lookV, lookB, look, h]
theorem lookV_yes {l : List Ent} {key : ByteArray} (h : findIs l key = true) : lookV l key = (ent l (findAt l key)).val ∧ lookB l key = true := by simp [lookV, lookB, look, h]
end Go.Proofs.Ytnjeoobcejlojaa
