/- Lists of entries whose keys rise: what is found, put in, taken out. Plain lists, no program. Conditions: none. -/
import Derived.Test.YtnjeoobcejlojaaPair2
import Derived.Test.YtnjeoobcejlojaaKey
namespace Go.Proofs.Ytnjeoobcejlojaa
open Go.RowKit
set_option linter.unusedVariables false
theorem bl_irrefl : ∀ a : List UInt8, Op.bytesLess a a = false
  | [] => rfl
  | x :: a => by simp [Op.bytesLess, bl_irrefl a]
theorem bl_trans : ∀ {a b c : List UInt8}, Op.bytesLess a b = true → Op.bytesLess b c = true → Op.bytesLess a c = true
  | [], [], _, h, _ => by simp [Op.bytesLess] at h
  | [], _ :: _, [], _, h => by simp [Op.bytesLess] at h
  | [], _ :: _, _ :: _, _, _ => by simp [Op.bytesLess]
  | _ :: _, [], _, h, _ => by simp [Op.bytesLess] at h
  | _ :: _, _ :: _, [], _, h => by simp [Op.bytesLess] at h
  | x :: a, y :: b, z :: c, h, k => by
    simp only [Op.bytesLess, Bool.or_eq_true, Bool.and_eq_true, decide_eq_true_eq, beq_iff_eq] at h k ⊢
    rcases h with h | ⟨rfl, h⟩
    · rcases k with k | ⟨rfl, k⟩
      · exact .inl (UInt8.lt_trans h k)
      · exact .inl h
    · rcases k with k | ⟨rfl, k⟩
      · exact .inl k
      · exact .inr ⟨rfl, bl_trans h k⟩
theorem bl_total : ∀ {a b : List UInt8}, Op.bytesLess a b = false → Op.bytesLess b a = false → a = b
  | [], [], _, _ => rfl
  | [], _ :: _, h, _ => by simp [Op.bytesLess] at h
  | _ :: _, [], _, h => by simp [Op.bytesLess] at h
  | x :: a, y :: b, h, k => by
    simp only [Op.bytesLess, Bool.or_eq_false_iff, Bool.and_eq_false_imp, decide_eq_false_iff_not, beq_iff_eq] at h k
    have e : x = y := by
      have h1 := h.1
      have h2 := k.1
      rw [UInt8.lt_iff_toNat_lt] at h1 h2
      exact UInt8.toNat_inj.1 (by omega)
    subst e
    rw [bl_total (h.2 rfl) (k.2 rfl)]
theorem slt_irrefl (a : ByteArray) : slt a a = false := bl_irrefl _
theorem slt_trans {a b c : ByteArray} (h : slt a b = true) (k : slt b c = true) : slt a c = true := bl_trans h k
theorem slt_total {a b : ByteArray} (h : slt a b = false) (k : slt b a = false) : a = b := toList_inj (bl_total h k)
theorem slt_ne {a b : ByteArray} (h : slt a b = true) : a ≠ b := by
  intro e
  subst e
  rw [slt_irrefl] at h
  cases h
theorem slt_asymm {a b : ByteArray} (h : slt a b = true) : slt b a = false := by
  cases e : slt b a with
  | false => rfl
  | true => have := slt_trans h e; rw [slt_irrefl] at this; cases this
/-- not less, less: less. -/
theorem slt_of_le_of_lt {a b c : ByteArray} (h : slt b a = false) (k : slt b c = true) : slt a c = true := by
  cases e : slt a b with
  | true => exact slt_trans e k
  | false => rw [slt_total e h]; exact k
theorem slt_of_lt_of_le {a b c : ByteArray} (h : slt a b = true) (k : slt c b = false) : slt a c = true := by
  cases e : slt b c with
  | true => exact slt_trans h e
  | false => rw [← slt_total e k]; exact h
/-! ### Lists that rise -/
def Below' (l : List Ent) (k : ByteArray) : Prop := ∀ x ∈ l, slt x.key k = true
def Above (l : List Ent) (k : ByteArray) : Prop := ∀ x ∈ l, slt k x.key = true
def NotBelow (l : List Ent) (k : ByteArray) : Prop := ∀ x ∈ l, slt x.key k = false
theorem Above.not {l : List Ent} {k : ByteArray} (h : Above l k) : NotBelow l k := fun x hx => slt_asymm (h x hx)
theorem riseB_cons {a : Ent} {l : List Ent} : riseB (a :: l) = true ↔ Above l a.key ∧ riseB l = true := by
  induction l generalizing a with
  | nil => simp [riseB, Above]
  | cons b l ih =>
    rw [riseB, Bool.and_eq_true, ih]
    constructor
    · rintro ⟨h1, h2, h3⟩
      exact ⟨fun x hx => by
        rcases List.mem_cons.1 hx with rfl | hx
        · exact h1
        · exact slt_trans h1 (h2 x hx), h2, h3⟩
    · rintro ⟨h1, h2, h3⟩
      exact ⟨h1 b (by simp), h2, h3⟩
theorem riseB_append {a b : List Ent} : riseB (a ++ b) = true ↔ riseB a = true ∧ riseB b = true ∧ ∀ x ∈ a, ∀ y ∈ b, slt x.key y.key = true := by
  induction a with
  | nil => simp [riseB]
  | cons x a ih =>
    rw [List.cons_append, riseB_cons, riseB_cons, ih]
    constructor
    · rintro ⟨h1, h2, h3, h4⟩
      refine ⟨⟨fun y hy => h1 y (by simp [hy]), h2⟩, h3, fun y hy z hz => ?_⟩
      rcases List.mem_cons.1 hy with rfl | hy
      · exact h1 z (by simp [hz])
      · exact h4 y hy z hz
    · rintro ⟨⟨h1, h2⟩, h3, h4⟩
      refine ⟨fun y hy => ?_, h2, h3, fun y hy z hz => h4 y (by simp [hy]) z hz⟩
      rcases List.mem_append.1 hy with hy | hy
      · exact h1 y hy
      · exact h4 x (by simp) y hy
/-- A list that rises, seen from a key. -/
theorem split_at {l : List Ent} (h : riseB l = true) (k : ByteArray) : (∃ a t, l = a ++ t ∧ Below' a k ∧ Above t k) ∨ ∃ a e t, l = a ++ e :: t ∧ Below' a k ∧ e.key = k ∧ Above t k := by
  induction l with
  | nil => exact .inl ⟨[], [], rfl, by simp [Below'], by simp [Above]⟩
  | cons x l ih =>
    rw [riseB_cons] at h
    cases hx : slt x.key k with
    | true =>
      have hb : ∀ a : List Ent, Below' a k → Below' (x :: a) k := fun a ha y hy => by
        rcases List.mem_cons.1 hy with rfl | hy
        · exact hx
        · exact ha y hy
      rcases ih h.2 with ⟨a, t, rfl, h1, h2⟩ | ⟨a, e, t, rfl, h1, h2, h3⟩
      · exact .inl ⟨x :: a, t, rfl, hb a h1, h2⟩
      · exact .inr ⟨x :: a, e, t, rfl, hb a h1, h2, h3⟩
    | false =>
      cases hk : slt k x.key with
      | true =>
        refine .inl ⟨[], x :: l, rfl, by simp [Below'], fun y hy => ?_⟩
        rcases List.mem_cons.1 hy with rfl | hy
        · exact hk
        · exact slt_trans hk (h.1 y hy)
      | false =>
        have e := slt_total hx hk
        exact .inr ⟨[], x, l, rfl, by simp [Below'], e, fun y hy => by rw [← e]; exact h.1 y hy⟩
/-! ### The binary search -/
theorem ent_append_left {a b : List Ent} {i : Nat} (h : i < a.length) : ent (a ++ b) i = ent a i := by simp [ent, List.getElem?_append_left h]
theorem ent_append_right {a b : List Ent} {i : Nat} (h : a.length ≤ i) : ent (a ++ b) i = ent b (i - a.length) := by simp [ent, List.getElem?_append_right h]
theorem ent_mem' {l : List Ent} {i : Nat} (h : i < l.length) : ent l i ∈ l := by simp [ent, h]
theorem findLoop_eq {a b : List Ent} {key : ByteArray} (ha : Below' a key) (hb : NotBelow b key) : ∀ (k lo hi : Nat), lo ≤ a.length → a.length ≤ hi → hi ≤ (a ++ b).length → hi - lo ≤ k → findLoop (a ++ b) key k lo hi = a.length
  | 0, lo, hi, h1, h2, h3, h4 => by simp only [findLoop]; omega
  | k + 1, lo, hi, h1, h2, h3, h4 => by
    simp only [findLoop]
    by_cases hlt : lo < hi
    · rw [if_pos hlt]
      by_cases hq : (lo + hi) / 2 < a.length
      · rw [ent_append_left hq, if_pos (ha _ (ent_mem' hq))]
        exact findLoop_eq ha hb k _ _ (by omega) h2 h3 (by omega)
      · have hm : (lo + hi) / 2 - a.length < b.length := by simp at h3; omega
        rw [ent_append_right (by omega), if_neg (by simp [hb _ (ent_mem' hm)])]
        exact findLoop_eq ha hb k _ _ h1 (by omega) (by omega) (by omega)
    · rw [if_neg hlt]; omega
theorem findAt_eq {a b : List Ent} {key : ByteArray} (ha : Below' a key) (hb : NotBelow b key) : findAt (a ++ b) key = a.length :=
  findLoop_eq ha hb _ _ _ (by omega) (by simp) (by omega) (by omega)
theorem findIs_no {a t : List Ent} {key : ByteArray} (ha : Below' a key) (ht : Above t key) : findIs (a ++ t) key = false := by
  rw [findIs, findAt_eq ha ht.not]
  cases t with
  | nil => simp
  | cons x t =>
    have h1 : ent (a ++ x :: t) a.length = x := by simp [ent]
    rw [h1]
    have h2 : x.key ≠ key := (slt_ne (ht x (by simp))).symm
    simp [h2]
theorem notBelow_cons {e : Ent} {t : List Ent} {key : ByteArray} (he : e.key = key) (ht : Above t key) : NotBelow (e :: t) key := fun x hx => by
  rcases List.mem_cons.1 hx with rfl | hx
  · rw [he]; exact slt_irrefl _
  · exact ht.not x hx
theorem findIs_yes {a t : List Ent} {e : Ent} {key : ByteArray} (ha : Below' a key) (he : e.key = key) (ht : Above t key) : findIs (a ++ e :: t) key = true := by
  rw [findIs, findAt_eq ha (notBelow_cons he ht)]
  have h1 : ent (a ++ e :: t) a.length = e := by simp [ent]
  rw [h1]
  simp [he]
theorem findAt_no {a t : List Ent} {key : ByteArray} (ha : Below' a key) (ht : Above t key) : findAt (a ++ t) key = a.length := findAt_eq ha ht.not
theorem findAt_yes {a t : List Ent} {e : Ent} {key : ByteArray} (ha : Below' a key) (he : e.key = key) (ht : Above t key) : findAt (a ++ e :: t) key = a.length := findAt_eq ha (notBelow_cons he ht)
/-! ### With and Without -/
theorem withL_no {a t : List Ent} {e : Ent} (ha : Below' a e.key) (ht : Above t e.key) : withL (a ++ t) e = a ++ e :: t := by
  rw [withL, findAt_no ha ht, findIs_no ha ht]; simp
theorem withL_yes {a t : List Ent} {e x : Ent} (ha : Below' a e.key) (hx : x.key = e.key) (ht : Above t e.key) : withL (a ++ x :: t) e = a ++ e :: t := by
  rw [withL, findAt_yes ha hx ht, findIs_yes ha hx ht]; simp
theorem withoutL_no {a t : List Ent} {k : ByteArray} (ha : Below' a k) (ht : Above t k) : withoutL (a ++ t) k = a ++ t := by
  rw [withoutL, findIs_no ha ht]; simp
theorem withoutL_yes {a t : List Ent} {k : ByteArray} {x : Ent} (ha : Below' a k) (hx : x.key = k) (ht : Above t k) : withoutL (a ++ x :: t) k = a ++ t := by
  rw [withoutL, findIs_yes ha hx ht, findAt_yes ha hx ht]; simp
theorem rise_mid {a t : List Ent} {e : Ent} (hr : riseB (a ++ t) = true) (ha : Below' a e.key) (ht : Above t e.key) : riseB (a ++ e :: t) = true := by
  rw [riseB_append] at hr ⊢
  refine ⟨hr.1, riseB_cons.2 ⟨ht, hr.2.1⟩, fun x hx y hy => ?_⟩
  rcases List.mem_cons.1 hy with rfl | hy
  · exact ha x hx
  · exact hr.2.2 x hx y hy
theorem rise_out {a t : List Ent} {e : Ent} (hr : riseB (a ++ e :: t) = true) : riseB (a ++ t) = true := by
  rw [riseB_append] at hr ⊢
  exact ⟨hr.1, (riseB_cons.1 hr.2.1).2, fun x hx y hy => hr.2.2 x hx y (by simp [hy])⟩
theorem rise_withL {l : List Ent} (e : Ent) (h : riseB l = true) : riseB (withL l e) = true := by
  rcases split_at h e.key with ⟨a, t, rfl, h1, h2⟩ | ⟨a, x, t, rfl, h1, hx, h2⟩
  · rw [withL_no h1 h2]; exact rise_mid h h1 h2
  · rw [withL_yes h1 hx h2]; exact rise_mid (rise_out h) h1 h2
theorem rise_withoutL {l : List Ent} (k : ByteArray) (h : riseB l = true) : riseB (withoutL l k) = true := by
  rcases split_at h k with ⟨a, t, rfl, h1, h2⟩ | ⟨a, x, t, rfl, h1, hx, h2⟩
  · rw [withoutL_no h1 h2]; exact h
  · rw [withoutL_yes h1 hx h2]; exact rise_out h
/-- What stands at a key. -/
def look (l : List Ent) (k : ByteArray) : Option Ent := if findIs l k then some (ent l (findAt l k)) else none
theorem look_no {a t : List Ent} {k : ByteArray} (ha : Below' a k) (ht : Above t k) : look (a ++ t) k = none := by rw [look, findIs_no ha ht]; rfl
theorem look_yes {a t : List Ent} {k : ByteArray} {x : Ent} (ha : Below' a k) (hx : x.key = k) (ht : Above t k) : look (a ++ x :: t) k = some x := by
  rw [look, findIs_yes ha hx ht, findAt_yes ha hx ht]; simp [ent]
theorem look_find {l : List Ent} (h : riseB l = true) (k : ByteArray) : look l k = l.find? fun x => decide (x.key = k) := by
  have hn : ∀ a : List Ent, (∀ x ∈ a, x.key ≠ k) → a.find? (fun x => decide (x.key = k)) = none := fun a ha => by
    rw [List.find?_eq_none]; intro x hx; simpa using ha x hx
  rcases split_at h k with ⟨a, t, rfl, h1, h2⟩ | ⟨a, x, t, rfl, h1, hx, h2⟩
  · rw [look_no h1 h2, List.find?_append, hn a (fun x hx => slt_ne (h1 x hx)), hn t (fun x hx => (slt_ne (h2 x hx)).symm)]; rfl
  · rw [look_yes h1 hx h2, List.find?_append, hn a (fun x hx => slt_ne (h1 x hx))]; simp [hx]
theorem find_mid {a t : List Ent} {x : Ent} {k : ByteArray} (hx : x.key ≠ k) : (a ++ x :: t).find? (fun y => decide (y.key = k)) = (a ++ t).find? fun y => decide (y.key = k) := by
  rw [List.find?_append, List.find?_append, List.find?_cons]
  simp [hx]
theorem look_withL {l : List Ent} (h : riseB l = true) (e : Ent) (k : ByteArray) : look (withL l e) k = if e.key = k then some e else look l k := by
  rw [look_find (rise_withL e h), look_find h]
  rcases split_at h e.key with ⟨a, t, rfl, h1, h2⟩ | ⟨a, x, t, rfl, h1, hx, h2⟩
  · rw [withL_no h1 h2]
    by_cases hk : e.key = k
    · subst hk
      rw [if_pos rfl, ← look_find (rise_mid h h1 h2), look_yes h1 rfl h2]
    · rw [if_neg hk, find_mid hk]
  · rw [withL_yes h1 hx h2]
    by_cases hk : e.key = k
    · subst hk
      rw [if_pos rfl, ← look_find (rise_mid (rise_out h) h1 h2), look_yes h1 rfl h2]
    · rw [if_neg hk, find_mid hk, find_mid (by rw [hx]; exact hk)]
theorem look_withoutL {l : List Ent} (h : riseB l = true) (k' k : ByteArray) : look (withoutL l k') k = if k' = k then none else look l k := by
  rw [look_find (rise_withoutL k' h), look_find h]
  rcases split_at h k' with ⟨a, t, rfl, h1, h2⟩ | ⟨a, x, t, rfl, h1, hx, h2⟩
  · rw [withoutL_no h1 h2]
    by_cases hk : k' = k
    · subst hk
      rw [if_pos rfl, ← look_find h, look_no h1 h2]
    · rw [if_neg hk]
  · rw [withoutL_yes h1 hx h2]
    by_cases hk : k' = k
    · subst hk
      rw [if_pos rfl, ← look_find (rise_out h), look_no h1 h2]
    · rw [if_neg hk, find_mid (by rw [hx]; exact hk)]
theorem look_is {l : List Ent} {k : ByteArray} : findIs l k = (look l k).isSome := by rw [look]; cases findIs l k <;> rfl
theorem look_at {l : List Ent} {k : ByteArray} {e : Ent} (h : look l k = some e) : findIs l k = true ∧ findAt l k < l.length ∧ ent l (findAt l k) = e ∧ e.key = k := by
  cases hf : findIs l k with
  | false => rw [look, hf] at h; cases h
  | true =>
    rw [look, hf] at h
    simp at h
    have h1 := hf
    simp [findIs] at h1
    exact ⟨rfl, h1.1, h, by rw [← h]; exact h1.2⟩
/-- Two lists that rise, and at each key the same: the same. -/
theorem rise_ext : ∀ {l m : List Ent}, riseB l = true → riseB m = true → (∀ k, l.find? (fun x => decide (x.key = k)) = m.find? (fun x => decide (x.key = k))) → l = m
  | [], [], _, _, _ => rfl
  | [], y :: m, _, _, h => by have := h y.key; simp at this
  | x :: l, [], _, _, h => by have := h x.key; simp at this
  | x :: l, y :: m, hl, hm, h => by
    rw [riseB_cons] at hl hm
    have hfx : (x :: l).find? (fun z => decide (z.key = x.key)) = some x := by simp
    have hfy : (y :: m).find? (fun z => decide (z.key = y.key)) = some y := by simp
    have hxm : x ∈ y :: m := List.mem_of_find?_eq_some ((h x.key).symm.trans hfx)
    have hyl : y ∈ x :: l := List.mem_of_find?_eq_some ((h y.key).trans hfy)
    have e : x = y := by
      rcases List.mem_cons.1 hxm with e | h1
      · exact e
      · rcases List.mem_cons.1 hyl with e | h2
        · exact e.symm
        · have h3 := hm.1 x h1
          have h4 := hl.1 y h2
          rw [slt_asymm h3] at h4; cases h4
    subst e
    congr 1
    refine rise_ext hl.2 hm.2 fun k => ?_
    have hk := h k
    by_cases hxk : x.key = k
    · subst hxk
      have n1 : l.find? (fun z => decide (z.key = x.key)) = none := by rw [List.find?_eq_none]; intro z hz; simpa using (slt_ne (hl.1 z hz)).symm
      have n2 : m.find? (fun z => decide (z.key = x.key)) = none := by rw [List.find?_eq_none]; intro z hz; simpa using (slt_ne (hm.1 z hz)).symm
      rw [n1, n2]
    · simpa [hxk] using hk
theorem look_ext {l m : List Ent} (hl : riseB l = true) (hm : riseB m = true) (h : ∀ k, look l k = look m k) : l = m :=
  rise_ext hl hm fun k => by rw [← look_find hl, ← look_find hm]; exact h k
theorem withL_length {l : List Ent} (h : riseB l = true) (e : Ent) : (withL l e).length = l.length + if findIs l e.key then 0 else 1 := by
  rcases split_at h e.key with ⟨a, t, rfl, h1, h2⟩ | ⟨a, x, t, rfl, h1, hx, h2⟩
  · rw [withL_no h1 h2, findIs_no h1 h2]; simp; omega
  · rw [withL_yes h1 hx h2, findIs_yes h1 hx h2]; simp
theorem withoutL_length {l : List Ent} (h : riseB l = true) (k : ByteArray) : (withoutL l k).length = l.length - if findIs l k then 1 else 0 := by
  rcases split_at h k with ⟨a, t, rfl, h1, h2⟩ | ⟨a, x, t, rfl, h1, hx, h2⟩
  · rw [withoutL_no h1 h2, findIs_no h1 h2]; simp
  · rw [withoutL_yes h1 hx h2, findIs_yes h1 hx h2]; simp
end Go.Proofs.Ytnjeoobcejlojaa
