/- What became of keys in another list: plain laws. Conditions: keys rise, where a law says so. -/
import Derived.Test.YtnjeoobcejlojaaPure2
import Derived.Test.YtnjeoobcejlojaaTreeC
namespace Go.Proofs.Ytnjeoobcejlojaa
open Go.Proofs Go.RowKit
set_option linter.unusedVariables false
/-- What became of a key. -/
structure Chg where
  key : ByteArray
  old : ByteArray
  new : ByteArray
  was : Bool
  is : Bool
  deriving DecidableEq, Inhabited
def chgOf (a b : List Ent) (k : ByteArray) : Chg := ⟨k, lookV a k, lookV b k, lookB a k, lookB b k⟩
def differs (a b : List Ent) (k : ByteArray) : Bool := decide (lookB a k ≠ lookB b k) || decide (lookV a k ≠ lookV b k)
/-- The changes, by a walk over both lists. -/
def ofM : List Ent → List Ent → List Chg
  | [], [] => []
  | x :: a, [] => ⟨x.key, x.val, ⟨#[]⟩, true, false⟩ :: ofM a []
  | [], y :: b => ⟨y.key, ⟨#[]⟩, y.val, false, true⟩ :: ofM [] b
  | x :: a, y :: b => if slt x.key y.key = true then ⟨x.key, x.val, ⟨#[]⟩, true, false⟩ :: ofM a (y :: b) else if slt y.key x.key = true then ⟨y.key, ⟨#[]⟩, y.val, false, true⟩ :: ofM (x :: a) b
      else (if x.val = y.val then [] else [⟨x.key, x.val, y.val, true, true⟩]) ++ ofM a b
termination_by a b => a.length + b.length
def Ups (l : List Chg) : Prop := l.Pairwise fun x y => slt x.key y.key = true
theorem look_cons {x : Ent} {a : List Ent} (h : riseB (x :: a) = true) (k : ByteArray) : look (x :: a) k = if x.key = k then some x else look a k := by
  rw [look_find h, look_find (riseB_cons.1 h).2, List.find?_cons]
  by_cases e : x.key = k <;> simp [e]
theorem look_not {b : List Ent} (h : riseB b = true) {k : ByteArray} (hn : ∀ e ∈ b, e.key ≠ k) : look b k = none := by
  rw [look_find h, List.find?_eq_none]
  intro e he
  simpa using hn e he
theorem look_key {l : List Ent} (h : riseB l = true) {k : ByteArray} {e : Ent} (he : look l k = some e) : e.key = k ∧ e ∈ l := by
  rw [look_find h] at he
  have h1 := List.find?_some he
  exact ⟨by simpa using h1, List.mem_of_find?_eq_some he⟩
theorem lookB_mem {l : List Ent} (h : riseB l = true) {k : ByteArray} : lookB l k = true ↔ ∃ e ∈ l, e.key = k := by
  constructor
  · intro hk
    cases e : look l k with
    | none => simp [lookB, e] at hk
    | some x => exact ⟨x, (look_key h e).2, (look_key h e).1⟩
  · rintro ⟨e, he, hk⟩
    cases e2 : look l k with
    | some x => simp [lookB, e2]
    | none =>
      rw [look_find h, List.find?_eq_none] at e2
      have := e2 e he
      simp [hk] at this
theorem look_same {a b : List Ent} (ha : riseB a = true) (hb : riseB b = true) {k : ByteArray} : differs a b k = false ↔ look a k = look b k := by
  unfold differs
  constructor
  · intro h
    simp only [Bool.or_eq_false_iff, decide_eq_false_iff_not, Decidable.not_not] at h
    obtain ⟨h1, h2⟩ := h
    cases e1 : look a k with
    | none =>
      cases e2 : look b k with
      | none => rfl
      | some y => simp [lookB, e1, e2] at h1
    | some x =>
      cases e2 : look b k with
      | none => simp [lookB, e1, e2] at h1
      | some y =>
        have k1 := (look_key ha e1).1
        have k2 := (look_key hb e2).1
        have h3 : x.val = y.val := by simpa [lookV, e1, e2] using h2
        obtain ⟨xk, xv⟩ := x
        obtain ⟨yk, yv⟩ := y
        simp only at k1 k2 h3
        rw [k1, k2, h3]
  · intro h
    simp [lookB, lookV, h]
theorem ups_ext : ∀ {l m : List Chg}, Ups l → Ups m → (∀ c, c ∈ l ↔ c ∈ m) → l = m
  | [], [], _, _, _ => rfl
  | [], d :: m, _, _, h => by have := (h d).2 (by simp); cases this
  | c :: l, [], _, _, h => by have := (h c).1 (by simp); cases this
  | c :: l, d :: m, hl, hm, h => by
    unfold Ups at hl hm
    rw [List.pairwise_cons] at hl hm
    have e : c = d := by
      rcases List.mem_cons.1 ((h c).1 (by simp)) with h1 | h1
      · exact h1
      · rcases List.mem_cons.1 ((h d).2 (by simp)) with h2 | h2
        · exact h2.symm
        · have := slt_asymm (hm.1 c h1)
          rw [hl.1 d h2] at this; cases this
    subst e
    congr 1
    refine ups_ext hl.2 hm.2 fun x => ⟨fun hx => ?_, fun hx => ?_⟩
    · rcases List.mem_cons.1 ((h x).1 (by simp [hx])) with h1 | h1
      · subst h1; have := hl.1 x hx; rw [slt_irrefl] at this; cases this
      · exact h1
    · rcases List.mem_cons.1 ((h x).2 (by simp [hx])) with h1 | h1
      · subst h1; have := hm.1 x hx; rw [slt_irrefl] at this; cases this
      · exact h1
theorem diff_step {a b a' b' : List Ent} {h R : List Chg} {k0 : ByteArray} (hk : ∀ k, k ≠ k0 → look a k = look a' k ∧ look b k = look b' k) (ih : ∀ c, c ∈ R ↔ differs a' b' c.key = true ∧ c = chgOf a' b' c.key) (hR : ∀ c ∈ R, c.key ≠ k0)
    (hh : ∀ c, c ∈ h ↔ (differs a b k0 = true ∧ c = chgOf a b k0)) (c : Chg) : c ∈ h ++ R ↔ differs a b c.key = true ∧ c = chgOf a b c.key := by
  rw [List.mem_append]
  by_cases e : c.key = k0
  · rw [e, ← hh c]
    exact ⟨fun h => h.resolve_right fun h2 => hR c h2 e, .inl⟩
  · obtain ⟨h1, h2⟩ := hk c.key e
    have e1 : differs a b c.key = differs a' b' c.key := by unfold differs lookB lookV; rw [h1, h2]
    have e2 : chgOf a b c.key = chgOf a' b' c.key := by unfold chgOf lookB lookV; rw [h1, h2]
    rw [e1, e2, ← ih c]
    refine ⟨fun h => h.resolve_left fun h3 => e ?_, .inr⟩
    rw [((hh c).1 h3).2]; rfl
theorem ofM_spec : ∀ (n : Nat) (a b : List Ent), a.length + b.length = n → riseB a = true → riseB b = true →
    Ups (ofM a b) ∧ (∀ c ∈ ofM a b, (∃ e ∈ a, e.key = c.key) ∨ ∃ e ∈ b, e.key = c.key) ∧ ∀ c, c ∈ ofM a b ↔ differs a b c.key = true ∧ c = chgOf a b c.key := by
  intro n
  induction n using Nat.strongRecOn with
  | _ n ih =>
    intro a b hn ha hb
    match a, b, hn, ha, hb with
    | [], [], _, _, _ =>
      unfold ofM
      refine ⟨List.Pairwise.nil, fun c h => by (cases h), fun c => ⟨fun h => by (cases h), fun h => ?_⟩⟩
      have : differs [] [] c.key = false := by simp [differs]
      rw [this] at h; cases h.1
    | x :: a, [], hn, ha, hb =>
      obtain ⟨h1, h2⟩ := riseB_cons.1 ha
      obtain ⟨i1, i2, i3⟩ := ih (a.length + 0) (by simp at hn; omega) a [] rfl h2 rfl
      have hgt : ∀ c ∈ ofM a [], slt x.key c.key = true := fun c hc => by
        rcases i2 c hc with ⟨e, he, hk⟩ | ⟨e, he, _⟩
        · rw [← hk]; exact h1 e he
        · cases he
      unfold ofM
      refine ⟨List.pairwise_cons.2 ⟨hgt, i1⟩, fun c hc => ?_, ?_⟩
      · rcases List.mem_cons.1 hc with rfl | hc
        · exact .inl ⟨x, by simp, rfl⟩
        · exact (i2 c hc).imp (fun ⟨e, he, hk⟩ => ⟨e, by simp [he], hk⟩) id
      · refine diff_step (h := [_]) (k0 := x.key) (fun k hk => ⟨by rw [look_cons ha, if_neg (Ne.symm hk)], rfl⟩) i3 (fun c hc e => by have := hgt c hc; rw [e, slt_irrefl] at this; cases this) fun c => ?_
        have l1 : look (x :: a) x.key = some x := by rw [look_cons ha]; simp
        have l2 : look [] x.key = none := look_not rfl (by simp)
        simp [differs, chgOf, lookB, lookV, l1, l2]
    | [], y :: b, hn, ha, hb =>
      obtain ⟨h1, h2⟩ := riseB_cons.1 hb
      obtain ⟨i1, i2, i3⟩ := ih (0 + b.length) (by simp at hn; omega) [] b (by simp) rfl h2
      have hgt : ∀ c ∈ ofM [] b, slt y.key c.key = true := fun c hc => by
        rcases i2 c hc with ⟨e, he, _⟩ | ⟨e, he, hk⟩
        · cases he
        · rw [← hk]; exact h1 e he
      unfold ofM
      refine ⟨List.pairwise_cons.2 ⟨hgt, i1⟩, fun c hc => ?_, ?_⟩
      · rcases List.mem_cons.1 hc with rfl | hc
        · exact .inr ⟨y, by simp, rfl⟩
        · exact (i2 c hc).imp id (fun ⟨e, he, hk⟩ => ⟨e, by simp [he], hk⟩)
      · refine diff_step (h := [_]) (k0 := y.key) (fun k hk => ⟨rfl, by rw [look_cons hb, if_neg (Ne.symm hk)]⟩) i3 (fun c hc e => by have := hgt c hc; rw [e, slt_irrefl] at this; cases this) fun c => ?_
        have l1 : look (y :: b) y.key = some y := by rw [look_cons hb]; simp
        have l2 : look [] y.key = none := look_not rfl (by simp)
        simp [differs, chgOf, lookB, lookV, l1, l2]
    | x :: a, y :: b, hn, ha, hb =>
      obtain ⟨h1, h2⟩ := riseB_cons.1 ha
      obtain ⟨g1, g2⟩ := riseB_cons.1 hb
      unfold ofM
      by_cases hxy : slt x.key y.key = true
      · rw [if_pos hxy]
        obtain ⟨i1, i2, i3⟩ := ih (a.length + (y :: b).length) (by simp at hn ⊢; omega) a (y :: b) rfl h2 hb
        have hbg : ∀ e ∈ y :: b, slt x.key e.key = true := fun e he => by
          rcases List.mem_cons.1 he with rfl | he
          · exact hxy
          · exact slt_trans hxy (g1 e he)
        have hgt : ∀ c ∈ ofM a (y :: b), slt x.key c.key = true := fun c hc => by
          rcases i2 c hc with ⟨e, he, hk⟩ | ⟨e, he, hk⟩
          · rw [← hk]; exact h1 e he
          · rw [← hk]; exact hbg e he
        refine ⟨List.pairwise_cons.2 ⟨hgt, i1⟩, fun c hc => ?_, ?_⟩
        · rcases List.mem_cons.1 hc with rfl | hc
          · exact .inl ⟨x, by simp, rfl⟩
          · exact (i2 c hc).imp (fun ⟨e, he, hk⟩ => ⟨e, by simp [he], hk⟩) id
        · refine diff_step (h := [_]) (k0 := x.key) (fun k hk => ⟨by rw [look_cons ha, if_neg (Ne.symm hk)], rfl⟩) i3 (fun c hc e => by have := hgt c hc; rw [e, slt_irrefl] at this; cases this) fun c => ?_
          have l1 : look (x :: a) x.key = some x := by rw [look_cons ha]; simp
          have l2 : look (y :: b) x.key = none := look_not hb fun e he e2 => by have := hbg e he; rw [e2, slt_irrefl] at this; cases this
          simp [differs, chgOf, lookB, lookV, l1, l2]
      · rw [if_neg hxy]
        by_cases hyx : slt y.key x.key = true
        · rw [if_pos hyx]
          obtain ⟨i1, i2, i3⟩ := ih ((x :: a).length + b.length) (by simp at hn ⊢; omega) (x :: a) b rfl ha g2
          have hbg : ∀ e ∈ x :: a, slt y.key e.key = true := fun e he => by
            rcases List.mem_cons.1 he with rfl | he
            · exact hyx
            · exact slt_trans hyx (h1 e he)
          have hgt : ∀ c ∈ ofM (x :: a) b, slt y.key c.key = true := fun c hc => by
            rcases i2 c hc with ⟨e, he, hk⟩ | ⟨e, he, hk⟩
            · rw [← hk]; exact hbg e he
            · rw [← hk]; exact g1 e he
          refine ⟨List.pairwise_cons.2 ⟨hgt, i1⟩, fun c hc => ?_, ?_⟩
          · rcases List.mem_cons.1 hc with rfl | hc
            · exact .inr ⟨y, by simp, rfl⟩
            · exact (i2 c hc).imp id (fun ⟨e, he, hk⟩ => ⟨e, by simp [he], hk⟩)
          · refine diff_step (h := [_]) (k0 := y.key) (fun k hk => ⟨rfl, by rw [look_cons hb, if_neg (Ne.symm hk)]⟩) i3 (fun c hc e => by have := hgt c hc; rw [e, slt_irrefl] at this; cases this) fun c => ?_
            have l1 : look (y :: b) y.key = some y := by rw [look_cons hb]; simp
            have l2 : look (x :: a) y.key = none := look_not ha fun e he e2 => by have := hbg e he; rw [e2, slt_irrefl] at this; cases this
            simp [differs, chgOf, lookB, lookV, l1, l2]
        · rw [if_neg hyx]
          have hke : x.key = y.key := slt_total (by simpa using hxy) (by simpa using hyx)
          obtain ⟨i1, i2, i3⟩ := ih (a.length + b.length) (by simp at hn ⊢; omega) a b rfl h2 g2
          have hgt : ∀ c ∈ ofM a b, slt x.key c.key = true := fun c hc => by
            rcases i2 c hc with ⟨e, he, hk⟩ | ⟨e, he, hk⟩
            · rw [← hk]; exact h1 e he
            · rw [← hk, hke]; exact g1 e he
          have l1 : look (x :: a) x.key = some x := by rw [look_cons ha]; simp
          have l2 : look (y :: b) x.key = some y := by rw [look_cons hb, if_pos hke.symm]
          refine ⟨?_, fun c hc => ?_, ?_⟩
          · split
            · exact i1
            · exact List.pairwise_cons.2 ⟨hgt, i1⟩
          · rcases List.mem_append.1 hc with hc | hc
            · split at hc
              · cases hc
              · simp at hc; subst hc; exact .inl ⟨x, by simp, rfl⟩
            · exact (i2 c hc).imp (fun ⟨e, he, hk⟩ => ⟨e, by simp [he], hk⟩) (fun ⟨e, he, hk⟩ => ⟨e, by simp [he], hk⟩)
          · refine diff_step (k0 := x.key) (fun k hk => ⟨by rw [look_cons ha, if_neg (Ne.symm hk)], by rw [look_cons hb, if_neg (by rw [← hke]; exact Ne.symm hk)]⟩) i3 (fun c hc e => by have := hgt c hc; rw [e, slt_irrefl] at this; cases this) fun c => ?_
            by_cases hv : x.val = y.val
            · simp [differs, lookB, lookV, l1, l2, hv]
            · simp [differs, chgOf, lookB, lookV, l1, l2, hv]
section
variable {a b : List Ent} (ha : riseB a = true) (hb : riseB b = true)
include ha hb
theorem ofM_ups : Ups (ofM a b) := (ofM_spec _ a b rfl ha hb).1
theorem ofM_mem (c : Chg) : c ∈ ofM a b ↔ differs a b c.key = true ∧ c = chgOf a b c.key := (ofM_spec _ a b rfl ha hb).2.2 c
/-- Turned. -/
def backC (c : Chg) : Chg := ⟨c.key, c.new, c.old, c.is, c.was⟩
omit ha hb in
theorem backC_back (c : Chg) : backC (backC c) = c := rfl
theorem ofM_back : (ofM a b).map backC = ofM b a := by
  have hd : ∀ k, differs a b k = differs b a k := fun k => by
    simp only [differs]
    rw [show decide (lookB a k ≠ lookB b k) = decide (lookB b k ≠ lookB a k) by simp [eq_comm], show decide (lookV a k ≠ lookV b k) = decide (lookV b k ≠ lookV a k) by simp [eq_comm]]
  refine ups_ext ?_ (ofM_ups hb ha) fun c => ?_
  · unfold Ups
    rw [List.pairwise_map]
    exact ofM_ups ha hb
  · rw [List.mem_map, ofM_mem hb ha]
    constructor
    · rintro ⟨d, hd2, rfl⟩
      obtain ⟨h1, h2⟩ := (ofM_mem ha hb d).1 hd2
      refine ⟨by rw [← hd]; exact h1, ?_⟩
      rw [h2]; rfl
    · rintro ⟨h1, h2⟩
      refine ⟨backC c, (ofM_mem ha hb _).2 ⟨by rw [hd]; exact h1, ?_⟩, rfl⟩
      rw [h2]; rfl
end
theorem ofM_self {a : List Ent} (ha : riseB a = true) : ofM a a = [] := by
  cases h : ofM a a with
  | nil => rfl
  | cons c l =>
    have := (ofM_mem ha ha c).1 (by rw [h]; simp)
    simp [differs] at this
/-! ### The document's -/
def allStep (all : List Ent) (e : Ent) : List Ent := if lookB all e.key = true then all else withL all e
def allL (a b : List Ent) : List Ent := a.foldl allStep b
def refL (a b all : List Ent) : List Chg := ((all.map Ent.key).filter (differs a b)).map (chgOf a b)
theorem allStep_rise {all : List Ent} (e : Ent) (h : riseB all = true) : riseB (allStep all e) = true := by
  unfold allStep
  split
  · exact h
  · exact rise_withL _ h
theorem allStep_look {all : List Ent} {e : Ent} (h : riseB all = true) (k : ByteArray) : lookB (allStep all e) k = (lookB all k || decide (e.key = k)) := by
  unfold allStep
  split
  · rename_i h1
    by_cases hk : e.key = k
    · subst hk; simp [h1]
    · simp [hk]
  · simp only [lookB, look_withL h]
    by_cases hk : e.key = k <;> simp [hk]
theorem all_spec : ∀ (a : List Ent) {b : List Ent}, riseB b = true → riseB (allL a b) = true ∧ ∀ k, lookB (allL a b) k = (lookB b k || a.any fun e => decide (e.key = k))
  | [], b, h => ⟨h, fun k => by simp [allL]⟩
  | e :: a, b, h => by
    obtain ⟨h1, h2⟩ := all_spec a (allStep_rise e h)
    refine ⟨h1, fun k => ?_⟩
    have : allL (e :: a) b = allL a (allStep b e) := rfl
    rw [this, h2, allStep_look h, Bool.or_assoc, List.any_cons]
theorem rise_pairs : ∀ {l : List Ent}, riseB l = true → (l.map Ent.key).Pairwise fun x y => slt x y = true
  | [], _ => List.Pairwise.nil
  | a :: l, h => by
    obtain ⟨h1, h2⟩ := riseB_cons.1 h
    rw [List.map_cons, List.pairwise_cons]
    refine ⟨fun k hk => ?_, rise_pairs h2⟩
    obtain ⟨e, he, rfl⟩ := List.mem_map.1 hk
    exact h1 e he
theorem refL_eq {a b : List Ent} (ha : riseB a = true) (hb : riseB b = true) : refL a b (allL a b) = ofM a b := by
  obtain ⟨h1, h2⟩ := all_spec a hb
  refine ups_ext ?_ (ofM_ups ha hb) fun c => ?_
  · unfold Ups refL
    rw [List.pairwise_map]
    exact (rise_pairs h1).filter _
  · rw [ofM_mem ha hb]
    unfold refL
    simp only [List.mem_map, List.mem_filter]
    constructor
    · rintro ⟨k, ⟨_, hd⟩, rfl⟩
      exact ⟨hd, rfl⟩
    · rintro ⟨hd, hc⟩
      refine ⟨c.key, ⟨?_, hd⟩, hc.symm⟩
      have : lookB (allL a b) c.key = true := by
        rw [h2]
        cases hbk : lookB b c.key with
        | true => rfl
        | false =>
          cases hak : lookB a c.key with
          | true =>
            obtain ⟨e, he, hk⟩ := (lookB_mem ha).1 hak
            simp only [Bool.false_or, List.any_eq_true]
            exact ⟨e, he, by simp [hk]⟩
          | false =>
            have e1 : look a c.key = none := by simpa [lookB] using hak
            have e2 : look b c.key = none := by simpa [lookB] using hbk
            simp [differs, lookB, lookV, e1, e2] at hd
      obtain ⟨e, he, hk⟩ := (lookB_mem h1).1 this
      exact ⟨e, he, hk⟩
/-! ### Changes, done -/
def doneC (m : List Ent) (c : Chg) : List Ent := if c.is = true then withL m ⟨c.key, c.new⟩ else withoutL m c.key
def doneL (m : List Ent) (l : List Chg) : List Ent := l.foldl doneC m
/-- They fit. -/
def FitL : List Ent → List Chg → Prop
  | _, [] => True
  | m, c :: l => lookB m c.key = c.was ∧ lookV m c.key = c.old ∧ (c.is = true → entOk ⟨c.key, c.new⟩ = true) ∧ FitL (doneC m c) l
theorem doneC_rise {m : List Ent} (c : Chg) (h : riseB m = true) : riseB (doneC m c) = true := by
  unfold doneC
  split
  · exact rise_withL _ h
  · exact rise_withoutL _ h
theorem doneL_rise : ∀ {m : List Ent} (l : List Chg), riseB m = true → riseB (doneL m l) = true
  | _, [], h => h
  | _, c :: l, h => doneL_rise l (doneC_rise c h)
theorem doneC_len (m : List Ent) (c : Chg) : (doneC m c).length ≤ m.length + 1 := by
  unfold doneC
  split
  · exact withL_length_le _ _
  · have := withoutL_length_le m c.key; omega
theorem doneC_other {m : List Ent} {c : Chg} (h : riseB m = true) {k : ByteArray} (hk : c.key ≠ k) : look (doneC m c) k = look m k := by
  unfold doneC
  split
  · rw [look_withL h, if_neg hk]
  · rw [look_withoutL h, if_neg hk]
theorem fit_append : ∀ {l : List Chg} {m : List Ent} {r : List Chg}, FitL m l → FitL (doneL m l) r → FitL m (l ++ r)
  | [], _, _, _, h => h
  | c :: l, m, r, ⟨h1, h2, h3, h4⟩, h => ⟨h1, h2, h3, fit_append h4 h⟩
theorem fit_of {a b : List Ent} (ha : riseB a = true) (hb : riseB b = true) (hok : ∀ e ∈ b, entOk e = true) : ∀ (l : List Chg) (m : List Ent), (∀ c ∈ l, c = chgOf a b c.key) → Ups l → riseB m = true → (∀ c ∈ l, look m c.key = look a c.key) →
    FitL m l ∧ ∀ k, look (doneL m l) k = if l.any (fun c => decide (c.key = k)) = true then look b k else look m k
  | [], m, _, _, _, _ => ⟨trivial, fun k => rfl⟩
  | c :: l, m, hc, hu, hm, hlk => by
    unfold Ups at hu
    rw [List.pairwise_cons] at hu
    have hne : ∀ d ∈ l, c.key ≠ d.key := fun d hd e => by have := hu.1 d hd; rw [e, slt_irrefl] at this; cases this
    have h1 := hlk c (by simp)
    have hcc := hc c (by simp)
    have hdc : look (doneC m c) c.key = look b c.key := by
      unfold doneC
      cases hb2 : look b c.key with
      | none =>
        have : c.is = false := by rw [hcc]; simp [chgOf, lookB, hb2]
        rw [this]
        simp [look_withoutL hm]
      | some e =>
        have e1 : c.is = true := by rw [hcc]; simp [chgOf, lookB, hb2]
        have e2 : c.new = e.val := by rw [hcc]; simp [chgOf, lookV, hb2]
        have e3 := (look_key hb hb2).1
        rw [e1]
        simp only [if_true, look_withL hm]
        obtain ⟨ek, ev⟩ := e
        simp only at e2 e3
        rw [e2, e3]
    obtain ⟨i1, i2⟩ := fit_of ha hb hok l (doneC m c) (fun d hd => hc d (by simp [hd])) hu.2 (doneC_rise c hm) (fun d hd => by rw [doneC_other hm (hne d hd)]; exact hlk d (by simp [hd]))
    refine ⟨⟨?_, ?_, ?_, i1⟩, fun k => ?_⟩
    · rw [hcc]; simp only [chgOf, lookB, h1]
    · rw [hcc]; simp only [chgOf, lookV, h1]
    · intro his
      cases hb2 : look b c.key with
      | none => rw [hcc] at his; simp [chgOf, lookB, hb2] at his
      | some e =>
        have e2 : c.new = e.val := by rw [hcc]; simp [chgOf, lookV, hb2]
        obtain ⟨e3, e4⟩ := look_key hb hb2
        have := hok e e4
        obtain ⟨ek, ev⟩ := e
        simp only at e2 e3
        rw [e2, ← e3]; exact this
    · show look (doneL (doneC m c) l) k = _
      rw [i2, List.any_cons]
      by_cases hk : c.key = k
      · subst hk
        have : (l.any fun d => decide (d.key = c.key)) = false := by
          rw [List.any_eq_false]
          intro d hd
          simp [Ne.symm (hne d hd)]
        simp [this, hdc]
      · simp only [hk, decide_false, Bool.false_or, doneC_other hm hk]
/-- Done, they make the other one's entries. -/
theorem done_of {a b : List Ent} (ha : riseB a = true) (hb : riseB b = true) (hok : ∀ e ∈ b, entOk e = true) : FitL a (ofM a b) ∧ doneL a (ofM a b) = b := by
  obtain ⟨h1, h2⟩ := fit_of ha hb hok (ofM a b) a (fun c hc => ((ofM_mem ha hb c).1 hc).2) (ofM_ups ha hb) ha (fun _ _ => rfl)
  refine ⟨h1, rise_ext (doneL_rise _ ha) hb fun k => ?_⟩
  rw [← look_find (doneL_rise _ ha), ← look_find hb, h2]
  split
  · rfl
  · rename_i h
    have hd : differs a b k = false := by
      cases hd : differs a b k with
      | false => rfl
      | true =>
        exfalso
        apply h
        rw [List.any_eq_true]
        exact ⟨chgOf a b k, (ofM_mem ha hb _).2 ⟨hd, rfl⟩, by simp [chgOf]⟩
    exact (look_same ha hb).1 hd
end Go.Proofs.Ytnjeoobcejlojaa
