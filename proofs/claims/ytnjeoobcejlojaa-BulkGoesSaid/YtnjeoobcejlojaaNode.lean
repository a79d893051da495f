/- Nodes of a tree: how they lie in the persistent heap, what they tell. Conditions: none; it runs no function of the program. -/
import Derived.Test.YtnjeoobcejlojaaPure2
namespace Go.Proofs.Ytnjeoobcejlojaa
open Go.Proofs Go.RowKit
set_option linter.unusedVariables false
set_option linter.unusedSimpArgs false
/-- A node with h levels below it: its block, its entries or its kids. -/
def Nd : Nat → Type
  | 0 => Nat × List Ent
  | h + 1 => Nat × List (Nd h)
namespace Nd
def leaf (b : Nat) (l : List Ent) : Nd 0 := (show Nat × List Ent from (b, l))
def branch {h : Nat} (b : Nat) (ks : List (Nd h)) : Nd (h + 1) := (show Nat × List (Nd h) from (b, ks))
def blk : {h : Nat} → Nd h → Nat
  | 0, x => (show Nat × List Ent from x).1
  | h + 1, x => (show Nat × List (Nd h) from x).1
def ents (x : Nd 0) : List Ent := (show Nat × List Ent from x).2
def kids {h : Nat} (x : Nd (h + 1)) : List (Nd h) := (show Nat × List (Nd h) from x).2
theorem blk_leaf (b : Nat) (l : List Ent) : (leaf b l).blk = b := rfl
theorem ents_leaf (b : Nat) (l : List Ent) : (leaf b l).ents = l := rfl
theorem blk_branch {h : Nat} (b : Nat) (ks : List (Nd h)) : (branch b ks).blk = b := rfl
theorem kids_branch {h : Nat} (b : Nat) (ks : List (Nd h)) : (branch b ks).kids = ks := rfl
instance inh : (h : Nat) → Inhabited (Nd h)
  | 0 => ⟨leaf 0 []⟩
  | h + 1 => ⟨branch 0 []⟩
/-- All entries below. -/
def items : (h : Nat) → Nd h → List Ent
  | 0, x => x.ents
  | h + 1, x => x.kids.flatMap (items h)
def lo {h : Nat} (x : Nd h) : ByteArray := (ent (items h x) 0).key
def hi {h : Nat} (x : Nd h) : ByteArray := (ent (items h x) ((items h x).length - 1)).key
/-- A leaf's own entries; a branch's kids' pointers. -/
def own : (h : Nat) → Nd h → List Ent
  | 0, x => x.ents
  | _ + 1, _ => []
def ptr {h : Nat} (x : Nd h) : Value := .pointer (some ⟨x.blk, 0, none⟩)
def kptrs : (h : Nat) → Nd h → List Value
  | 0, _ => []
  | _ + 1, x => x.kids.map ptr
def size : (h : Nat) → Nd h → Nat
  | 0, x => x.ents.length
  | _ + 1, x => x.kids.length
def enough : (h : Nat) → Nd h → Bool
  | 0, x => decide (2 ≤ x.ents.length)
  | _ + 1, x => decide (3 ≤ x.kids.length)
def full : (h : Nat) → Nd h → Bool
  | 0, _ => true
  | h + 1, x => x.kids.all fun k => enough h k && full h k
end Nd
def entOk (e : Ent) : Bool := decide (rKey e.key = 0) && decide (rValue e.val = 0)
/-- A leaf's entries can be. -/
def leafB (l : List Ent) : Bool := decide (1 ≤ l.length) && decide (l.length ≤ 4) && riseB l && l.all entOk
/-- A node can be. -/
def Nd.Ok : (h : Nat) → Nd h → Prop
  | 0, x => leafB x.ents = true
  | h + 1, x => 2 ≤ x.kids.length ∧ x.kids.length ≤ 6 ∧ (∀ k ∈ x.kids, Nd.Ok h k) ∧ riseB (Nd.items (h + 1) x) = true
/-- A node's struct. -/
def Raw (H : HF) (b : Nat) (A : Option Addr) (n c : Nat) (B : Option Addr) (m d : Nat) (ht : Nat) (lo hi : ByteArray) : Prop :=
  ∃ E, H b = some (.cells #[.slice A n c, .slice B m d, .int .i64 (ht : Int), .string lo, .string hi] E (0, 0))
theorem Raw.mono {H H' : HF} {b : Nat} {A : Option Addr} {n c : Nat} {B : Option Addr} {m d ht : Nat} {lo hi : ByteArray} (h : Raw H b A n c B m d ht lo hi) (hle : HLe H H') : Raw H' b A n c B m d ht lo hi := by
  obtain ⟨E, h⟩ := h
  exact ⟨E, hle _ _ h⟩
/-- A node lies in the heap. -/
def NodeAt (H : HF) : (h : Nat) → Nd h → Prop
  | 0, x => Nd.Ok 0 x ∧ ∃ A c, Raw H x.blk A x.ents.length c none 0 0 1 x.lo x.hi ∧ x.ents.length ≤ c ∧ EntsAt H A x.ents
  | h + 1, x => Nd.Ok (h + 1) x ∧ (∃ B d, Raw H x.blk none 0 0 B x.kids.length d (h + 2) x.lo x.hi ∧ x.kids.length ≤ d ∧ SlAt H B (x.kids.map Nd.ptr)) ∧ ∀ k ∈ x.kids, NodeAt H h k
theorem NodeAt.ok {H : HF} : {h : Nat} → {x : Nd h} → NodeAt H h x → Nd.Ok h x
  | 0, _, h => h.1
  | _ + 1, _, h => h.1
theorem NodeAt.mono {H H' : HF} (hle : HLe H H') : {h : Nat} → {x : Nd h} → NodeAt H h x → NodeAt H' h x
  | 0, _, ⟨h1, A, c, h2, h3, h4⟩ => ⟨h1, A, c, h2.mono hle, h3, h4.mono hle⟩
  | _ + 1, _, ⟨h1, ⟨B, d, h2, h3, h4⟩, h5⟩ => ⟨h1, ⟨B, d, h2.mono hle, h3, h4.mono hle⟩, fun k hk => (h5 k hk).mono hle⟩
/-- What the struct of any node tells. -/
theorem NodeAt.raw {H : HF} : {h : Nat} → {x : Nd h} → NodeAt H h x → ∃ A c B d, Raw H x.blk A (Nd.own h x).length c B (Nd.kptrs h x).length d (h + 1) x.lo x.hi ∧ (Nd.own h x).length ≤ c ∧ (Nd.kptrs h x).length ≤ d ∧
    EntsAt H A (Nd.own h x) ∧ SlAt H B (Nd.kptrs h x)
  | 0, _, ⟨_, A, c, h2, h3, h4⟩ => ⟨A, c, none, 0, h2, h3, Nat.le_refl _, h4, .inl rfl⟩
  | _ + 1, x, ⟨_, ⟨B, d, h2, h3, h4⟩, _⟩ => ⟨none, 0, B, d, by simpa [Nd.own, Nd.kptrs] using h2, Nat.le_refl _, by simpa [Nd.kptrs] using h3, .inl rfl, h4⟩
theorem Nd.ok_len : {h : Nat} → {x : Nd h} → Nd.Ok h x → 1 ≤ (Nd.items h x).length ∧ riseB (Nd.items h x) = true
  | 0, x, h => by
    simp only [Nd.Ok, leafB, Bool.and_eq_true, decide_eq_true_eq] at h
    exact ⟨h.1.1.1, h.1.2⟩
  | h + 1, x, hx => by
    obtain ⟨h1, h2, h3, h4⟩ := hx
    refine ⟨?_, h4⟩
    show 1 ≤ (x.kids.flatMap (Nd.items h)).length
    cases hks : x.kids with
    | nil => rw [hks] at h1; simp at h1
    | cons a l =>
      have := (Nd.ok_len (h3 a (by rw [hks]; simp))).1
      simp only [List.flatMap_cons, List.length_append]
      omega
theorem Nd.ok_ents : {h : Nat} → {x : Nd h} → Nd.Ok h x → ∀ e ∈ Nd.items h x, entOk e = true
  | 0, x, h => by
    simp only [Nd.Ok, leafB, Bool.and_eq_true, List.all_eq_true] at h
    exact h.2
  | h + 1, x, hx => by
    intro e he
    simp only [Nd.items, List.mem_flatMap] at he
    obtain ⟨k, hk, he⟩ := he
    exact Nd.ok_ents (hx.2.2.1 k hk) e he
/-! ### The order of kids -/
theorem rise_ends {l : List Ent} (hr : riseB l = true) (hl : 1 ≤ l.length) {e : Ent} (he : e ∈ l) : slt e.key (ent l 0).key = false ∧ slt (ent l (l.length - 1)).key e.key = false := by
  obtain ⟨i, hi, rfl⟩ := List.mem_iff_getElem.1 he
  have e1 : ent l i = l[i] := by simp [ent, hi]
  rw [← e1]
  have step : ∀ {i j : Nat}, i < j → j < l.length → slt (ent l i).key (ent l j).key = true := by
    intro i j hij hj
    have h1 := at_split (show i < l.length by omega)
    rw [h1] at hr
    have h2 := (riseB_cons.1 (riseB_append.1 hr).2.1).1
    refine h2 _ ?_
    have : ent l j = ent (l.drop (i + 1)) (j - (i + 1)) := by
      simp only [ent, List.getD_eq_getElem?_getD, List.getElem?_drop]
      congr 2; omega
    rw [this]
    exact ent_mem' (by simp; omega)
  constructor
  · rcases Nat.eq_zero_or_pos i with h | h
    · subst h; exact slt_irrefl _
    · exact slt_asymm (step h hi)
  · rcases Nat.lt_or_ge i (l.length - 1) with h | h
    · exact slt_asymm (step h (by omega))
    · have : i = l.length - 1 := by omega
      rw [this]; exact slt_irrefl _
theorem Nd.lo_le {h : Nat} {x : Nd h} (hx : Nd.Ok h x) {e : Ent} (he : e ∈ Nd.items h x) : slt e.key x.lo = false := (rise_ends (ok_len hx).2 (ok_len hx).1 he).1
theorem Nd.le_hi {h : Nat} {x : Nd h} (hx : Nd.Ok h x) {e : Ent} (he : e ∈ Nd.items h x) : slt x.hi e.key = false := (rise_ends (ok_len hx).2 (ok_len hx).1 he).2
theorem Nd.lo_mem {h : Nat} {x : Nd h} (hx : Nd.Ok h x) : ∃ e ∈ Nd.items h x, e.key = x.lo := ⟨_, ent_mem' (ok_len hx).1, rfl⟩
theorem Nd.hi_mem {h : Nat} {x : Nd h} (hx : Nd.Ok h x) : ∃ e ∈ Nd.items h x, e.key = x.hi := ⟨_, ent_mem' (by have := (ok_len hx).1; omega), rfl⟩
/-- Each kid's greatest key lies ahead of the next one's least. -/
def Nd.chain {h : Nat} : List (Nd h) → Bool
  | a :: b :: l => slt a.hi b.lo && Nd.chain (b :: l)
  | _ => true
theorem slt_le_trans {a b c d : ByteArray} (h1 : slt b a = false) (h2 : slt b c = true) (h3 : slt d c = false) : slt a d = true :=
  slt_of_lt_of_le (slt_of_le_of_lt h1 h2) h3
theorem Nd.chain_iff {h : Nat} : ∀ {l : List (Nd h)}, (∀ k ∈ l, Nd.Ok h k) → (Nd.chain l = true ↔ riseB (l.flatMap (Nd.items h)) = true)
  | [], _ => by simp [Nd.chain, riseB]
  | [a], ho => by
    have := (ok_len (ho a (by simp))).2
    simp [Nd.chain, this]
  | a :: b :: l, ho => by
    have ha := ho a (by simp)
    have hb := ho b (by simp)
    have ih := Nd.chain_iff (l := b :: l) (fun k hk => ho k (List.mem_cons_of_mem _ hk))
    rw [List.flatMap_cons, riseB_append, ← ih]
    simp only [Nd.chain, Bool.and_eq_true]
    constructor
    · rintro ⟨h1, h2⟩
      refine ⟨(ok_len ha).2, h2, fun x hx y hy => ?_⟩
      have h3 := ih.1 h2
      have hlo : slt y.key b.lo = false := by
        have hr : riseB ((b :: l).flatMap (Nd.items h)) = true := h3
        have hlen : 1 ≤ ((b :: l).flatMap (Nd.items h)).length := by
          have := (ok_len hb).1
          simp; omega
        have h4 := (rise_ends hr hlen hy).1
        have : (ent ((b :: l).flatMap (Nd.items h)) 0) = ent (Nd.items h b) 0 := by
          rw [List.flatMap_cons]
          exact ent_append_left (ok_len hb).1
        rw [this] at h4
        exact h4
      exact slt_le_trans (Nd.le_hi ha hx) h1 hlo
    · rintro ⟨h1, h2, h3⟩
      refine ⟨?_, h2⟩
      obtain ⟨x, hx, hx2⟩ := Nd.hi_mem ha
      obtain ⟨y, hy, hy2⟩ := Nd.lo_mem hb
      rw [← hx2, ← hy2]
      exact h3 x hx y (by simp [hy])
/-- All nodes of a list lie in the heap. -/
def AllAt (H : HF) (h : Nat) (l : List (Nd h)) : Prop := ∀ k ∈ l, NodeAt H h k
theorem AllAt.mono {H H' : HF} {h : Nat} {l : List (Nd h)} (hl : AllAt H h l) (hle : HLe H H') : AllAt H' h l := fun k hk => (hl k hk).mono hle
theorem NodeAt.kids {H : HF} {h : Nat} {x : Nd (h + 1)} (hx : NodeAt H (h + 1) x) : AllAt H h x.kids := hx.2.2
theorem AllAt.ok {H : HF} {h : Nat} {l : List (Nd h)} (hl : AllAt H h l) : ∀ k ∈ l, Nd.Ok h k := fun k hk => (hl k hk).ok
theorem AllAt.append {H : HF} {h : Nat} {l m : List (Nd h)} (hl : AllAt H h l) (hm : AllAt H h m) : AllAt H h (l ++ m) := fun k hk => by
  rcases List.mem_append.1 hk with h1 | h1
  · exact hl k h1
  · exact hm k h1
theorem AllAt.take {H : HF} {h : Nat} {l : List (Nd h)} (hl : AllAt H h l) (n : Nat) : AllAt H h (l.take n) := fun k hk => hl k (List.mem_of_mem_take hk)
theorem AllAt.drop {H : HF} {h : Nat} {l : List (Nd h)} (hl : AllAt H h l) (n : Nat) : AllAt H h (l.drop n) := fun k hk => hl k (List.mem_of_mem_drop hk)
theorem leaf_at {H : HF} {b : Nat} {l : List Ent} {A : Option Addr} {c : Nat} (hl : leafB l = true) (hr : Raw H b A l.length c none 0 0 1 (ent l 0).key (ent l (l.length - 1)).key) (hc : l.length ≤ c) (he : EntsAt H A l) : NodeAt H 0 (.leaf b l) :=
  ⟨hl, A, c, hr, hc, he⟩
theorem branch_at {H : HF} {h b : Nat} {ks : List (Nd h)} {B : Option Addr} {d : Nat} (h2 : 2 ≤ ks.length) (h6 : ks.length ≤ 6) (hk : AllAt H h ks) (hch : Nd.chain ks = true) (hr : Raw H b none 0 0 B ks.length d (h + 2) (ks[0]'(by omega)).lo (ks[ks.length - 1]'(by omega)).hi)
    (hd : ks.length ≤ d) (he : SlAt H B (ks.map Nd.ptr)) : NodeAt H (h + 1) (.branch b ks) := by
  have hrise := (Nd.chain_iff hk.ok).1 hch
  refine ⟨⟨h2, h6, hk.ok, hrise⟩, ⟨B, d, ?_, hd, he⟩, hk⟩
  have e1 : (Nd.branch b ks).lo = (ks[0]'(by omega)).lo := by
    have hm : ks[0]'(by omega) ∈ ks := List.getElem_mem _
    have h1 := (Nd.ok_len (hk.ok _ hm)).1
    show (ent (ks.flatMap (Nd.items h)) 0).key = _
    cases ks with
    | nil => simp at h2
    | cons a l =>
      rw [List.flatMap_cons, ent_append_left (by simp at h1; omega)]
      rfl
  have e2 : (Nd.branch b ks).hi = (ks[ks.length - 1]'(by omega)).hi := by
    have hm : ks[ks.length - 1]'(by omega) ∈ ks := List.getElem_mem _
    have h1 := (Nd.ok_len (hk.ok _ hm)).1
    show (ent (ks.flatMap (Nd.items h)) ((ks.flatMap (Nd.items h)).length - 1)).key = _
    have hs : ks = ks.take (ks.length - 1) ++ [ks[ks.length - 1]'(by omega)] := by
      rw [← List.take_succ_eq_append_getElem (by omega), List.take_of_length_le (by omega)]
    generalize hq : ks[ks.length - 1]'(by omega) = q at *
    generalize ks.take (ks.length - 1) = p at hs
    subst hs
    rw [List.flatMap_append, ent_append_right (by simp; omega)]
    simp only [List.flatMap_cons, List.flatMap_nil, List.append_nil, List.length_append]
    show _ = (ent (Nd.items h q) ((Nd.items h q).length - 1)).key
    congr 2
    omega
  rw [e1, e2]
  exact hr
/-! ### Trees: none, or a node -/
abbrev Tr := Option (Σ h, Nd h)
namespace Tr
def val (t : Tr) : Value := .pointer (t.map fun x => ⟨x.2.blk, 0, none⟩)
def items : Tr → List Ent
  | none => []
  | some x => Nd.items x.1 x.2
def height : Tr → Nat
  | none => 0
  | some x => x.1 + 1
def At (H : HF) : Tr → Prop
  | none => True
  | some x => NodeAt H x.1 x.2
def full : Tr → Bool
  | none => true
  | some x => Nd.full x.1 x.2
def own : Tr → List Ent
  | none => []
  | some x => Nd.own x.1 x.2
def kptrs : Tr → List Value
  | none => []
  | some x => Nd.kptrs x.1 x.2
end Tr
theorem Tr.At.mono {H H' : HF} {t : Tr} (h : Tr.At H t) (hle : HLe H H') : Tr.At H' t := by
  cases t with
  | none => trivial
  | some x => exact NodeAt.mono hle h
end Go.Proofs.Ytnjeoobcejlojaa
