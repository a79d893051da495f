/- Trees, the plain laws: a key's kid, paths, what is put in and taken out. Conditions: none; it runs no function of the program. -/
import Derived.Test.YtnjeoobcejlojaaNode
namespace Go.Proofs.Ytnjeoobcejlojaa
open Go.Proofs Go.RowKit
set_option linter.unusedVariables false
set_option linter.unusedSimpArgs false
/-! ### A change in the midst -/
theorem Below'.append {a b : List Ent} {k : ByteArray} (ha : Below' a k) (hb : Below' b k) : Below' (a ++ b) k := fun x hx => by
  rcases List.mem_append.1 hx with h | h
  · exact ha x h
  · exact hb x h
theorem Above.append {a b : List Ent} {k : ByteArray} (ha : Above a k) (hb : Above b k) : Above (a ++ b) k := fun x hx => by
  rcases List.mem_append.1 hx with h | h
  · exact ha x h
  · exact hb x h
section
variable {a m b : List Ent} {key : ByteArray}
theorem rise_parts (hr : riseB (a ++ m ++ b) = true) : riseB a = true ∧ riseB m = true ∧ riseB b = true := by
  rw [riseB_append, riseB_append] at hr
  exact ⟨hr.1.1, hr.1.2.1, hr.2.1⟩
theorem withL_mid {e : Ent} (hr : riseB (a ++ m ++ b) = true) (ha : Below' a e.key) (hb : Above b e.key) : withL (a ++ m ++ b) e = a ++ withL m e ++ b := by
  rcases split_at (rise_parts hr).2.1 e.key with ⟨p, q, rfl, h1, h2⟩ | ⟨p, x, q, rfl, h1, hx, h2⟩
  · rw [withL_no h1 h2, show a ++ (p ++ q) ++ b = (a ++ p) ++ (q ++ b) by simp, withL_no (ha.append h1) (h2.append hb)]; simp
  · rw [withL_yes h1 hx h2, show a ++ (p ++ x :: q) ++ b = (a ++ p) ++ x :: (q ++ b) by simp, withL_yes (ha.append h1) hx (h2.append hb)]; simp
theorem withoutL_mid (hr : riseB (a ++ m ++ b) = true) (ha : Below' a key) (hb : Above b key) : withoutL (a ++ m ++ b) key = a ++ withoutL m key ++ b := by
  rcases split_at (rise_parts hr).2.1 key with ⟨p, q, rfl, h1, h2⟩ | ⟨p, x, q, rfl, h1, hx, h2⟩
  · rw [withoutL_no h1 h2, show a ++ (p ++ q) ++ b = (a ++ p) ++ (q ++ b) by simp, withoutL_no (ha.append h1) (h2.append hb)]
  · rw [withoutL_yes h1 hx h2, show a ++ (p ++ x :: q) ++ b = (a ++ p) ++ x :: (q ++ b) by simp, withoutL_yes (ha.append h1) hx (h2.append hb)]; simp
theorem look_mid (hr : riseB (a ++ m ++ b) = true) (ha : Below' a key) (hb : Above b key) : look (a ++ m ++ b) key = look m key := by
  rcases split_at (rise_parts hr).2.1 key with ⟨p, q, rfl, h1, h2⟩ | ⟨p, x, q, rfl, h1, hx, h2⟩
  · rw [look_no h1 h2, show a ++ (p ++ q) ++ b = (a ++ p) ++ (q ++ b) by simp, look_no (ha.append h1) (h2.append hb)]
  · rw [look_yes h1 hx h2, show a ++ (p ++ x :: q) ++ b = (a ++ p) ++ x :: (q ++ b) by simp, look_yes (ha.append h1) hx (h2.append hb)]
end
namespace Nd
variable {h : Nat}
/-! ### A key's kid -/
def kidGo (key : ByteArray) : List (Nd h) → Nat → Nat → Nat
  | [], _, p => p
  | k :: l, i, p => kidGo key l (i + 1) (if slt key k.lo then p else i)
def kidAt (ks : List (Nd h)) (key : ByteArray) : Nat := kidGo key ks 0 0
theorem kidGo_above {key : ByteArray} : ∀ {l : List (Nd h)} {i p : Nat}, (∀ k ∈ l, slt key k.lo = true) → kidGo key l i p = p
  | [], _, _, _ => rfl
  | k :: l, i, p, ha => by
    simp only [kidGo, ha k (by simp), if_true]
    exact kidGo_above fun k hk => ha k (by simp [hk])
theorem chain_lo {a : Nd h} : ∀ {l : List (Nd h)}, (∀ k ∈ a :: l, Ok h k) → chain (a :: l) = true → ∀ k ∈ l, slt a.lo k.lo = true := by
  intro l ho hc k hk
  have hr := (chain_iff ho).1 hc
  rw [List.flatMap_cons, riseB_append] at hr
  obtain ⟨x, hx, hx2⟩ := lo_mem (ho a (by simp))
  obtain ⟨y, hy, hy2⟩ := lo_mem (ho k (by simp [hk]))
  rw [← hx2, ← hy2]
  exact hr.2.2 x hx y (List.mem_flatMap.2 ⟨k, hk, hy⟩)
theorem chain_tail {a : Nd h} {l : List (Nd h)} (hc : chain (a :: l) = true) : chain l = true := by
  cases l with
  | nil => rfl
  | cons b l => simp only [chain, Bool.and_eq_true] at hc; exact hc.2
theorem kidGo_split {key : ByteArray} : ∀ (l : List (Nd h)) (k : Nd h) (i : Nat), (∀ x ∈ k :: l, Ok h x) → chain (k :: l) = true →
    ∃ a m b, k :: l = a ++ m :: b ∧ kidGo key l (i + 1) i = i + a.length ∧ (a ≠ [] → slt key m.lo = false) ∧ ∀ x ∈ b, slt key x.lo = true
  | [], k, i, _, _ => ⟨[], k, [], rfl, rfl, fun h => absurd rfl h, by simp⟩
  | k2 :: l, k, i, ho, hc => by
    have ho2 : ∀ x ∈ k2 :: l, Ok h x := fun x hx => ho x (List.mem_cons_of_mem _ hx)
    have hc2 := chain_tail hc
    cases hs : slt key k2.lo with
    | true =>
      have hab : ∀ x ∈ k2 :: l, slt key x.lo = true := by
        intro x hx
        rcases List.mem_cons.1 hx with rfl | hx
        · exact hs
        · exact slt_trans hs (chain_lo ho2 hc2 x hx)
      exact ⟨[], k, k2 :: l, rfl, kidGo_above hab, fun h => absurd rfl h, hab⟩
    | false =>
      obtain ⟨a, m, b, h1, h2, h3, h4⟩ := kidGo_split (key := key) l k2 (i + 1) ho2 hc2
      refine ⟨k :: a, m, b, by rw [h1]; rfl, ?_, fun _ => ?_, h4⟩
      · simp only [kidGo, hs]
        rw [List.length_cons, show i + (a.length + 1) = i + 1 + a.length by omega]
        exact h2
      · cases a with
        | nil => simp at h1; rw [← h1.1]; exact hs
        | cons _ _ => exact h3 (by simp)
/-- A key's kid: all ahead of it lies below the key, all behind it above. -/
theorem kid_split {ks : List (Nd h)} (hne : 1 ≤ ks.length) (ho : ∀ x ∈ ks, Ok h x) (hc : chain ks = true) (key : ByteArray) :
    ∃ a m b, ks = a ++ m :: b ∧ kidAt ks key = a.length ∧ Below' (a.flatMap (items h)) key ∧ Above (b.flatMap (items h)) key ∧ (a ≠ [] → slt key m.lo = false) ∧ ∀ x ∈ b, slt key x.lo = true := by
  cases ks with
  | nil => simp at hne
  | cons k l =>
    obtain ⟨a, m, b, h1, h2, h3, h4⟩ := kidGo_split (key := key) l k 0 ho hc
    have hat : kidAt (k :: l) key = a.length := by
      unfold kidAt
      simp only [kidGo]
      have : (if slt key k.lo = true then 0 else 0) = 0 := by split <;> rfl
      rw [this, h2]; omega
    have hr := (chain_iff ho).1 hc
    rw [h1] at hr
    rw [h1] at ho
    refine ⟨a, m, b, h1, hat, fun x hx => ?_, fun y hy => ?_, h3, h4⟩
    · have hm := ho m (by simp)
      obtain ⟨z, hz, hz2⟩ := lo_mem hm
      have hne : a ≠ [] := by intro e; subst e; simp at hx
      have h5 := h3 hne
      rw [List.flatMap_append, riseB_append] at hr
      have h6 := hr.2.2 x hx z (by simp [hz])
      rw [hz2] at h6
      exact slt_of_lt_of_le h6 h5
    · obtain ⟨k2, hk2, hy2⟩ := List.mem_flatMap.1 hy
      exact slt_of_lt_of_le (h4 k2 hk2) (lo_le (ho k2 (by simp [hk2])) hy2)
theorem flat_split (a : List (Nd h)) (m : Nd h) (b : List (Nd h)) : (a ++ m :: b).flatMap (items h) = a.flatMap (items h) ++ items h m ++ b.flatMap (items h) := by simp
/-! ### Paths -/
def kidOf {h : Nat} (x : Nd (h + 1)) (key : ByteArray) : Nd h := x.kids.getD (kidAt x.kids key) default
def leafAt : (h : Nat) → Nd h → ByteArray → Nd 0
  | 0, x, _ => x
  | h + 1, x, key => leafAt h (kidOf x key) key
def pathL : (h : Nat) → Nd h → ByteArray → List Value
  | 0, x, _ => [x.ptr]
  | h + 1, x, key => x.ptr :: pathL h (kidOf x key) key
theorem ok_chain {x : Nd (h + 1)} (hx : Ok (h + 1) x) : chain x.kids = true := (chain_iff hx.2.2.1).2 hx.2.2.2
theorem kidOf_split {x : Nd (h + 1)} (hx : Ok (h + 1) x) (key : ByteArray) : ∃ a b, x.kids = a ++ kidOf x key :: b ∧ kidAt x.kids key = a.length ∧ Below' (a.flatMap (items h)) key ∧ Above (b.flatMap (items h)) key ∧
    (a ≠ [] → slt key (kidOf x key).lo = false) ∧ ∀ y ∈ b, slt key y.lo = true := by
  obtain ⟨a, m, b, h1, h2, h3, h4, h5, h6⟩ := kid_split (by have := hx.1; omega) hx.2.2.1 (ok_chain hx) key
  have : kidOf x key = m := by
    unfold kidOf
    rw [h2, h1]; simp
  rw [this]
  exact ⟨a, b, h1, h2, h3, h4, h5, h6⟩
theorem kidOf_mem {x : Nd (h + 1)} (hx : Ok (h + 1) x) (key : ByteArray) : kidOf x key ∈ x.kids := by
  obtain ⟨a, b, h1, _⟩ := kidOf_split hx key
  rw [h1]; simp
theorem kidAt_lt {x : Nd (h + 1)} (hx : Ok (h + 1) x) (key : ByteArray) : kidAt x.kids key < x.kids.length := by
  obtain ⟨a, b, h1, h2, _⟩ := kidOf_split hx key
  rw [h2, h1]; simp
theorem items_split {x : Nd (h + 1)} {a b : List (Nd h)} {m : Nd h} (h1 : x.kids = a ++ m :: b) : items (h + 1) x = a.flatMap (items h) ++ items h m ++ b.flatMap (items h) := by
  show x.kids.flatMap (items h) = _
  rw [h1, flat_split]
theorem look_kid {x : Nd (h + 1)} (hx : Ok (h + 1) x) (key : ByteArray) : look (items (h + 1) x) key = look (items h (kidOf x key)) key := by
  obtain ⟨a, b, h1, h2, h3, h4, _⟩ := kidOf_split hx key
  have hr := hx.2.2.2
  rw [items_split h1] at hr ⊢
  exact look_mid hr h3 h4
theorem withL_kid {x : Nd (h + 1)} (hx : Ok (h + 1) x) {a b : List (Nd h)} {m : Nd h} {e : Ent} (h1 : x.kids = a ++ m :: b) (h3 : Below' (a.flatMap (items h)) e.key) (h4 : Above (b.flatMap (items h)) e.key) :
    withL (items (h + 1) x) e = a.flatMap (items h) ++ withL (items h m) e ++ b.flatMap (items h) := by
  have hr := hx.2.2.2
  rw [items_split h1] at hr ⊢
  exact withL_mid hr h3 h4
theorem withoutL_kid {x : Nd (h + 1)} (hx : Ok (h + 1) x) {a b : List (Nd h)} {m : Nd h} {key : ByteArray} (h1 : x.kids = a ++ m :: b) (h3 : Below' (a.flatMap (items h)) key) (h4 : Above (b.flatMap (items h)) key) :
    withoutL (items (h + 1) x) key = a.flatMap (items h) ++ withoutL (items h m) key ++ b.flatMap (items h) := by
  have hr := hx.2.2.2
  rw [items_split h1] at hr ⊢
  exact withoutL_mid hr h3 h4
theorem look_leaf : {h : Nat} → {x : Nd h} → Ok h x → (key : ByteArray) → look (items h x) key = look (leafAt h x key).ents key
  | 0, _, _, _ => rfl
  | h + 1, x, hx, key => by
    rw [look_kid hx key]
    exact look_leaf (hx.2.2.1 _ (kidOf_mem hx key)) key
theorem path_length : {h : Nat} → (x : Nd h) → (key : ByteArray) → (pathL h x key).length = h + 1
  | 0, _, _ => rfl
  | h + 1, x, key => by simp only [pathL, List.length_cons, path_length]
theorem path_last : {h : Nat} → (x : Nd h) → (key : ByteArray) → (pathL h x key)[h]? = some (leafAt h x key).ptr
  | 0, _, _ => rfl
  | h + 1, x, key => by simp only [pathL, leafAt, List.getElem?_cons_succ]; exact path_last _ key
theorem items_gt : {h : Nat} → {x : Nd h} → Ok h x → h + 1 ≤ (items h x).length
  | 0, x, hx => by have := (ok_len hx).1; omega
  | h + 1, x, hx => by
    obtain ⟨h1, h2, h3, h4⟩ := hx
    show _ ≤ (x.kids.flatMap (items h)).length
    match hk : x.kids with
    | [] => rw [hk] at h1; simp at h1
    | [_] => rw [hk] at h1; simp at h1
    | a :: b :: l =>
      have ha := items_gt (h3 a (by rw [hk]; simp))
      have hb := items_gt (h3 b (by rw [hk]; simp))
      simp only [List.flatMap_cons, List.length_append]
      omega
/-! ### Blocks -/
def blocks : (h : Nat) → Nd h → List Nat
  | 0, x => [x.blk]
  | h + 1, x => x.blk :: x.kids.flatMap (blocks h)
theorem blk_mem : {h : Nat} → (x : Nd h) → x.blk ∈ blocks h x
  | 0, x => by simp [blocks]
  | h + 1, x => by simp [blocks]
theorem full_kids {x : Nd (h + 1)} (hx : full (h + 1) x = true) : ∀ k ∈ x.kids, enough h k = true ∧ full h k = true := by
  intro k hk
  simp only [full, List.all_eq_true, Bool.and_eq_true] at hx
  exact hx k hk
end Nd
theorem NodeAt.leafAt {H : HF} : {h : Nat} → {x : Nd h} → NodeAt H h x → (key : ByteArray) → NodeAt H 0 (Nd.leafAt h x key)
  | 0, _, hx, _ => hx
  | h + 1, x, hx, key => NodeAt.leafAt (hx.kids _ (Nd.kidOf_mem hx.ok key)) key
theorem slt_or_eq (a b : ByteArray) : (slt a b || decide (a = b)) = !slt b a := by
  cases h1 : slt a b with
  | true => rw [slt_asymm h1]; rfl
  | false =>
    cases h2 : slt b a with
    | true => have := slt_ne h2; simp [Ne.symm this]
    | false => simp [slt_total h1 h2]
section
variable {P : Program} {r : Option Nat} {f : Fr} {w : World} {K : Value → World → Prop} {d : Option Nat} {ty : TypeId} {pos : String} {af : Array Edge} {g : Option (Nat × Bool)} {T T' : TypeId} {x y : Operand}
theorem W_sleqB [TyStr P T] {b : Bool} {m n : ByteArray} (hx : ev f x = .string m) (hy : ev f y = .string n) (h : slt n m = b) (hk : K (.bool (!b)) w) : OpW P r ⟨d, .binOp .leq T x y T', ty, pos, af, g⟩ f w K :=
  W_sleq hx hy (by rw [slt_or_eq, h]; exact hk)
theorem W_sgtrB [TyStr P T] {b : Bool} {m n : ByteArray} (hx : ev f x = .string m) (hy : ev f y = .string n) (h : slt n m = b) (hk : K (.bool b) w) : OpW P r ⟨d, .binOp .gtr T x y T', ty, pos, af, g⟩ f w K :=
  W_sgtr hx hy (by rw [slt_or_eq, h, Bool.not_not]; exact hk)
/-- The result is a variable of the call's own. -/
theorem ResW_cell {t : Nat} {T : TypeId} {s : Nat} [TyAgg P T] [TySize P T s] {H : HF} {b : Nat} {cs : List Value} (h : f t = .pointer (some ⟨b, 0, none⟩)) (hm : Mut H w b cs) (hl : cs.length = s) : ResW P #[.cell t T] f w (.agg cs.toArray) := by
  intro n a fn ha hr
  have hc := run_loadCells_list (P := P) w ⟨b, 0, none⟩ cs (fun j v hj => by rw [add_lit']; simpa using Sub.mut_or hm hj)
  rw [hl] at hc
  simp [results, hr, ha.at_, h, asAddr, loadVar, TyAgg.agg (P := P) (T := T), TySize.size (P := P) (T := T), hc]
end
end Go.Proofs.Ytnjeoobcejlojaa
