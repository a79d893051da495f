/- Texts of this proof in one file, each with its conditions ahead of it. First: How an iterator is walked: what it has given and where it stands. Conditions: each law's own premises. -/
import Derived.Test.YtgaabmoknpifnaaRange2
import Derived.Test.YtgaabmoknpifnaaNode
import Derived.Test.YtgaabmoknpifnaaPure2
import Derived.Test.YtgaabmoknpifnaaNode5
import Derived.Test.YtgaabmoknpifnaaTyb
namespace Go.Proofs.Ytgaabmoknpifnaa
open Go.Proofs Go.RowKit
set_option linter.unusedVariables false
section
variable {P : Program} {α : Type} {J Jx J' : Inv α} {X0 X X' : Nat → Prop} {H0 H H' : HF} {w0 w w' : World} {p p' : List α} {xs : List α}
/-- Since (X0, H0, w0) the one who iterates has turned only its own; J is kept with p given. -/
structure Its (J : Inv α) (X0 : Nat → Prop) (H0 : HF) (w0 : World) (X : Nat → Prop) (p : List α) (H : HF) (w : World) : Prop where
  turn : Turn (notIn X0) H0 w0 H w
  sup : ∀ k, X0 k → X k
  new : ∀ k, X k → X0 k ∨ w0.heap.size ≤ k
  bnd : (∀ k, X0 k → k < w0.heap.size) → ∀ k, X k → k < w.heap.size
  has : J X p H w
theorem Its.start (hS : Sub H w) (h : J X p H w) : Its J X H w X p H w := ⟨Turn.refl hS, fun _ h => h, fun _ h => .inl h, fun h => h, h⟩
theorem Its.sub (h : Its J X0 H0 w0 X p H w) : Sub H w := h.turn.sub
theorem Its.le (h : Its J X0 H0 w0 X p H w) : HLe H0 H := h.turn.le
theorem Its.step (h : Its J X0 H0 w0 X p H w) (hJ : Stable J) (hG : Grow H w H' w') : Its J X0 H0 w0 (orNew X w w') p H' w' :=
  ⟨h.turn.trans hG.turn, fun k hk => .inl (h.sup k hk), fun k hk => by
    rcases hk with h1 | h1
    · exact h.new k h1
    · exact .inr (Nat.le_trans h.turn.size h1.1), fun hb k hk => by
    rcases hk with h1 | h1
    · exact Nat.lt_of_lt_of_le (h.bnd hb k h1) hG.below.size
    · exact h1.2, hJ _ _ _ _ _ _ h.has hG.turn⟩
/-- Rows that belong to the one who iterates are turned. -/
theorem Its.own {S : Nat → Prop} (h : Its J X0 H0 w0 X p H w) (hJ : Stable J) (hT : Turn S H w H' w') (hS : ∀ k, S k → X k ∧ ¬ X0 k) : Its J X0 H0 w0 (orNew X w w') p H' w' :=
  ⟨h.turn.trans (hT.wider fun k _ hk => (hS k hk).2), fun k hk => .inl (h.sup k hk), fun k hk => by
    rcases hk with h1 | h1
    · exact h.new k h1
    · exact .inr (Nat.le_trans h.turn.size h1.1), fun hb k hk => by
    rcases hk with h1 | h1
    · exact Nat.lt_of_lt_of_le (h.bnd hb k h1) hT.size
    · exact h1.2, hJ _ _ _ _ _ _ h.has (hT.wider fun k _ hk => (hS k hk).1)⟩
theorem Its.trans (h : Its J X0 H0 w0 X p H w) (k : Its J' X H w X' p' H' w') : Its J' X0 H0 w0 X' p' H' w' :=
  ⟨h.turn.trans (k.turn.wider fun b _ hb h2 => hb (h.sup b h2)), fun b hb => k.sup b (h.sup b hb), fun b hb => by
    rcases k.new b hb with h1 | h1
    · exact h.new b h1
    · exact .inr (Nat.le_trans h.turn.size h1), fun hb => k.bnd (h.bnd hb), k.has⟩
/-- The end of a part: all given (true), or yield said no (false). -/
def Went (xs : List α) (J Jx : Inv α) (X0 : Nat → Prop) (H0 : HF) (w0 : World) (p' : List α) (v : Value) (w' : World) : Prop :=
  (v = .bool true ∧ ∃ X H, Its J X0 H0 w0 X p' H w') ∨ (v = .bool false ∧ ∃ X H p r, xs = p ++ r ∧ Its Jx X0 H0 w0 X p H w')
theorem Went.after {v : Value} (h : Its J X0 H0 w0 X p H w) (k : Went xs J Jx X H w p' v w') : Went xs J Jx X0 H0 w0 p' v w' := by
  rcases k with ⟨hv, X2, H2, k⟩ | ⟨hv, X2, H2, p2, r, he, k⟩
  · exact .inl ⟨hv, X2, H2, h.trans k⟩
  · exact .inr ⟨hv, X2, H2, p2, r, he, h.trans k⟩
theorem Yields.at {y : Value} {enc : α → List Value} (hy : Yields P y enc xs J Jx) {x : α} {r : List α} (hx : xs = p ++ x :: r) (h : Its J X0 H0 w0 X p H w) :
    CallV P y (enc x) w fun v w' => Went xs J Jx X0 H0 w0 (p ++ [x]) v w' := by
  refine (hy X p x r H w hx h.sub h.has).mono ?_
  rintro v w' ⟨H', hT, ⟨hv, hj⟩ | ⟨hv, hj⟩⟩
  · exact .inl ⟨hv, X, H', h.trans ⟨hT, fun _ h => h, fun _ h => .inl h, fun hb k hk => Nat.lt_of_lt_of_le (hb k hk) hT.size, hj⟩⟩
  · exact .inr ⟨hv, X, H', p ++ [x], r, by rw [hx]; simp, h.trans ⟨hT, fun _ h => h, fun _ h => .inl h, fun hb k hk => Nat.lt_of_lt_of_le (hb k hk) hT.size, hj⟩⟩
theorem Went.end {v : Value} (h : Went xs J Jx X0 H0 w0 xs v w') : IterEnd xs J Jx (fun _ => False) X0 H0 w0 w' := by
  rcases h with ⟨_, X, H, k⟩ | ⟨_, X, H, p, r, he, k⟩
  · exact ⟨H, X, k.turn.wider fun _ _ h => .inl h, k.sup, k.new, .inl k.has⟩
  · exact ⟨H, X, k.turn.wider fun _ _ h => .inl h, k.sup, k.new, .inr ⟨p, r, he, k.has⟩⟩
end
/-! ### An iterator that loops over another -/
section
variable {P : Program} {α β : Type} {J Jx : Inv β} {X0 X X' Xi : Nat → Prop} {H0 H H' H1 : HF} {w0 w w' W : World} {p p' : List β} {xs : List β} {bs : List Nat} {g : List α → List β} {φ : List α → HF → World → Prop} {φx : HF → World → Prop} {pre : List α}
def Inn (J : Inv β) (X0 : Nat → Prop) (H0 : HF) (w0 : World) (bs : List Nat) (g : List α → List β) (φ : List α → HF → World → Prop) : Inv α :=
  fun Xi pre H w => ∃ X, Its J X0 H0 w0 X (g pre) H w ∧ (∀ k, Xi k → X k ∧ w0.heap.size ≤ k) ∧ (∀ b ∈ bs, ¬ Xi b ∧ X b ∧ w0.heap.size ≤ b ∧ b < w.heap.size) ∧ φ pre H w
def InnX (xs : List β) (Jx : Inv β) (X0 : Nat → Prop) (H0 : HF) (w0 : World) (bs : List Nat) (φx : HF → World → Prop) : Inv α :=
  fun Xi _ H w => ∃ X p r, xs = p ++ r ∧ Its Jx X0 H0 w0 X p H w ∧ (∀ k, Xi k → X k ∧ w0.heap.size ≤ k) ∧ (∀ b ∈ bs, ¬ Xi b ∧ X b ∧ w0.heap.size ≤ b ∧ b < w.heap.size) ∧ φx H w
theorem inn_core {J : Inv β} (hJ : Stable J) (hX0 : ∀ k, X0 k → k < w0.heap.size) (hI : Its J X0 H0 w0 X p H w) (hX : ∀ k, Xi k → X k ∧ w0.heap.size ≤ k) (hT : Turn Xi H w H' w') :
    Its J X0 H0 w0 (orNew X w w') p H' w' ∧ ∀ k, orNew Xi w w' k → orNew X w w' k ∧ w0.heap.size ≤ k := by
  refine ⟨hI.own hJ hT fun k hk => ⟨(hX k hk).1, fun h => ?_⟩, fun k hk => ?_⟩
  · have := hX0 k h; have := (hX k hk).2; omega
  · rcases hk with h | h
    · exact ⟨.inl (hX k h).1, (hX k h).2⟩
    · exact ⟨.inr h, Nat.le_trans hI.turn.size h.1⟩
theorem bs_core (hb : ∀ b ∈ bs, ¬ Xi b ∧ X b ∧ w0.heap.size ≤ b ∧ b < w.heap.size) (hs : w.heap.size ≤ w'.heap.size) : ∀ b ∈ bs, ¬ orNew Xi w w' b ∧ orNew X w w' b ∧ w0.heap.size ≤ b ∧ b < w'.heap.size := fun b h' => ⟨by
  rintro (h1 | h1)
  · exact (hb b h').1 h1
  · have := (hb b h').2.2.2; omega, .inl (hb b h').2.1, (hb b h').2.2.1, Nat.lt_of_lt_of_le (hb b h').2.2.2 hs⟩
theorem Inn.good (hJ : Stable J) (hX0 : ∀ k, X0 k → k < w0.heap.size) (hφ : Abides bs φ) : Good (Inn J X0 H0 w0 bs g φ) := by
  refine ⟨?_, ?_, ?_⟩
  · rintro Xi pre H w H' w' ⟨X, hI, hX, hb, h⟩ hT
    obtain ⟨h1, h2⟩ := inn_core hJ hX0 hI hX hT
    exact ⟨_, h1, h2, bs_core hb hT.size, hφ Xi pre H w H' w' (fun b h' => (hb b h').1) hT h⟩
  · rintro Xi Xi' pre H w hX ⟨X, hI, h2, h3, h4⟩
    exact ⟨X, hI, fun k hk => h2 k (hX k hk), fun b h' => ⟨fun h => (h3 b h').1 (hX b h), (h3 b h').2⟩, h4⟩
  · rintro Xi pre H w ⟨X, hI, h2, _⟩ k hk
    exact hI.bnd hX0 k (h2 k hk).1
theorem Inn.stable (hJ : Stable J) (hX0 : ∀ k, X0 k → k < w0.heap.size) (hφ : Abides bs φ) : Stable (Inn J X0 H0 w0 bs g φ) := by
  rintro Xi pre H w H' w' ⟨X, hI, hX, hb, h⟩ hT
  obtain ⟨h1, h2⟩ := inn_core hJ hX0 hI hX hT
  exact ⟨_, h1, h2, bs_core hb hT.size, hφ Xi pre H w H' w' (fun b h' => (hb b h').1) hT h⟩
theorem InnX.stable (hJx : Stable Jx) (hX0 : ∀ k, X0 k → k < w0.heap.size) (hφ : Abides (α := Unit) bs (fun _ => φx)) : Stable (InnX (α := α) xs Jx X0 H0 w0 bs φx) := by
  rintro Xi pre H w H' w' ⟨X, p, r, he, hI, hX, hb, h⟩ hT
  obtain ⟨h1, h2⟩ := inn_core hJx hX0 hI hX hT
  exact ⟨_, p, r, he, h1, h2, bs_core hb hT.size, hφ Xi [] H w H' w' (fun b h' => (hb b h').1) hT h⟩
/-- A round's end. -/
theorem Inn.next {pre' : List α} (hI : Its J X0 H0 w0 X p H w) (hXi : ∀ k, Xi k → X k ∧ w0.heap.size ≤ k) (hb : ∀ b ∈ bs, ¬ Xi b ∧ X b ∧ w0.heap.size ≤ b ∧ b < w.heap.size) (hL : Its J X H w X' (g pre') H' w') (hφ : φ pre' H' w') :
    ∃ H', Turn (notIn Xi) H w H' w' ∧ Inn J X0 H0 w0 bs g φ Xi pre' H' w' :=
  ⟨H', hL.turn.wider fun k _ h h2 => h (hXi k h2).1, X', hI.trans hL, fun k hk => ⟨hL.sup k (hXi k hk).1, (hXi k hk).2⟩, fun b h' => ⟨(hb b h').1, hL.sup b (hb b h').2.1, (hb b h').2.2.1, Nat.lt_of_lt_of_le (hb b h').2.2.2 hL.turn.size⟩, hφ⟩
theorem Inn.stop {pre' : List α} {r : List β} (hI : Its J X0 H0 w0 X p H w) (hXi : ∀ k, Xi k → X k ∧ w0.heap.size ≤ k) (hb : ∀ b ∈ bs, ¬ Xi b ∧ X b ∧ w0.heap.size ≤ b ∧ b < w.heap.size) (he : xs = p' ++ r) (hL : Its Jx X H w X' p' H' w') (hφ : φx H' w') :
    ∃ H', Turn (notIn Xi) H w H' w' ∧ InnX (α := α) xs Jx X0 H0 w0 bs φx Xi pre' H' w' :=
  ⟨H', hL.turn.wider fun k _ h h2 => h (hXi k h2).1, X', p', r, he, hI.trans hL, fun k hk => ⟨hL.sup k (hXi k hk).1, (hXi k hk).2⟩, fun b h' => ⟨(hb b h').1, hL.sup b (hb b h').2.1, (hb b h').2.2.1, Nat.lt_of_lt_of_le (hb b h').2.2.2 hL.turn.size⟩, hφ⟩
/-- A round that ends the iteration, with rows of the call's own written at last. -/
theorem Inn.stopT {pre' : List α} {r : List β} {S : Nat → Prop} {H'' : HF} {w'' : World} (hX0 : ∀ k, X0 k → k < w0.heap.size) (hJx : Stable Jx) (hI : Its J X0 H0 w0 X p H w) (hXi : ∀ k, Xi k → X k ∧ w0.heap.size ≤ k) (hb : ∀ b ∈ bs, ¬ Xi b ∧ X b ∧ w0.heap.size ≤ b ∧ b < w.heap.size) (he : xs = p' ++ r) (hL : Its Jx X H w X' p' H' w')
    (hT : Turn S H' w' H'' w'') (hS : ∀ k, S k → k ∈ bs) (hφ : φx H'' w'') :
    ∃ H', Turn (notIn Xi) H w H' w'' ∧ InnX (α := α) xs Jx X0 H0 w0 bs φx Xi pre' H' w'' := by
  have h1 := hI.trans hL
  have h2 := h1.own hJx hT fun k hk => ⟨hL.sup k (hb k (hS k hk)).2.1, fun h => by have := hX0 k h; have := (hb k (hS k hk)).2.2.1; omega⟩
  refine ⟨H'', (hL.turn.wider fun k _ h h2 => h (hXi k h2).1).trans (hT.wider fun k _ hk h => (hb k (hS k hk)).1 h), _, p', r, he, h2, fun k hk => ⟨.inl (hL.sup k (hXi k hk).1), (hXi k hk).2⟩, fun b h' => ⟨(hb b h').1, .inl (hL.sup b (hb b h').2.1), (hb b h').2.2.1, ?_⟩, hφ⟩
  exact Nat.lt_of_lt_of_le (Nat.lt_of_lt_of_le (hb b h').2.2.2 hL.turn.size) hT.size
/-- The mark is taken. -/
theorem Its.closed {D : Nat} (hX0 : ∀ k, X0 k → k < w0.heap.size) (hJ : Stable J) (hI : Its J X0 H0 w0 X p H w) (hX : X D) (hD : w0.heap.size ≤ D) (hT : Turn (fun k => k = D) H w H' w') : Its J X0 H0 w0 (orNew X w w') p H' w' :=
  hI.own hJ hT fun k hk => by subst hk; exact ⟨hX, fun h => by have := hX0 _ h; omega⟩
/-- Left by return alone. -/
def retI {γ : Type} (I : Inv γ) : Code → Inv γ
  | .ret => I
  | _ => fun _ _ _ _ => False
theorem retI.stable {γ : Type} {I : Inv γ} (h : Stable I) : ∀ c, Stable (retI I c) := by
  intro c
  cases c
  case ret => exact h
  all_goals exact fun _ _ _ _ _ _ h _ => h
/-- Left by an exit alone. -/
def exitI {γ : Type} (j : Nat) (I : Inv γ) : Code → Inv γ
  | .exit i => fun X pre H w => i = j ∧ I X pre H w
  | _ => fun _ _ _ _ => False
theorem exitI.stable {γ : Type} {j : Nat} {I : Inv γ} (h : Stable I) : ∀ c, Stable (exitI j I c) := by
  intro c
  cases c
  case exit i => exact fun _ _ _ _ _ _ k hT => ⟨k.1, h _ _ _ _ _ _ k.2 hT⟩
  all_goals exact fun _ _ _ _ _ _ h _ => h
def neverI {γ : Type} : Code → Inv γ := fun _ _ _ _ _ => False
theorem neverI.stable {γ : Type} : ∀ c, Stable (neverI (γ := γ) c) := fun _ _ _ _ _ _ _ h _ => h
end
/-- A value that gives xs, whenever it is called. -/
def IterV {α : Type} (P : Program) (enc : α → List Value) (xs : List α) (v : Value) (H : HF) : Prop :=
  ∃ gf lb, FnCall P gf ∧ v = .func (.func gf) #[] lb.toArray ∧ ∀ H1 w1, HLe H H1 → IterAt P gf lb enc xs (fun _ => False) H1 w1
theorem IterV.mono {α : Type} {P : Program} {enc : α → List Value} {xs : List α} {v : Value} {H H' : HF} (h : IterV P enc xs v H) (hle : HLe H H') : IterV P enc xs v H' := by
  obtain ⟨gf, lb, h1, h2, h3⟩ := h
  exact ⟨gf, lb, h1, h2, fun H1 w1 h => h3 H1 w1 (hle.trans h)⟩
section
variable {P : Program} {r : Option Nat} {n : Nat} {f : Fr} {H : HF} {w : World} {K : Value → World → Prop} {d : Option Nat} {ty : TypeId} {pos : String} {af : Array Edge} {g : Option (Nat × Bool)} {T : TypeId} {x : Operand}
theorem W_makeFunc {k : FuncId} {fi ca : Array Operand} {lb : List Value} (hf : fi = #[]) (hc : ca.toList.map (ev f) = lb) (hk : K (.func (.func k) #[] lb.toArray) w) : OpW P r ⟨d, .makeFunc (.func k) fi ca, ty, pos, af, g⟩ f w K := by
  have e : ca.map (ev f) = lb.toArray := by rw [← hc]; apply Array.ext'; simp
  subst hf
  exact OpW_val (w' := w) (by simp) (by simp [execOp, Instr.makeFunc, e]) hk
theorem W_box1 {v : Value} (hS : Sub H w) (hx : ev f x = v) (hc : v.cells = #[v]) (hk : ∀ H' w' b, Grow H w H' w' → H' b = some (.cells #[v] T (0, 0)) → K (.pointer (some ⟨b, 0, none⟩)) w') : OpW P r ⟨d, .box T x, ty, pos, af, g⟩ f w K :=
  W_box hS hx fun H' w' b h1 h2 => hk H' w' b h1 (by rw [← hc]; exact h2)
end
end Go.Proofs.Ytgaabmoknpifnaa
/- Trees, the plain laws: a key's kid, paths, what is put in and taken out. Conditions: none; it runs no function of the program. -/
namespace Go.Proofs.Ytgaabmoknpifnaa
open Go.Proofs Go.RowKit
set_option linter.unusedVariables false
set_option linter.unusedSimpArgs false
/-! ### A change in the midst -/
theorem Below'.append {a b : List Ent} {k : ByteArray} (ha : Below' a k) (hb : Below' b k) : Below' (a ++ b) k := fun x hx => by
  rcases List.mem_append.1 hx with h | h
  · exact ha x h
  · exact hb x h
theorem Above.append {a b : List Ent} {k : ByteArray} (ha : Above a k) (hb : Above b k) : Above (a ++ b) k := fun x hx => by
  rcases List.mem_append.1 hx with h | h
  · exact ha x h
  · exact hb x h
section
variable {a m b : List Ent} {key : ByteArray}
theorem rise_parts (hr : riseB (a ++ m ++ b) = true) : riseB a = true ∧ riseB m = true ∧ riseB b = true := by
  rw [riseB_append, riseB_append] at hr
  exact ⟨hr.1.1, hr.1.2.1, hr.2.1⟩
theorem withL_mid {e : Ent} (hr : riseB (a ++ m ++ b) = true) (ha : Below' a e.key) (hb : Above b e.key) : withL (a ++ m ++ b) e = a ++ withL m e ++ b := by
  rcases split_at (rise_parts hr).2.1 e.key with ⟨p, q, rfl, h1, h2⟩ | ⟨p, x, q, rfl, h1, hx, h2⟩
  · rw [withL_no h1 h2, show a ++ (p ++ q) ++ b = (a ++ p) ++ (q ++ b) by simp, withL_no (ha.append h1) (h2.append hb)]; simp
  · rw [withL_yes h1 hx h2, show a ++ (p ++ x :: q) ++ b = (a ++ p) ++ x :: (q ++ b) by simp, withL_yes (ha.append h1) hx (h2.append hb)]; simp
theorem withoutL_mid (hr : riseB (a ++ m ++ b) = true) (ha : Below' a key) (hb : Above b key) : withoutL (a ++ m ++ b) key = a ++ withoutL m key ++ b := by
  rcases split_at (rise_parts hr).2.1 key with ⟨p, q, rfl, h1, h2⟩ | ⟨p, x, q, rfl, h1, hx, h2⟩
  · rw [withoutL_no h1 h2, show a ++ (p ++ q) ++ b = (a ++ p) ++ (q ++ b) by simp, withoutL_no (ha.append h1) (h2.append hb)]
  · rw [withoutL_yes h1 hx h2, show a ++ (p ++ x :: q) ++ b = (a ++ p) ++ x :: (q ++ b) by simp, withoutL_yes (ha.append h1) hx (h2.append hb)]; simp
theorem look_mid (hr : riseB (a ++ m ++ b) = true) (ha : Below' a key) (hb : Above b key) : look (a ++ m ++ b) key = look m key := by
  rcases split_at (rise_parts hr).2.1 key with ⟨p, q, rfl, h1, h2⟩ | ⟨p, x, q, rfl, h1, hx, h2⟩
  · rw [look_no h1 h2, show a ++ (p ++ q) ++ b = (a ++ p) ++ (q ++ b) by simp, look_no (ha.append h1) (h2.append hb)]
  · rw [look_yes h1 hx h2, show a ++ (p ++ x :: q) ++ b = (a ++ p) ++ x :: (q ++ b) by simp, look_yes (ha.append h1) hx (h2.append hb)]
end
namespace Nd
variable {h : Nat}
/-! ### A key's kid -/
def kidGo (key : ByteArray) : List (Nd h) → Nat → Nat → Nat
  | [], _, p => p
  | k :: l, i, p => kidGo key l (i + 1) (if slt key k.lo then p else i)
def kidAt (ks : List (Nd h)) (key : ByteArray) : Nat := kidGo key ks 0 0
theorem kidGo_above {key : ByteArray} : ∀ {l : List (Nd h)} {i p : Nat}, (∀ k ∈ l, slt key k.lo = true) → kidGo key l i p = p
  | [], _, _, _ => rfl
  | k :: l, i, p, ha => by
    simp only [kidGo, ha k (by simp), if_true]
    exact kidGo_above fun k hk => ha k (by simp [hk])
theorem chain_lo {a : Nd h} : ∀ {l : List (Nd h)}, (∀ k ∈ a :: l, Ok h k) → chain (a :: l) = true → ∀ k ∈ l, slt a.lo k.lo = true := by
  intro l ho hc k hk
  have hr := (chain_iff ho).1 hc
  rw [List.flatMap_cons, riseB_append] at hr
  obtain ⟨x, hx, hx2⟩ := lo_mem (ho a (by simp))
  obtain ⟨y, hy, hy2⟩ := lo_mem (ho k (by simp [hk]))
  rw [← hx2, ← hy2]
  exact hr.2.2 x hx y (List.mem_flatMap.2 ⟨k, hk, hy⟩)
theorem chain_tail {a : Nd h} {l : List (Nd h)} (hc : chain (a :: l) = true) : chain l = true := by
  cases l with
  | nil => rfl
  | cons b l => simp only [chain, Bool.and_eq_true] at hc; exact hc.2
theorem kidGo_split {key : ByteArray} : ∀ (l : List (Nd h)) (k : Nd h) (i : Nat), (∀ x ∈ k :: l, Ok h x) → chain (k :: l) = true →
    ∃ a m b, k :: l = a ++ m :: b ∧ kidGo key l (i + 1) i = i + a.length ∧ (a ≠ [] → slt key m.lo = false) ∧ ∀ x ∈ b, slt key x.lo = true
  | [], k, i, _, _ => ⟨[], k, [], rfl, rfl, fun h => absurd rfl h, by simp⟩
  | k2 :: l, k, i, ho, hc => by
    have ho2 : ∀ x ∈ k2 :: l, Ok h x := fun x hx => ho x (List.mem_cons_of_mem _ hx)
    have hc2 := chain_tail hc
    cases hs : slt key k2.lo with
    | true =>
      have hab : ∀ x ∈ k2 :: l, slt key x.lo = true := by
        intro x hx
        rcases List.mem_cons.1 hx with rfl | hx
        · exact hs
        · exact slt_trans hs (chain_lo ho2 hc2 x hx)
      exact ⟨[], k, k2 :: l, rfl, kidGo_above hab, fun h => absurd rfl h, hab⟩
    | false =>
      obtain ⟨a, m, b, h1, h2, h3, h4⟩ := kidGo_split (key := key) l k2 (i + 1) ho2 hc2
      refine ⟨k :: a, m, b, by rw [h1]; rfl, ?_, fun _ => ?_, h4⟩
      · simp only [kidGo, hs]
        rw [List.length_cons, show i + (a.length + 1) = i + 1 + a.length by omega]
        exact h2
      · cases a with
        | nil => simp at h1; rw [← h1.1]; exact hs
        | cons _ _ => exact h3 (by simp)
/-- A key's kid: all ahead of it lies below the key, all behind it above. -/
theorem kid_split {ks : List (Nd h)} (hne : 1 ≤ ks.length) (ho : ∀ x ∈ ks, Ok h x) (hc : chain ks = true) (key : ByteArray) :
    ∃ a m b, ks = a ++ m :: b ∧ kidAt ks key = a.length ∧ Below' (a.flatMap (items h)) key ∧ Above (b.flatMap (items h)) key ∧ (a ≠ [] → slt key m.lo = false) ∧ ∀ x ∈ b, slt key x.lo = true := by
  cases ks with
  | nil => simp at hne
  | cons k l =>
    obtain ⟨a, m, b, h1, h2, h3, h4⟩ := kidGo_split (key := key) l k 0 ho hc
    have hat : kidAt (k :: l) key = a.length := by
      unfold kidAt
      simp only [kidGo]
      have : (if slt key k.lo = true then 0 else 0) = 0 := by split <;> rfl
      rw [this, h2]; omega
    have hr := (chain_iff ho).1 hc
    rw [h1] at hr
    rw [h1] at ho
    refine ⟨a, m, b, h1, hat, fun x hx => ?_, fun y hy => ?_, h3, h4⟩
    · have hm := ho m (by simp)
      obtain ⟨z, hz, hz2⟩ := lo_mem hm
      have hne : a ≠ [] := by intro e; subst e; simp at hx
      have h5 := h3 hne
      rw [List.flatMap_append, riseB_append] at hr
      have h6 := hr.2.2 x hx z (by simp [hz])
      rw [hz2] at h6
      exact slt_of_lt_of_le h6 h5
    · obtain ⟨k2, hk2, hy2⟩ := List.mem_flatMap.1 hy
      exact slt_of_lt_of_le (h4 k2 hk2) (lo_le (ho k2 (by simp [hk2])) hy2)
theorem flat_split (a : List (Nd h)) (m : Nd h) (b : List (Nd h)) : (a ++ m :: b).flatMap (items h) = a.flatMap (items h) ++ items h m ++ b.flatMap (items h) := by simp
/-! ### Paths -/
def kidOf {h : Nat} (x : Nd (h + 1)) (key : ByteArray) : Nd h := x.kids.getD (kidAt x.kids key) default
def leafAt : (h : Nat) → Nd h → ByteArray → Nd 0
  | 0, x, _ => x
  | h + 1, x, key => leafAt h (kidOf x key) key
def pathL : (h : Nat) → Nd h → ByteArray → List Value
  | 0, x, _ => [x.ptr]
  | h + 1, x, key => x.ptr :: pathL h (kidOf x key) key
theorem ok_chain {x : Nd (h + 1)} (hx : Ok (h + 1) x) : chain x.kids = true := (chain_iff hx.2.2.1).2 hx.2.2.2
theorem kidOf_split {x : Nd (h + 1)} (hx : Ok (h + 1) x) (key : ByteArray) : ∃ a b, x.kids = a ++ kidOf x key :: b ∧ kidAt x.kids key = a.length ∧ Below' (a.flatMap (items h)) key ∧ Above (b.flatMap (items h)) key ∧
    (a ≠ [] → slt key (kidOf x key).lo = false) ∧ ∀ y ∈ b, slt key y.lo = true := by
  obtain ⟨a, m, b, h1, h2, h3, h4, h5, h6⟩ := kid_split (by have := hx.1; omega) hx.2.2.1 (ok_chain hx) key
  have : kidOf x key = m := by
    unfold kidOf
    rw [h2, h1]; simp
  rw [this]
  exact ⟨a, b, h1, h2, h3, h4, h5, h6⟩
theorem kidOf_mem {x : Nd (h + 1)} (hx : Ok (h + 1) x) (key : ByteArray) : kidOf x key ∈ x.kids := by
  obtain ⟨a, b, h1, _⟩ := kidOf_split hx key
  rw [h1]; simp
theorem kidAt_lt {x : Nd (h + 1)} (hx : Ok (h + 1) x) (key : ByteArray) : kidAt x.kids key < x.kids.length := by
  obtain ⟨a, b, h1, h2, _⟩ := kidOf_split hx key
  rw [h2, h1]; simp
theorem items_split {x : Nd (h + 1)} {a b : List (Nd h)} {m : Nd h} (h1 : x.kids = a ++ m :: b) : items (h + 1) x = a.flatMap (items h) ++ items h m ++ b.flatMap (items h) := by
  show x.kids.flatMap (items h) = _
  rw [h1, flat_split]
theorem look_kid {x : Nd (h + 1)} (hx : Ok (h + 1) x) (key : ByteArray) : look (items (h + 1) x) key = look (items h (kidOf x key)) key := by
  obtain ⟨a, b, h1, h2, h3, h4, _⟩ := kidOf_split hx key
  have hr := hx.2.2.2
  rw [items_split h1] at hr ⊢
  exact look_mid hr h3 h4
theorem withL_kid {x : Nd (h + 1)} (hx : Ok (h + 1) x) {a b : List (Nd h)} {m : Nd h} {e : Ent} (h1 : x.kids = a ++ m :: b) (h3 : Below' (a.flatMap (items h)) e.key) (h4 : Above (b.flatMap (items h)) e.key) :
    withL (items (h + 1) x) e = a.flatMap (items h) ++ withL (items h m) e ++ b.flatMap (items h) := by
  have hr := hx.2.2.2
  rw [items_split h1] at hr ⊢
  exact withL_mid hr h3 h4
theorem withoutL_kid {x : Nd (h + 1)} (hx : Ok (h + 1) x) {a b : List (Nd h)} {m : Nd h} {key : ByteArray} (h1 : x.kids = a ++ m :: b) (h3 : Below' (a.flatMap (items h)) key) (h4 : Above (b.flatMap (items h)) key) :
    withoutL (items (h + 1) x) key = a.flatMap (items h) ++ withoutL (items h m) key ++ b.flatMap (items h) := by
  have hr := hx.2.2.2
  rw [items_split h1] at hr ⊢
  exact withoutL_mid hr h3 h4
theorem look_leaf : {h : Nat} → {x : Nd h} → Ok h x → (key : ByteArray) → look (items h x) key = look (leafAt h x key).ents key
  | 0, _, _, _ => rfl
  | h + 1, x, hx, key => by
    rw [look_kid hx key]
    exact look_leaf (hx.2.2.1 _ (kidOf_mem hx key)) key
theorem path_length : {h : Nat} → (x : Nd h) → (key : ByteArray) → (pathL h x key).length = h + 1
  | 0, _, _ => rfl
  | h + 1, x, key => by simp only [pathL, List.length_cons, path_length]
theorem path_last : {h : Nat} → (x : Nd h) → (key : ByteArray) → (pathL h x key)[h]? = some (leafAt h x key).ptr
  | 0, _, _ => rfl
  | h + 1, x, key => by simp only [pathL, leafAt, List.getElem?_cons_succ]; exact path_last _ key
theorem items_gt : {h : Nat} → {x : Nd h} → Ok h x → h + 1 ≤ (items h x).length
  | 0, x, hx => by have := (ok_len hx).1; omega
  | h + 1, x, hx => by
    obtain ⟨h1, h2, h3, h4⟩ := hx
    show _ ≤ (x.kids.flatMap (items h)).length
    match hk : x.kids with
    | [] => rw [hk] at h1; simp at h1
    | [_] => rw [hk] at h1; simp at h1
    | a :: b :: l =>
      have ha := items_gt (h3 a (by rw [hk]; simp))
      have hb := items_gt (h3 b (by rw [hk]; simp))
      simp only [List.flatMap_cons, List.length_append]
      omega
/-! ### Blocks -/
def blocks : (h : Nat) → Nd h → List Nat
  | 0, x => [x.blk]
  | h + 1, x => x.blk :: x.kids.flatMap (blocks h)
theorem blk_mem : {h : Nat} → (x : Nd h) → x.blk ∈ blocks h x
  | 0, x => by simp [blocks]
  | h + 1, x => by simp [blocks]
theorem full_kids {x : Nd (h + 1)} (hx : full (h + 1) x = true) : ∀ k ∈ x.kids, enough h k = true ∧ full h k = true := by
  intro k hk
  simp only [full, List.all_eq_true, Bool.and_eq_true] at hx
  exact hx k hk
end Nd
theorem NodeAt.leafAt {H : HF} : {h : Nat} → {x : Nd h} → NodeAt H h x → (key : ByteArray) → NodeAt H 0 (Nd.leafAt h x key)
  | 0, _, hx, _ => hx
  | h + 1, x, hx, key => NodeAt.leafAt (hx.kids _ (Nd.kidOf_mem hx.ok key)) key
theorem slt_or_eq (a b : ByteArray) : (slt a b || decide (a = b)) = !slt b a := by
  cases h1 : slt a b with
  | true => rw [slt_asymm h1]; rfl
  | false =>
    cases h2 : slt b a with
    | true => have := slt_ne h2; simp [Ne.symm this]
    | false => simp [slt_total h1 h2]
section
variable {P : Program} {r : Option Nat} {f : Fr} {w : World} {K : Value → World → Prop} {d : Option Nat} {ty : TypeId} {pos : String} {af : Array Edge} {g : Option (Nat × Bool)} {T T' : TypeId} {x y : Operand}
theorem W_sleqB [TyStr P T] {b : Bool} {m n : ByteArray} (hx : ev f x = .string m) (hy : ev f y = .string n) (h : slt n m = b) (hk : K (.bool (!b)) w) : OpW P r ⟨d, .binOp .leq T x y T', ty, pos, af, g⟩ f w K :=
  W_sleq hx hy (by rw [slt_or_eq, h]; exact hk)
theorem W_sgtrB [TyStr P T] {b : Bool} {m n : ByteArray} (hx : ev f x = .string m) (hy : ev f y = .string n) (h : slt n m = b) (hk : K (.bool b) w) : OpW P r ⟨d, .binOp .gtr T x y T', ty, pos, af, g⟩ f w K :=
  W_sgtr hx hy (by rw [slt_or_eq, h, Bool.not_not]; exact hk)
/-- The result is a variable of the call's own. -/
theorem ResW_cell {t : Nat} {T : TypeId} {s : Nat} [TyAgg P T] [TySize P T s] {H : HF} {b : Nat} {cs : List Value} (h : f t = .pointer (some ⟨b, 0, none⟩)) (hm : Mut H w b cs) (hl : cs.length = s) : ResW P #[.cell t T] f w (.agg cs.toArray) := by
  intro n a fn ha hr
  have hc := run_loadCells_list (P := P) w ⟨b, 0, none⟩ cs (fun j v hj => by rw [add_lit']; simpa using Sub.mut_or hm hj)
  rw [hl] at hc
  simp [results, hr, ha.at_, h, asAddr, loadVar, TyAgg.agg (P := P) (T := T), TySize.size (P := P) (T := T), hc]
end
end Go.Proofs.Ytgaabmoknpifnaa
/- tree: kid, Path, Get, Items, Right: walked. Conditions: sizes. -/
namespace Go.Proofs.Ytgaabmoknpifnaa
open Go.Proofs Go.RowKit
set_option linter.unusedVariables false
attribute [local irreducible] CW SeqW OpW
set_option maxHeartbeats 4000000
theorem ptr_get {h : Nat} {ks : List (Nd h)} {i : Nat} (hi : i < ks.length) : (ks.map Nd.ptr)[i * 1]? = some (ks[i]).ptr := by simp [hi]
theorem kid_c (H : HF) (B : Option Addr) (d h : Nat) (ks : List (Nd h)) (key : ByteArray) (hl : SlAt H B (ks.map Nd.ptr)) (hk : AllAt H h ks) (hb : ks.length ≤ 1000000) :
    Fn Try.prog 73 [.slice B ks.length d, .string key] H fun v _ => v = .int .i64 (Nd.kidAt ks key : Nat) := by
  refine Fn_of_CW Try.func73 rfl Try.ntmps73 Try.results73 rfl fun w hS => ?_; have hG := Grow.refl hS; have hS0 := hS
  (refine CW_seq ?_; refine CW_region rfl ?_; refine S_op ?_; refine W_assignInt (by first | rfl | assumption) ?_; refine S_nil ?_; refine CW_seq ?_; refine CW_region rfl ?_; refine S_op ?_; refine W_assignInt (by first | rfl | assumption) ?_; refine S_nil ?_; refine CW_seq ?_; refine CW_seq ?_; refine CW_region rfl ?_; refine S_op ?_; refine W_moveSl (by first | rfl | assumption) ?_; refine S_op ?_; refine W_len (by first | rfl | assumption) ?_; refine S_op ?_; refine W_moveInt (by first | rfl | assumption) ?_; refine S_nil ?_; refine CW_block ?_)
  refine CW_loopM [5, 6, 7, 8, 9, 12, 13, 14, 15, 16, 17, 18, 19, 20, 21, 22, 23, 24, 25, 26]
    (fun m u w2 => ∃ (i p : Nat) (H2 : HF), u 12 = .int .i64 (i : Int) ∧ u 5 = .int .i64 (p : Int) ∧ Grow H w H2 w2 ∧ i ≤ ks.length ∧ ks.length - i ≤ m ∧ Nd.kidGo key (ks.drop i) i p = Nd.kidAt ks key)
    (m := ks.length) ⟨0, 0, H, rfl, rfl, hG, by omega, by omega, rfl⟩ ?_
  rintro m u w ⟨i, p, H, h12, h5, hG, hi, hm, hf⟩
  have hS := hG.sub
  replace hl := hl.mono hG.le
  replace hk := hk.mono hG.le
  by_cases hlt : i < ks.length
  · obtain ⟨b, off, hA, hrow⟩ := slAt_some hl hlt
    have hget := ptr_get hlt
    have hx := hk ks[i] (List.getElem_mem _)
    rw [List.drop_eq_getElem_cons hlt] at hf
    simp only [Nd.kidGo] at hf
    cases hs : slt key ks[i].lo with
    | true =>
      rw [hs] at hf
      (refine CW_seq ?_; refine CW_region rfl ?_; refine S_op ?_; refine W_lssT (by first | rfl | assumption) (by first | rfl | assumption) (by first | omega | rfl) ?_; refine S_nil ?_; refine CW_seq ?_; refine CW_true (by first | rfl | assumption) ?_; refine CW_skip ?_; refine CW_seq ?_; refine CW_block ?_; refine CW_seq ?_; refine CW_region rfl ?_; refine S_op ?_; refine W_moveInt (by first | rfl | assumption) ?_; refine S_op ?_; refine W_index (by first | rfl | assumption) (by first | rfl | assumption) (by first | assumption | omega | decide) (by first | rfl | assumption) ?_)
      refine S_op (W_loadRow (by rfl) hrow hget hS ?_)
      (refine S_op ?_; refine W_assignInt (by first | rfl | assumption) ?_; refine S_op ?_; refine W_assignPtr (by first | rfl | assumption) ?_; refine S_nil ?_; refine CW_seq ?_; refine CW_region rfl ?_; refine S_op ?_; refine W_movePtr (by first | rfl | assumption) ?_)
      (refine S_op ?_; refine W_call hS (by rfl) (ends_c hx) ?_); rintro v H w hG' rfl; replace hG := hG.trans hG'; replace hS := hG'.sub; clear hG'
      (refine S_op ?_; refine W_moveTup (by first | rfl | assumption) ?_; refine S_op ?_; refine W_extract (by first | rfl | assumption) (by rfl) ?_; refine S_op ?_; refine W_extract (by first | rfl | assumption) (by rfl) ?_; refine S_op ?_; refine W_assignStr (by first | rfl | assumption) ?_; refine S_op ?_; refine W_assignStr (by first | rfl | assumption) ?_; refine S_nil ?_; refine CW_seq ?_; refine CW_region rfl ?_; refine S_op ?_; refine W_moveStr (by first | rfl | assumption) ?_; refine S_op ?_; refine W_moveStr (by first | rfl | assumption) ?_; refine S_op ?_; refine W_sleqB (by first | rfl | assumption) (by first | rfl | assumption) (by assumption) ?_; refine S_nil ?_; refine CW_false (by first | rfl | assumption) ?_; refine CW_skip ?_; refine CW_region rfl ?_; refine S_op ?_; refine W_add1 (by first | rfl | assumption) (by omega) ?_; refine S_op ?_; refine W_moveInt (by first | rfl | assumption) ?_; refine S_nil ?_)
      exact ⟨(by repeat (first | exact AgreeOff.over | refine AgreeOff.upd rfl ?_ | refine AgreeOff.over2 rfl ?_)), m - 1, by omega, i + 1, p, H, rfl, h5, hG, by omega, by omega, hf⟩
    | false =>
      rw [hs] at hf
      (refine CW_seq ?_; refine CW_region rfl ?_; refine S_op ?_; refine W_lssT (by first | rfl | assumption) (by first | rfl | assumption) (by first | omega | rfl) ?_; refine S_nil ?_; refine CW_seq ?_; refine CW_true (by first | rfl | assumption) ?_; refine CW_skip ?_; refine CW_seq ?_; refine CW_block ?_; refine CW_seq ?_; refine CW_region rfl ?_; refine S_op ?_; refine W_moveInt (by first | rfl | assumption) ?_; refine S_op ?_; refine W_index (by first | rfl | assumption) (by first | rfl | assumption) (by first | assumption | omega | decide) (by first | rfl | assumption) ?_)
      refine S_op (W_loadRow (by rfl) hrow hget hS ?_)
      (refine S_op ?_; refine W_assignInt (by first | rfl | assumption) ?_; refine S_op ?_; refine W_assignPtr (by first | rfl | assumption) ?_; refine S_nil ?_; refine CW_seq ?_; refine CW_region rfl ?_; refine S_op ?_; refine W_movePtr (by first | rfl | assumption) ?_)
      (refine S_op ?_; refine W_call hS (by rfl) (ends_c hx) ?_); rintro v H w hG' rfl; replace hG := hG.trans hG'; replace hS := hG'.sub; clear hG'
      (refine S_op ?_; refine W_moveTup (by first | rfl | assumption) ?_; refine S_op ?_; refine W_extract (by first | rfl | assumption) (by rfl) ?_; refine S_op ?_; refine W_extract (by first | rfl | assumption) (by rfl) ?_; refine S_op ?_; refine W_assignStr (by first | rfl | assumption) ?_; refine S_op ?_; refine W_assignStr (by first | rfl | assumption) ?_; refine S_nil ?_; refine CW_seq ?_; refine CW_region rfl ?_; refine S_op ?_; refine W_moveStr (by first | rfl | assumption) ?_; refine S_op ?_; refine W_moveStr (by first | rfl | assumption) ?_; refine S_op ?_; refine W_sleqB (by first | rfl | assumption) (by first | rfl | assumption) (by assumption) ?_; refine S_nil ?_; refine CW_true (by first | rfl | assumption) ?_; refine CW_region rfl ?_; refine S_op ?_; refine W_moveInt (by first | rfl | assumption) ?_; refine S_op ?_; refine W_assignInt (by first | rfl | assumption) ?_; refine S_nil ?_; refine CW_region rfl ?_; refine S_op ?_; refine W_add1 (by first | rfl | assumption) (by omega) ?_; refine S_op ?_; refine W_moveInt (by first | rfl | assumption) ?_; refine S_nil ?_)
      exact ⟨(by repeat (first | exact AgreeOff.over | refine AgreeOff.upd rfl ?_ | refine AgreeOff.over2 rfl ?_)), m - 1, by omega, i + 1, i, H, rfl, rfl, hG, by omega, by omega, hf⟩
  · rw [List.drop_eq_nil_of_le (by omega)] at hf
    simp only [Nd.kidGo] at hf
    subst hf
    (refine CW_seq ?_; refine CW_region rfl ?_; refine S_op ?_; refine W_lssF (by first | rfl | assumption) (by first | rfl | assumption) (by first | omega | rfl) ?_; refine S_nil ?_; refine CW_seq ?_; refine CW_false (by first | rfl | assumption) ?_; refine CW_exit ?_; refine CW_seq ?_; refine CW_region rfl ?_; refine S_op ?_; refine W_moveInt (by first | rfl | assumption) ?_; refine S_op ?_; refine W_assignInt (by first | rfl | assumption) ?_; refine S_nil ?_; refine CW_ret ?_)
    exact ⟨_, ResW_one (v := .int _ _) rfl, H, hG, rfl⟩
theorem path_c (H : HF) (h : Nat) (x : Nd h) (key : ByteArray) (hx : NodeAt H h x) (hh : h ≤ 1000000) :
    Fn Try.prog 69 [x.ptr, .string key] H fun v H' => IsSl 1 v (h + 1) (Nd.pathL h x key) H' := by
  refine Fn_of_CW Try.func69 rfl Try.ntmps69 Try.results69 rfl fun w hS => ?_; have hG := Grow.refl hS; have hS0 := hS
  (refine CW_seq ?_; refine CW_region rfl ?_; refine S_op ?_; refine W_assignSl (by first | rfl | assumption) ?_; refine S_nil ?_; refine CW_seq ?_; refine CW_region rfl ?_; refine S_op ?_; refine W_assignSl (by first | rfl | assumption) ?_; refine S_nil ?_; refine CW_seq ?_; refine CW_block ?_)
  refine CW_loopM [0, 5, 6, 7, 8, 9, 10, 11, 12, 13, 14, 15, 16, 17, 18, 19, 20, 21]
    (fun m u w2 => ∃ (j : Nat) (y : Nd j) (pre : List Value) (A : Option Addr) (c : Nat) (H2 : HF), u 0 = y.ptr ∧ u 5 = .slice A pre.length c ∧ Grow H w H2 w2 ∧ Own H2 w2 w.heap.size 24 1 A pre.length c pre ∧ NodeAt H2 j y ∧ pre ++ Nd.pathL j y key = Nd.pathL h x key ∧ pre.length + j = h ∧ j ≤ m)
    (m := h) ⟨h, x, [], none, 0, H, rfl, rfl, hG, Own.nil _ _ _ _ _, hx, rfl, by simp, Nat.le_refl _⟩ ?_
  rintro m u w ⟨j, y, pre, A, c, H, h0, h5, hG, hown, hy, hp, hlen, hm⟩
  have hS := hG.sub
  cases j with
  | zero =>
    (refine CW_seq ?_; refine CW_seq ?_; refine CW_region rfl ?_; refine S_op ?_; refine W_movePtr (by first | rfl | assumption) ?_)
    (refine S_op ?_; refine W_call hS (by rfl) (height_c hy) ?_); rintro v H w hG' rfl; replace hG := hG.trans hG'; replace hS := hG'.sub; replace hy := hy.mono hG'.le; replace hown := hown.grow hG'; clear hG'
    (refine S_op ?_; refine W_gtrF (by first | rfl | assumption) (by first | rfl | assumption) (by first | omega | rfl) ?_; refine S_nil ?_; refine CW_false (by first | rfl | assumption) ?_; refine CW_exit ?_; refine CW_seq ?_; refine CW_seq ?_; refine CW_region rfl ?_; refine S_op ?_; refine W_movePtr (by first | rfl | assumption) ?_)
    (refine S_op ?_; refine W_call hS (by rfl) (height_c hy) ?_); rintro v H w hG' rfl; replace hG := hG.trans hG'; replace hS := hG'.sub; replace hy := hy.mono hG'.le; replace hown := hown.grow hG'; clear hG'
    (refine S_op ?_; refine W_eqlT (by first | rfl | assumption) (by first | rfl | assumption) (by first | omega | rfl) ?_; refine S_nil ?_; refine CW_true (by first | rfl | assumption) ?_; refine CW_region rfl ?_; refine S_op ?_; refine W_moveSl (by first | rfl | assumption) ?_; refine S_op ?_; refine W_movePtr (by first | rfl | assumption) ?_)
    refine S_op ?_
    refine W_build1 (sz := 1) (v := y.ptr) hS (by omega) (by rfl) (by rfl) ?_
    intro H w b hG' hb' _ _
    replace hG := hG.trans hG'
    replace hS := hG'.sub
    replace hy := hy.mono hG'.le
    replace hown := hown.grow hG'
    clear hG'
    skip
    refine S_op ?_
    refine W_append (news := [y.ptr]) (by rfl) (by rfl) hG hown ((SlAt.of_row hb').cells hS) (by rfl) (by intro u hu; simp at hu; subst hu; rfl) (by decide) (by omega) (by omega) ?_
    intro A c w hG hown _ hA3
    clear hA3
    replace hS := hG.sub
    (refine S_op ?_; refine W_assignSl (by first | rfl | assumption) ?_; refine S_nil ?_; refine CW_seq ?_; refine CW_region rfl ?_; refine S_op ?_; refine W_moveSl (by first | rfl | assumption) ?_; refine S_op ?_; refine W_assignSl (by first | rfl | assumption) ?_; refine S_nil ?_; refine CW_ret ?_)
    obtain ⟨H3, hle3, hG3, hsl3, _⟩ := hown.freeze hG
    exact ⟨_, ResW_one (v := .slice _ _ _) rfl, H3, hG3, A, c, by rw [← hlen], by have := hown.cap; omega, by rw [← hp]; exact hsl3, by rw [Nd.path_length]; omega⟩
  | succ j =>
    (refine CW_seq ?_; refine CW_seq ?_; refine CW_region rfl ?_; refine S_op ?_; refine W_movePtr (by first | rfl | assumption) ?_)
    (refine S_op ?_; refine W_call hS (by rfl) (height_c hy) ?_); rintro v H w hG' rfl; replace hG := hG.trans hG'; replace hS := hG'.sub; replace hy := hy.mono hG'.le; replace hown := hown.grow hG'; clear hG'
    (refine S_op ?_; refine W_gtrT (by first | rfl | assumption) (by first | rfl | assumption) (by first | omega | rfl) ?_; refine S_nil ?_; refine CW_true (by first | rfl | assumption) ?_; refine CW_skip ?_; refine CW_block ?_; refine CW_seq ?_; refine CW_region rfl ?_; refine S_op ?_; refine W_moveSl (by first | rfl | assumption) ?_; refine S_op ?_; refine W_movePtr (by first | rfl | assumption) ?_)
    refine S_op ?_
    refine W_build1 (sz := 1) (v := y.ptr) hS (by omega) (by rfl) (by rfl) ?_
    intro H w b hG' hb' _ _
    replace hG := hG.trans hG'
    replace hS := hG'.sub
    replace hy := hy.mono hG'.le
    replace hown := hown.grow hG'
    clear hG'
    skip
    refine S_op ?_
    refine W_append (news := [y.ptr]) (by rfl) (by rfl) hG hown ((SlAt.of_row hb').cells hS) (by rfl) (by intro u hu; simp at hu; subst hu; rfl) (by decide) (by omega) (by omega) ?_
    intro A c w hG hown _ hA3
    clear hA3
    replace hS := hG.sub
    (refine S_op ?_; refine W_assignSl (by first | rfl | assumption) ?_; refine S_nil ?_; refine CW_seq ?_; refine CW_region rfl ?_; refine S_op ?_; refine W_movePtr (by first | rfl | assumption) ?_)
    (refine S_op ?_; refine W_call hS (by rfl) (kids_c hy) ?_); rintro v H w hG' hv; replace hG := hG.trans hG'; replace hS := hG'.sub; replace hy := hy.mono hG'.le; replace hown := hown.grow hG'; clear hG'
    obtain ⟨B, d, rfl, hd, hsl, _⟩ := hv
    have h6 := hy.ok.2.1
    (refine S_op ?_; refine W_assignSl (by first | rfl | assumption) ?_; refine S_nil ?_; refine CW_region rfl ?_; refine S_op ?_; refine W_moveSl (by first | rfl | assumption) ?_; refine S_op ?_; refine W_moveSl (by first | rfl | assumption) ?_; refine S_op ?_; refine W_moveStr (by first | rfl | assumption) ?_)
    (refine S_op ?_; refine W_call hS (by rfl) (kid_c H B d j y.kids key hsl hy.kids (by omega)) ?_); rintro v H w hG' rfl; replace hG := hG.trans hG'; replace hS := hG'.sub; replace hy := hy.mono hG'.le; replace hsl := hsl.mono hG'.le; replace hown := hown.grow hG'; clear hG'
    have hq := Nd.kidAt_lt hy.ok key
    obtain ⟨bb, off, hA, hrow⟩ := slAt_some hsl hq
    have hget := ptr_get hq
    have hko : y.kids[Nd.kidAt y.kids key] = Nd.kidOf y key := by simp [Nd.kidOf, hq]
    rw [hko] at hget
    (refine S_op ?_; refine W_index (by first | rfl | assumption) (by first | rfl | assumption) (by first | assumption | omega | decide) (by first | rfl | assumption) ?_)
    refine S_op (W_loadRow (by rfl) hrow hget hS ?_)
    (refine S_op ?_; refine W_assignPtr (by first | rfl | assumption) ?_; refine S_nil ?_)
    have hl1 : (pre ++ [y.ptr]).length = pre.length + 1 := by simp
    exact ⟨(by repeat (first | exact AgreeOff.over | refine AgreeOff.upd rfl ?_ | refine AgreeOff.over2 rfl ?_)), m - 1, by omega, j, Nd.kidOf y key, pre ++ [y.ptr], A, c, H, rfl, by rw [hl1]; rfl, hG, by rw [hl1]; exact hown, hy.kids _ (Nd.kidOf_mem hy.ok key), by rw [← hp]; simp [Nd.pathL], by omega, by omega⟩
theorem path_nil (H : HF) (key : ByteArray) : Fn Try.prog 69 [.pointer none, .string key] H fun v H' => v = .slice none 0 0 := by
  refine Fn_of_CW Try.func69 rfl Try.ntmps69 Try.results69 rfl fun w hS => ?_; have hG := Grow.refl hS; have hS0 := hS
  (refine CW_seq ?_; refine CW_region rfl ?_; refine S_op ?_; refine W_assignSl (by first | rfl | assumption) ?_; refine S_nil ?_; refine CW_seq ?_; refine CW_region rfl ?_; refine S_op ?_; refine W_assignSl (by first | rfl | assumption) ?_; refine S_nil ?_; refine CW_seq ?_; refine CW_block ?_)
  refine CW_loopM [0, 5, 6, 7, 8, 9, 10, 11, 12, 13, 14, 15, 16, 17, 18, 19, 20, 21]
    (fun m u w2 => u 0 = .pointer none ∧ u 5 = .slice none 0 0 ∧ w2 = w)
    (m := 0) ⟨rfl, rfl, rfl⟩ ?_
  rintro m u w2 ⟨h0, h5, rfl⟩
  (refine CW_seq ?_; refine CW_seq ?_; refine CW_region rfl ?_; refine S_op ?_; refine W_movePtr (by first | rfl | assumption) ?_)
  (refine S_op ?_; refine W_call hS (by rfl) (height_nil (H := H)) ?_); rintro v H w hG' rfl; replace hG := hG.trans hG'; replace hS := hG'.sub; clear hG'
  (refine S_op ?_; refine W_gtrF (by first | rfl | assumption) (by first | rfl | assumption) (by first | omega | rfl) ?_; refine S_nil ?_; refine CW_false (by first | rfl | assumption) ?_; refine CW_exit ?_; refine CW_seq ?_; refine CW_seq ?_; refine CW_region rfl ?_; refine S_op ?_; refine W_movePtr (by first | rfl | assumption) ?_)
  (refine S_op ?_; refine W_call hS (by rfl) (height_nil (H := H)) ?_); rintro v H w hG' rfl; replace hG := hG.trans hG'; replace hS := hG'.sub; clear hG'
  (refine S_op ?_; refine W_eqlF (by first | rfl | assumption) (by first | rfl | assumption) (by first | omega | rfl) ?_; refine S_nil ?_; refine CW_false (by first | rfl | assumption) ?_; refine CW_skip ?_; refine CW_seq ?_; refine CW_region rfl ?_; refine S_op ?_; refine W_moveSl (by first | rfl | assumption) ?_; refine S_op ?_; refine W_assignSl (by first | rfl | assumption) ?_; refine S_nil ?_; refine CW_ret ?_)
  exact ⟨_, ResW_one (v := .slice _ _ _) rfl, H, hG, rfl⟩
/-! ### Get -/
theorem get_c (H : HF) (h : Nat) (x : Nd h) (key : ByteArray) (hx : NodeAt H h x) (hh : h ≤ 1000000) :
    Fn Try.prog 56 [x.ptr, .string key] H fun v _ => v = .tuple #[.string (lookV (Nd.items h x) key), .bool (lookB (Nd.items h x) key)] := by
  have hlk := Nd.look_leaf hx.ok key
  have e1 : lookV (Nd.items h x) key = lookV (Nd.leafAt h x key).ents key := by simp only [lookV, hlk]
  have e2 : lookB (Nd.items h x) key = lookB (Nd.leafAt h x key).ents key := by simp only [lookB, hlk]
  rw [e1, e2]
  refine Fn_of_CW Try.func56 rfl Try.ntmps56 Try.results56 rfl fun w hS => ?_; have hG := Grow.refl hS; have hS0 := hS
  (refine CW_seq ?_; refine CW_region rfl ?_; refine S_op ?_; refine W_assignStr (by first | rfl | assumption) ?_; refine S_op ?_; refine W_assignBool (by first | rfl | assumption) ?_; refine S_nil ?_; refine CW_seq ?_; refine CW_region rfl ?_; refine S_op ?_; refine W_movePtr (by first | rfl | assumption) ?_; refine S_op ?_; refine W_moveStr (by first | rfl | assumption) ?_)
  (refine S_op ?_; refine W_call hS (by rfl) (path_c H h x key hx hh) ?_); rintro v H w hG' hv; replace hG := hG.trans hG'; replace hS := hG'.sub; replace hx := hx.mono hG'.le; clear hG'
  obtain ⟨A, c, rfl, hc, hsl, hlen⟩ := hv
  have hget := Nd.path_last x key
  obtain ⟨bb, off, hA, hrow⟩ : ∃ bb off, A = some ⟨bb, off, none⟩ ∧ Row H bb off (Nd.pathL h x key) := by
    rcases hsl with h1 | h1
    · rw [h1] at hget; simp at hget
    · exact h1
  have hat := hx.leafAt key
  generalize Nd.leafAt h x key = y at *
  have hq : h + 1 - 1 < h + 1 := by omega
  replace hget : (Nd.pathL h x key)[(h + 1 - 1) * 1]? = some y.ptr := by simpa using hget
  (refine S_op ?_; refine W_assignSl (by first | rfl | assumption) ?_; refine S_nil ?_; refine CW_seq ?_; refine CW_seq ?_; refine CW_region rfl ?_; refine S_op ?_; refine W_moveSl (by first | rfl | assumption) ?_; refine S_op ?_; refine W_len (by first | rfl | assumption) ?_; refine S_op ?_; refine W_eqlF (by first | rfl | assumption) (by first | rfl | assumption) (by first | omega | rfl) ?_; refine S_nil ?_; refine CW_false (by first | rfl | assumption) ?_; refine CW_skip ?_; refine CW_seq ?_; refine CW_region rfl ?_; refine S_op ?_; refine W_moveSl (by first | rfl | assumption) ?_; refine S_op ?_; refine W_moveSl (by first | rfl | assumption) ?_; refine S_op ?_; refine W_len (by first | rfl | assumption) ?_; refine S_op ?_; refine W_sub1 (by first | rfl | assumption) (by omega) (by omega) ?_; refine S_op ?_; refine W_index (by first | rfl | assumption) (by first | rfl | assumption) (by first | assumption | omega | decide) (by first | rfl | assumption) ?_)
  refine S_op (W_loadRow (by rfl) hrow hget hS ?_)
  skip
  (refine S_op ?_; refine W_call hS (by rfl) (entries_c hat) ?_); rintro v H w hG' hv; replace hG := hG.trans hG'; replace hS := hG'.sub; clear hG'
  obtain ⟨A2, c2, rfl, hc2, hl2⟩ := hv
  have hyl : y.ents.length ≤ 4 := by have := hat.ok; simp only [Nd.Ok, leafB, Bool.and_eq_true, decide_eq_true_eq] at this; omega
  have hl2 : EntsAt H A2 y.ents := hl2
  rw [show Nd.own 0 y = y.ents from rfl]
  (refine S_op ?_; refine W_assignSl (by first | rfl | assumption) ?_; refine S_nil ?_; refine CW_seq ?_; refine CW_region rfl ?_; refine S_op ?_; refine W_moveSl (by first | rfl | assumption) ?_; refine S_op ?_; refine W_moveStr (by first | rfl | assumption) ?_)
  (refine S_op ?_; refine W_call hS (by rfl) (find_c H A2 c2 y.ents key hl2 (by omega)) ?_); rintro v H w hG' rfl; replace hG := hG.trans hG'; replace hS := hG'.sub; replace hl2 := hl2.mono hG'.le; clear hG'
  cases hf : findIs y.ents key with
  | false =>
    (refine S_op ?_; refine W_moveTup (by first | rfl | assumption) ?_; refine S_op ?_; refine W_extract (by first | rfl | assumption) (by rfl) ?_; refine S_op ?_; refine W_extract (by first | rfl | assumption) (by rfl) ?_; refine S_op ?_; refine W_assignInt (by first | rfl | assumption) ?_; refine S_op ?_; refine W_assignBool (by first | rfl | assumption) ?_; refine S_nil ?_; refine CW_seq ?_; refine CW_seq ?_; refine CW_region rfl ?_; refine S_op ?_; refine W_moveBool (by first | rfl | assumption) ?_; refine S_op ?_; refine W_not (by first | rfl | assumption) ?_; refine S_nil ?_; refine CW_true (by first | rfl | assumption) ?_; refine CW_seq ?_; refine CW_region rfl ?_; refine S_op ?_; refine W_assignStr (by first | rfl | assumption) ?_; refine S_op ?_; refine W_assignBool (by first | rfl | assumption) ?_; refine S_nil ?_; refine CW_ret ?_)
    exact ⟨_, ResW_two (v1 := .string _) (v2 := .bool _) rfl rfl, H, hG, by rw [(lookV_no hf).1, (lookV_no hf).2]⟩
  | true =>
    have hq2 := findIs_lt hf
    obtain ⟨bb2, off2, hA2, hrow2⟩ := hl2.some hq2
    (refine S_op ?_; refine W_moveTup (by first | rfl | assumption) ?_; refine S_op ?_; refine W_extract (by first | rfl | assumption) (by rfl) ?_; refine S_op ?_; refine W_extract (by first | rfl | assumption) (by rfl) ?_; refine S_op ?_; refine W_assignInt (by first | rfl | assumption) ?_; refine S_op ?_; refine W_assignBool (by first | rfl | assumption) ?_; refine S_nil ?_; refine CW_seq ?_; refine CW_seq ?_; refine CW_region rfl ?_; refine S_op ?_; refine W_moveBool (by first | rfl | assumption) ?_; refine S_op ?_; refine W_not (by first | rfl | assumption) ?_; refine S_nil ?_; refine CW_false (by first | rfl | assumption) ?_; refine CW_skip ?_; refine CW_seq ?_; refine CW_region rfl ?_; refine S_op ?_; refine W_moveSl (by first | rfl | assumption) ?_; refine S_op ?_; refine W_moveInt (by first | rfl | assumption) ?_; refine S_op ?_; refine W_index (by first | rfl | assumption) (by first | rfl | assumption) (by first | assumption | omega | decide) (by first | rfl | assumption) ?_; refine S_op ?_; refine W_field (by first | rfl | assumption) ?_; refine S_op ?_; refine W_loadVal (by first | rfl | assumption) (by assumption) (by first | assumption | omega) (by assumption) ?_; refine S_op ?_; refine W_assignStr (by first | rfl | assumption) ?_; refine S_op ?_; refine W_assignBool (by first | rfl | assumption) ?_; refine S_nil ?_; refine CW_ret ?_)
    exact ⟨_, ResW_two (v1 := .string _) (v2 := .bool _) rfl rfl, H, hG, by rw [(lookV_yes hf).1, (lookV_yes hf).2]⟩
theorem get_t {H : HF} {t : Tr} (ht : Tr.At H t) (key : ByteArray) (hh : t.height ≤ 1000000) :
    Fn Try.prog 56 [t.val, .string key] H fun v _ => v = .tuple #[.string (lookV t.items key), .bool (lookB t.items key)] := by
  cases t with
  | none =>
    show Fn Try.prog 56 [.pointer none, .string key] H fun v _ => v = .tuple #[.string ⟨#[]⟩, .bool false]
    refine Fn_of_CW Try.func56 rfl Try.ntmps56 Try.results56 rfl fun w hS => ?_; have hG := Grow.refl hS; have hS0 := hS
    (refine CW_seq ?_; refine CW_region rfl ?_; refine S_op ?_; refine W_assignStr (by first | rfl | assumption) ?_; refine S_op ?_; refine W_assignBool (by first | rfl | assumption) ?_; refine S_nil ?_; refine CW_seq ?_; refine CW_region rfl ?_; refine S_op ?_; refine W_movePtr (by first | rfl | assumption) ?_; refine S_op ?_; refine W_moveStr (by first | rfl | assumption) ?_)
    (refine S_op ?_; refine W_call hS (by rfl) (path_nil H key) ?_); rintro v H w hG' rfl; replace hG := hG.trans hG'; replace hS := hG'.sub; clear hG'
    (refine S_op ?_; refine W_assignSl (by first | rfl | assumption) ?_; refine S_nil ?_; refine CW_seq ?_; refine CW_seq ?_; refine CW_region rfl ?_; refine S_op ?_; refine W_moveSl (by first | rfl | assumption) ?_; refine S_op ?_; refine W_len (by first | rfl | assumption) ?_; refine S_op ?_; refine W_eqlT (by first | rfl | assumption) (by first | rfl | assumption) (by first | omega | rfl) ?_; refine S_nil ?_; refine CW_true (by first | rfl | assumption) ?_; refine CW_seq ?_; refine CW_region rfl ?_; refine S_op ?_; refine W_assignStr (by first | rfl | assumption) ?_; refine S_op ?_; refine W_assignBool (by first | rfl | assumption) ?_; refine S_nil ?_; refine CW_ret ?_)
    exact ⟨_, ResW_two (v1 := .string _) (v2 := .bool _) rfl rfl, H, hG, rfl⟩
  | some x => exact get_c H x.1 x.2 key ht (by simp only [Tr.height] at hh; omega)
/-! ### Items -/
theorem flat_take {h : Nat} {ks : List (Nd h)} {i : Nat} (hi : i < ks.length) : (ks.take (i + 1)).flatMap (Nd.items h) = (ks.take i).flatMap (Nd.items h) ++ Nd.items h ks[i] := by
  rw [take_succ' hi, List.flatMap_append, List.flatMap_singleton]
theorem flat_le {h : Nat} (ks : List (Nd h)) (i : Nat) : ((ks.take i).flatMap (Nd.items h)).length ≤ (ks.flatMap (Nd.items h)).length := by
  conv => rhs; rw [← List.take_append_drop i ks, List.flatMap_append, List.length_append]
  omega
end Go.Proofs.Ytgaabmoknpifnaa
/- walk.up, walked: it gives a tree's entries from a key upwards. Conditions: none but the tree's. -/
namespace Go.Proofs.Ytgaabmoknpifnaa
open Go.Proofs Go.RowKit
set_option linter.unusedVariables false
attribute [local irreducible] CW SeqW OpW CallV
set_option maxHeartbeats 4000000
def encP (e : Ent) : List Value := [.string e.key, .string e.val]
def fromL (k : ByteArray) (l : List Ent) : List Ent := l.filter fun e => !slt e.key k
theorem fromL_append (k : ByteArray) (l m : List Ent) : fromL k (l ++ m) = fromL k l ++ fromL k m := List.filter_append ..
theorem fromL_nil_of {k : ByteArray} {l : List Ent} (h : ∀ e ∈ l, slt e.key k = true) : fromL k l = [] := by
  simp only [fromL, List.filter_eq_nil_iff]
  intro e he
  simp [h e he]
theorem fromL_take {k : ByteArray} {l : List Ent} {i : Nat} (h : i < l.length) : fromL k (l.take (i + 1)) = fromL k (l.take i) ++ (if slt (ent l i).key k then [] else [ent l i]) := by
  rw [take_succ' h, fromL_append]
  congr 1
  have e : l[i] = ent l i := by simp [ent, h]
  rw [e]
  cases hs : slt (ent l i).key k <;> simp [fromL, hs]
section
variable {xs : List Ent} {y : Value} {J Jx : Inv Ent} {key : ByteArray}
theorem up_nil {H0 : HF} {w0 : World} {X0 : Nat → Prop} {pre : List Ent} (hJ : Stable J) (hS : Sub H0 w0) (hj : J X0 pre H0 w0) :
    CallW Try.prog 48 [.pointer none, .string key, y].toArray w0 (Went xs J Jx X0 H0 w0 pre) := by
  refine CallW_of_CW Try.func48 rfl Try.ntmps48 Try.results48 rfl ?_
  have hG := Grow.refl hS
  have hI := Its.start hS hj
  (refine CW_seq ?_; refine CW_region rfl ?_; refine S_op ?_; refine W_assignBool (by first | rfl | assumption) ?_; refine S_nil ?_; refine CW_seq ?_; refine CW_seq ?_; refine CW_region rfl ?_; refine S_op ?_; refine W_movePtr (by first | rfl | assumption) ?_)
  (refine S_op ?_; refine W_call hS (by rfl) (ends_nil (H := H0)) ?_); rintro v H w hG' rfl; replace hG := hG.trans hG'; replace hS := hG'.sub; clear hG'
  (refine S_op ?_; refine W_moveTup (by first | rfl | assumption) ?_; refine S_op ?_; refine W_extract (by first | rfl | assumption) (by rfl) ?_; refine S_op ?_; refine W_extract (by first | rfl | assumption) (by rfl) ?_; refine S_op ?_; refine W_assignStr (by first | rfl | assumption) ?_; refine S_op ?_; refine W_assignStr (by first | rfl | assumption) ?_; refine S_nil ?_; refine CW_seq ?_; refine CW_region rfl ?_; refine S_op ?_; refine W_movePtr (by first | rfl | assumption) ?_; refine S_op ?_; refine W_peqnil (by first | rfl | assumption) (by first | rfl | assumption) ?_; refine S_op ?_; refine W_moveBool (by first | rfl | assumption) ?_; refine S_pass (by rfl) ?_; refine S_pass (by rfl) ?_; refine S_pass (by rfl) ?_; refine S_op ?_; refine W_pickT (by first | rfl | assumption) (by first | rfl | assumption) ?_; refine S_nil ?_; refine CW_true (by first | rfl | assumption) ?_; refine CW_seq ?_; refine CW_region rfl ?_; refine S_op ?_; refine W_assignBool (by first | rfl | assumption) ?_; refine S_nil ?_; refine CW_ret ?_)
  exact ⟨_, ResW_one (v := .bool _) rfl, .inl ⟨rfl, _, H, hI.step hJ hG⟩⟩
theorem from_split {k : ByteArray} {l : List Ent} {i : Nat} (h : i < l.length) (hk : slt (ent l i).key k = false) : fromL k l = fromL k (l.take i) ++ ent l i :: fromL k (l.drop (i + 1)) := by
  have h1 : l = l.take i ++ ent l i :: l.drop (i + 1) := by
    have e : l[i] = ent l i := by simp [ent, h]
    rw [← e, ← List.drop_eq_getElem_cons h, List.take_append_drop]
  conv => lhs; rw [h1, fromL_append]
  congr 1
  simp [fromL, hk]
theorem up_c (hJ : Stable J) (hy : Yields Try.prog y encP xs J Jx) (h : Nat) : ∀ (H0 : HF) (w0 : World) (x : Nd h) (X0 : Nat → Prop) (pre rest : List Ent), NodeAt H0 h x → Sub H0 w0 → xs = pre ++ fromL key (Nd.items h x) ++ rest → J X0 pre H0 w0 →
    CallW Try.prog 48 [x.ptr, .string key, y].toArray w0 (Went xs J Jx X0 H0 w0 (pre ++ fromL key (Nd.items h x))) := by
  induction h with
  | zero =>
    intro H0 w0 x X0 pre rest hx hS hxs hj
    refine CallW_of_CW Try.func48 rfl Try.ntmps48 Try.results48 rfl ?_
    have hG := Grow.refl hS
    have hI := Its.start hS hj
    (refine CW_seq ?_; refine CW_region rfl ?_; refine S_op ?_; refine W_assignBool (by first | rfl | assumption) ?_; refine S_nil ?_; refine CW_seq ?_; refine CW_seq ?_; refine CW_region rfl ?_; refine S_op ?_; refine W_movePtr (by first | rfl | assumption) ?_)
    (refine S_op ?_; refine W_call hS (by rfl) (ends_c hx) ?_); rintro v H w hG' rfl; replace hG := hG.trans hG'; replace hS := hG'.sub; replace hx := hx.mono hG'.le; clear hG'
    cases hk : slt x.hi key with
    | true =>
      (refine S_op ?_; refine W_moveTup (by first | rfl | assumption) ?_; refine S_op ?_; refine W_extract (by first | rfl | assumption) (by rfl) ?_; refine S_op ?_; refine W_extract (by first | rfl | assumption) (by rfl) ?_; refine S_op ?_; refine W_assignStr (by first | rfl | assumption) ?_; refine S_op ?_; refine W_assignStr (by first | rfl | assumption) ?_; refine S_nil ?_; refine CW_seq ?_; refine CW_region rfl ?_; refine S_op ?_; refine W_movePtr (by first | rfl | assumption) ?_; refine S_op ?_; refine W_peqnil (by first | rfl | assumption) (by first | rfl | assumption) ?_; refine S_op ?_; refine W_moveBool (by first | rfl | assumption) ?_; refine S_want (by rfl) ?_; refine W_moveStr (by first | rfl | assumption) ?_; refine S_want (by rfl) ?_; refine W_moveStr (by first | rfl | assumption) ?_; refine S_want (by rfl) ?_; refine W_slssB (by first | rfl | assumption) (by first | rfl | assumption) (by assumption) ?_; refine S_op ?_; refine W_pickF (by first | rfl | assumption) (by first | rfl | assumption) ?_; refine S_nil ?_; refine CW_true (by first | rfl | assumption) ?_; refine CW_seq ?_; refine CW_region rfl ?_; refine S_op ?_; refine W_assignBool (by first | rfl | assumption) ?_; refine S_nil ?_; refine CW_ret ?_)
      have hI1 := hI.step hJ hG
      rw [fromL_nil_of (fun e he => slt_of_le_of_lt (Nd.le_hi hx.ok he) hk), List.append_nil]
      exact ⟨_, ResW_one (v := .bool _) rfl, .inl ⟨rfl, _, H, hI1⟩⟩
    | false =>
      (refine S_op ?_; refine W_moveTup (by first | rfl | assumption) ?_; refine S_op ?_; refine W_extract (by first | rfl | assumption) (by rfl) ?_; refine S_op ?_; refine W_extract (by first | rfl | assumption) (by rfl) ?_; refine S_op ?_; refine W_assignStr (by first | rfl | assumption) ?_; refine S_op ?_; refine W_assignStr (by first | rfl | assumption) ?_; refine S_nil ?_; refine CW_seq ?_; refine CW_region rfl ?_; refine S_op ?_; refine W_movePtr (by first | rfl | assumption) ?_; refine S_op ?_; refine W_peqnil (by first | rfl | assumption) (by first | rfl | assumption) ?_; refine S_op ?_; refine W_moveBool (by first | rfl | assumption) ?_; refine S_want (by rfl) ?_; refine W_moveStr (by first | rfl | assumption) ?_; refine S_want (by rfl) ?_; refine W_moveStr (by first | rfl | assumption) ?_; refine S_want (by rfl) ?_; refine W_slssB (by first | rfl | assumption) (by first | rfl | assumption) (by assumption) ?_; refine S_op ?_; refine W_pickF (by first | rfl | assumption) (by first | rfl | assumption) ?_; refine S_nil ?_; refine CW_false (by first | rfl | assumption) ?_; refine CW_skip ?_; refine CW_seq ?_; refine CW_seq ?_; refine CW_region rfl ?_; refine S_op ?_; refine W_movePtr (by first | rfl | assumption) ?_)
      (refine S_op ?_; refine W_call hS (by rfl) (entries_c hx) ?_); rintro v H w hG' hv; replace hG := hG.trans hG'; replace hS := hG'.sub; replace hx := hx.mono hG'.le; clear hG'
      obtain ⟨A, c, rfl, hc, hl⟩ := hv
      have hl : EntsAt H A x.ents := hl
      have hxl : x.ents.length ≤ 4 := by have := hx.ok; simp only [Nd.Ok, leafB, Bool.and_eq_true, decide_eq_true_eq] at this; omega
      rw [show Nd.own 0 x = x.ents from rfl]
      have hxs : xs = pre ++ fromL key x.ents ++ rest := hxs
      (refine S_op ?_; refine W_len (by first | rfl | assumption) ?_; refine S_op ?_; refine W_moveInt (by first | rfl | assumption) ?_; refine S_nil ?_; refine CW_block ?_)
      refine CW_loopM [6, 10, 28, 29, 30, 31, 32, 33, 34, 35, 36, 37, 38, 39, 40, 41, 42, 43, 44, 45] (fun m u w2 => ∃ (i : Nat) (X : Nat → Prop) (H2 : HF), u 28 = .int .i64 (i : Int) ∧ i ≤ x.ents.length ∧ x.ents.length - i ≤ m ∧ HLe H H2 ∧ Its J X0 H0 w0 X (pre ++ fromL key (x.ents.take i)) H2 w2)
        (m := x.ents.length) ⟨0, _, H, rfl, by omega, by omega, HLe.refl _, by simpa [fromL] using hI.step hJ hG⟩ ?_
      clear hI hG hS hj
      rintro m u w2 ⟨i, X, H2, h28, hi, hm, hle, hI⟩
      have hS := hI.sub
      have hG := Grow.refl hS
      replace hl := hl.mono hle
      replace hx := hx.mono hle
      by_cases hlt : i < x.ents.length
      · obtain ⟨bb, off, hA, hrow⟩ := hl.some hlt
        have hft := fromL_take (k := key) hlt
        cases hk : slt (ent x.ents i).key key with
        | true =>
          rw [hk] at hft
          (refine CW_seq ?_; refine CW_region rfl ?_; refine S_op ?_; refine W_lssT (by first | rfl | assumption) (by first | rfl | assumption) (by first | omega | rfl) ?_; refine S_nil ?_; refine CW_seq ?_; refine CW_true (by first | rfl | assumption) ?_; refine CW_skip ?_; refine CW_seq ?_; refine CW_block ?_; refine CW_seq ?_; refine CW_region rfl ?_; refine S_op ?_; refine W_index (by first | rfl | assumption) (by first | rfl | assumption) (by first | assumption | omega | decide) (by first | rfl | assumption) ?_; refine S_op ?_; refine W_loadEnt (by first | rfl | assumption) (by assumption) (by first | assumption | omega) (by assumption) ?_)
          (refine S_op (W_alloc hS ?_)); intro w cb hG' ch c; replace ch := Nat.le_trans hG.below.size (Nat.le_of_eq ch); replace hG := hG.trans hG'; replace hS := hG'.sub; clear hG'
          skip
          (refine S_op0 (W_storeM (o := 0) (vs := [.string (ent x.ents i).key, .string (ent x.ents i).val]) (by rfl) (by rfl) c (by rfl) (OneCells.of_all (by rfl)) (by rfl) (Nat.le_of_ble_eq_true (by rfl)) ?_)); intro w hgb' hm'; replace hG := hG.grownBy hgb' (fun g h => by cases h; exact ⟨c.out, ch⟩); replace hS := hG.sub; replace c : Mut _ w cb ([.string (ent x.ents i).key, .string (ent x.ents i).val]) := hm'; clear hm'; clear hgb'
          (refine S_nil ?_; refine CW_seq ?_; refine CW_region rfl ?_; refine S_op ?_; refine W_field (by first | rfl | assumption) ?_; refine S_op ?_; refine W_loadM (by first | rfl | assumption) (by assumption) (by rfl) ?_; refine S_op ?_; refine W_moveStr (by first | rfl | assumption) ?_; refine S_op ?_; refine W_sgeqB (by first | rfl | assumption) (by first | rfl | assumption) (by assumption) ?_; refine S_op ?_; refine W_moveBool (by first | rfl | assumption) ?_; refine S_pass (by rfl) ?_; refine S_pass (by rfl) ?_; refine S_pass (by rfl) ?_; refine S_pass (by rfl) ?_; refine S_pass (by rfl) ?_; refine S_pass (by rfl) ?_; refine S_pass (by rfl) ?_; refine S_op ?_; refine W_pickF (by first | rfl | assumption) (by first | rfl | assumption) ?_; refine S_nil ?_; refine CW_false (by first | rfl | assumption) ?_; refine CW_skip ?_; refine CW_region rfl ?_; refine S_op ?_; refine W_add1 (by first | rfl | assumption) (by omega) ?_; refine S_op ?_; refine W_moveInt (by first | rfl | assumption) ?_; refine S_nil ?_)
          exact ⟨(by repeat (first | exact AgreeOff.over | refine AgreeOff.upd rfl ?_ | refine AgreeOff.over2 rfl ?_)), m - 1, by omega, i + 1, _, H2, rfl, by omega, by omega, hle, by rw [hft]; simpa using hI.step hJ hG⟩
        | false =>
          rw [hk] at hft
          have hsp := from_split hlt hk
          (refine CW_seq ?_; refine CW_region rfl ?_; refine S_op ?_; refine W_lssT (by first | rfl | assumption) (by first | rfl | assumption) (by first | omega | rfl) ?_; refine S_nil ?_; refine CW_seq ?_; refine CW_true (by first | rfl | assumption) ?_; refine CW_skip ?_; refine CW_seq ?_; refine CW_block ?_; refine CW_seq ?_; refine CW_region rfl ?_; refine S_op ?_; refine W_index (by first | rfl | assumption) (by first | rfl | assumption) (by first | assumption | omega | decide) (by first | rfl | assumption) ?_; refine S_op ?_; refine W_loadEnt (by first | rfl | assumption) (by assumption) (by first | assumption | omega) (by assumption) ?_)
          (refine S_op (W_alloc hS ?_)); intro w cb hG' ch c; replace ch := Nat.le_trans hG.below.size (Nat.le_of_eq ch); replace hG := hG.trans hG'; replace hS := hG'.sub; clear hG'
          skip
          (refine S_op0 (W_storeM (o := 0) (vs := [.string (ent x.ents i).key, .string (ent x.ents i).val]) (by rfl) (by rfl) c (by rfl) (OneCells.of_all (by rfl)) (by rfl) (Nat.le_of_ble_eq_true (by rfl)) ?_)); intro w hgb' hm'; replace hG := hG.grownBy hgb' (fun g h => by cases h; exact ⟨c.out, ch⟩); replace hS := hG.sub; replace c : Mut _ w cb ([.string (ent x.ents i).key, .string (ent x.ents i).val]) := hm'; clear hm'; clear hgb'
          (refine S_nil ?_; refine CW_seq ?_; refine CW_region rfl ?_; refine S_op ?_; refine W_field (by first | rfl | assumption) ?_; refine S_op ?_; refine W_loadM (by first | rfl | assumption) (by assumption) (by rfl) ?_; refine S_op ?_; refine W_moveStr (by first | rfl | assumption) ?_; refine S_op ?_; refine W_sgeqB (by first | rfl | assumption) (by first | rfl | assumption) (by assumption) ?_; refine S_op ?_; refine W_moveBool (by first | rfl | assumption) ?_; refine S_want (by rfl) ?_; refine W_move rfl ?_; refine S_want (by rfl) ?_; refine W_field (by first | rfl | assumption) ?_; refine S_want (by rfl) ?_; refine W_loadM (by first | rfl | assumption) (by assumption) (by rfl) ?_; refine S_want (by rfl) ?_; refine W_field (by first | rfl | assumption) ?_; refine S_want (by rfl) ?_; refine W_loadM (by first | rfl | assumption) (by assumption) (by rfl) ?_)
          refine S_want (by rfl) ?_
          have hI1 := hI.step hJ hG
          refine W_callVal (by rfl) (by rfl) ((hy.at (x := ent x.ents i) (r := fromL key (x.ents.drop (i + 1)) ++ rest) (by rw [hxs, hsp]; simp) (Its.start hS hI1.has)).mono ?_)
          clear hI hG hS c
          rintro v w (⟨rfl, X, H3, hI⟩ | ⟨rfl, X, H3, p, r, he, hI⟩)
          · (refine S_want (by rfl) ?_; refine W_not (by first | rfl | assumption) ?_; refine S_op ?_; refine W_pickT (by first | rfl | assumption) (by first | rfl | assumption) ?_; refine S_nil ?_; refine CW_false (by first | rfl | assumption) ?_; refine CW_skip ?_; refine CW_region rfl ?_; refine S_op ?_; refine W_add1 (by first | rfl | assumption) (by omega) ?_; refine S_op ?_; refine W_moveInt (by first | rfl | assumption) ?_; refine S_nil ?_)
            exact ⟨(by repeat (first | exact AgreeOff.over | refine AgreeOff.upd rfl ?_ | refine AgreeOff.over2 rfl ?_)), m - 1, by omega, i + 1, _, H3, rfl, by omega, by omega, hle.trans hI.le, by rw [hft]; simpa using hI1.trans hI⟩
          · (refine S_want (by rfl) ?_; refine W_not (by first | rfl | assumption) ?_; refine S_op ?_; refine W_pickT (by first | rfl | assumption) (by first | rfl | assumption) ?_; refine S_nil ?_; refine CW_true (by first | rfl | assumption) ?_; refine CW_seq ?_; refine CW_region rfl ?_; refine S_op ?_; refine W_assignBool (by first | rfl | assumption) ?_; refine S_nil ?_; refine CW_ret ?_)
            exact ⟨_, ResW_one (v := .bool _) rfl, .inr ⟨rfl, X, H3, p, r, he, hI1.trans hI⟩⟩
      · have hin : i = x.ents.length := by omega
        subst hin
        rw [List.take_length] at hI
        (refine CW_seq ?_; refine CW_region rfl ?_; refine S_op ?_; refine W_lssF (by first | rfl | assumption) (by first | rfl | assumption) (by first | omega | rfl) ?_; refine S_nil ?_; refine CW_seq ?_; refine CW_false (by first | rfl | assumption) ?_; refine CW_exit ?_; refine CW_seq ?_; refine CW_seq ?_; refine CW_region rfl ?_; refine S_op ?_; refine W_movePtr (by first | rfl | assumption) ?_)
        (refine S_op ?_; refine W_call hS (by rfl) (kids_leaf hx) ?_); rintro v H w hG' rfl; replace hG := hG.trans hG'; replace hS := hG'.sub; clear hG'
        (refine S_op ?_; refine W_len (by first | rfl | assumption) ?_; refine S_op ?_; refine W_moveInt (by first | rfl | assumption) ?_; refine S_nil ?_; refine CW_block ?_)
        refine CW_loopM [6, 12, 49, 50, 51, 52, 53, 54, 55, 56, 57, 58] (fun m u w2 => u 49 = .int .i64 0 ∧ w2 = w) (m := 0) ⟨rfl, rfl⟩ ?_
        rintro m u w2 ⟨h49, rfl⟩
        (refine CW_seq ?_; refine CW_region rfl ?_; refine S_op ?_; refine W_lssF (by first | rfl | assumption) (by first | rfl | assumption) (by first | omega | rfl) ?_; refine S_nil ?_; refine CW_seq ?_; refine CW_false (by first | rfl | assumption) ?_; refine CW_exit ?_; refine CW_seq ?_; refine CW_region rfl ?_; refine S_op ?_; refine W_assignBool (by first | rfl | assumption) ?_; refine S_nil ?_; refine CW_ret ?_)
        exact ⟨_, ResW_one (v := .bool _) rfl, .inl ⟨rfl, _, H, hI.step hJ hG⟩⟩
  | succ h ih =>
    intro H0 w0 x X0 pre rest hx hS hxs hj
    have hxs : xs = pre ++ fromL key (x.kids.flatMap (Nd.items h)) ++ rest := hxs
    have goal : ∀ v w', Went xs J Jx X0 H0 w0 (pre ++ fromL key (x.kids.flatMap (Nd.items h))) v w' → Went xs J Jx X0 H0 w0 (pre ++ fromL key (Nd.items (h + 1) x)) v w' := fun _ _ h => h
    refine CallW_of_CW Try.func48 rfl Try.ntmps48 Try.results48 rfl ?_
    have hG := Grow.refl hS
    have hI := Its.start hS hj
    (refine CW_seq ?_; refine CW_region rfl ?_; refine S_op ?_; refine W_assignBool (by first | rfl | assumption) ?_; refine S_nil ?_; refine CW_seq ?_; refine CW_seq ?_; refine CW_region rfl ?_; refine S_op ?_; refine W_movePtr (by first | rfl | assumption) ?_)
    (refine S_op ?_; refine W_call hS (by rfl) (ends_c hx) ?_); rintro v H w hG' rfl; replace hG := hG.trans hG'; replace hS := hG'.sub; replace hx := hx.mono hG'.le; clear hG'
    cases hk : slt x.hi key with
    | true =>
      (refine S_op ?_; refine W_moveTup (by first | rfl | assumption) ?_; refine S_op ?_; refine W_extract (by first | rfl | assumption) (by rfl) ?_; refine S_op ?_; refine W_extract (by first | rfl | assumption) (by rfl) ?_; refine S_op ?_; refine W_assignStr (by first | rfl | assumption) ?_; refine S_op ?_; refine W_assignStr (by first | rfl | assumption) ?_; refine S_nil ?_; refine CW_seq ?_; refine CW_region rfl ?_; refine S_op ?_; refine W_movePtr (by first | rfl | assumption) ?_; refine S_op ?_; refine W_peqnil (by first | rfl | assumption) (by first | rfl | assumption) ?_; refine S_op ?_; refine W_moveBool (by first | rfl | assumption) ?_; refine S_want (by rfl) ?_; refine W_moveStr (by first | rfl | assumption) ?_; refine S_want (by rfl) ?_; refine W_moveStr (by first | rfl | assumption) ?_; refine S_want (by rfl) ?_; refine W_slssB (by first | rfl | assumption) (by first | rfl | assumption) (by assumption) ?_; refine S_op ?_; refine W_pickF (by first | rfl | assumption) (by first | rfl | assumption) ?_; refine S_nil ?_; refine CW_true (by first | rfl | assumption) ?_; refine CW_seq ?_; refine CW_region rfl ?_; refine S_op ?_; refine W_assignBool (by first | rfl | assumption) ?_; refine S_nil ?_; refine CW_ret ?_)
      have hI1 := hI.step hJ hG
      rw [fromL_nil_of (fun e he => slt_of_le_of_lt (Nd.le_hi hx.ok he) hk), List.append_nil]
      exact ⟨_, ResW_one (v := .bool _) rfl, .inl ⟨rfl, _, H, hI1⟩⟩
    | false =>
      (refine S_op ?_; refine W_moveTup (by first | rfl | assumption) ?_; refine S_op ?_; refine W_extract (by first | rfl | assumption) (by rfl) ?_; refine S_op ?_; refine W_extract (by first | rfl | assumption) (by rfl) ?_; refine S_op ?_; refine W_assignStr (by first | rfl | assumption) ?_; refine S_op ?_; refine W_assignStr (by first | rfl | assumption) ?_; refine S_nil ?_; refine CW_seq ?_; refine CW_region rfl ?_; refine S_op ?_; refine W_movePtr (by first | rfl | assumption) ?_; refine S_op ?_; refine W_peqnil (by first | rfl | assumption) (by first | rfl | assumption) ?_; refine S_op ?_; refine W_moveBool (by first | rfl | assumption) ?_; refine S_want (by rfl) ?_; refine W_moveStr (by first | rfl | assumption) ?_; refine S_want (by rfl) ?_; refine W_moveStr (by first | rfl | assumption) ?_; refine S_want (by rfl) ?_; refine W_slssB (by first | rfl | assumption) (by first | rfl | assumption) (by assumption) ?_; refine S_op ?_; refine W_pickF (by first | rfl | assumption) (by first | rfl | assumption) ?_; refine S_nil ?_; refine CW_false (by first | rfl | assumption) ?_; refine CW_skip ?_; refine CW_seq ?_; refine CW_seq ?_; refine CW_region rfl ?_; refine S_op ?_; refine W_movePtr (by first | rfl | assumption) ?_)
      (refine S_op ?_; refine W_call hS (by rfl) (entries_branch hx) ?_); rintro v H w hG' rfl; replace hG := hG.trans hG'; replace hS := hG'.sub; replace hx := hx.mono hG'.le; clear hG'
      (refine S_op ?_; refine W_len (by first | rfl | assumption) ?_; refine S_op ?_; refine W_moveInt (by first | rfl | assumption) ?_; refine S_nil ?_; refine CW_block ?_)
      refine CW_loopM [6, 10, 28, 29, 30, 31, 32, 33, 34, 35, 36, 37, 38, 39, 40, 41, 42, 43, 44, 45] (fun m u w2 => u 28 = .int .i64 0 ∧ w2 = w) (m := 0) ⟨rfl, rfl⟩ ?_
      rintro m u w2 ⟨h28, rfl⟩
      (refine CW_seq ?_; refine CW_region rfl ?_; refine S_op ?_; refine W_lssF (by first | rfl | assumption) (by first | rfl | assumption) (by first | omega | rfl) ?_; refine S_nil ?_; refine CW_seq ?_; refine CW_false (by first | rfl | assumption) ?_; refine CW_exit ?_; refine CW_seq ?_; refine CW_seq ?_; refine CW_region rfl ?_; refine S_op ?_; refine W_movePtr (by first | rfl | assumption) ?_)
      (refine S_op ?_; refine W_call hS (by rfl) (kids_c hx) ?_); rintro v H w hG' hv; replace hG := hG.trans hG'; replace hS := hG'.sub; replace hx := hx.mono hG'.le; clear hG'
      obtain ⟨B, d, rfl, hd, hsl, _⟩ := hv
      have hks := hx.kids
      have hxl := hx.ok.2.1
      (refine S_op ?_; refine W_len (by first | rfl | assumption) ?_; refine S_op ?_; refine W_moveInt (by first | rfl | assumption) ?_; refine S_nil ?_; refine CW_block ?_)
      refine CW_loopM [6, 12, 49, 50, 51, 52, 53, 54, 55, 56, 57, 58] (fun m u w2 => ∃ (i : Nat) (X : Nat → Prop) (H2 : HF), u 49 = .int .i64 (i : Int) ∧ i ≤ x.kids.length ∧ x.kids.length - i ≤ m ∧ HLe H H2 ∧ Its J X0 H0 w0 X (pre ++ fromL key ((x.kids.take i).flatMap (Nd.items h))) H2 w2)
        (m := x.kids.length) ⟨0, _, H, rfl, by omega, by omega, HLe.refl _, by simpa [fromL] using hI.step hJ hG⟩ ?_
      clear hI hG hS hj
      rintro m u w2 ⟨i, X, H2, h49, hi, hm, hle, hI⟩
      have hS := hI.sub
      have hG := Grow.refl hS
      replace hsl := hsl.mono hle
      replace hks := hks.mono hle
      by_cases hlt : i < x.kids.length
      · obtain ⟨bb, off, hA, hrow⟩ := slAt_some hsl hlt
        have hget := ptr_get hlt
        have hxi := hks x.kids[i] (List.getElem_mem _)
        have hft := flat_take hlt
        have hsp : x.kids.flatMap (Nd.items h) = (x.kids.take i).flatMap (Nd.items h) ++ (Nd.items h x.kids[i] ++ (x.kids.drop (i + 1)).flatMap (Nd.items h)) := by
          have e : x.kids = x.kids.take i ++ x.kids[i] :: x.kids.drop (i + 1) := by rw [← List.drop_eq_getElem_cons hlt, List.take_append_drop]
          exact (congrArg (List.flatMap (Nd.items h)) e).trans (by rw [List.flatMap_append, List.flatMap_cons])
        (refine CW_seq ?_; refine CW_region rfl ?_; refine S_op ?_; refine W_lssT (by first | rfl | assumption) (by first | rfl | assumption) (by first | omega | rfl) ?_; refine S_nil ?_; refine CW_seq ?_; refine CW_true (by first | rfl | assumption) ?_; refine CW_skip ?_; refine CW_seq ?_; refine CW_block ?_; refine CW_seq ?_; refine CW_region rfl ?_; refine S_op ?_; refine W_index (by first | rfl | assumption) (by first | rfl | assumption) (by first | assumption | omega | decide) (by first | rfl | assumption) ?_)
        refine S_op (W_loadRow (by rfl) hrow hget hS ?_)
        (refine S_op ?_; refine W_assignPtr (by first | rfl | assumption) ?_; refine S_nil ?_; refine CW_seq ?_; refine CW_region rfl ?_; refine S_op ?_; refine W_movePtr (by first | rfl | assumption) ?_; refine S_op ?_; refine W_moveStr (by first | rfl | assumption) ?_; refine S_op ?_; refine W_move rfl ?_)
        have hI1 := hI.step hJ hG
        refine S_op ?_
        refine W_callW (vs := [x.kids[i].ptr, .string key, y]) (by rfl) ((ih H2 _ x.kids[i] _ (pre ++ fromL key ((x.kids.take i).flatMap (Nd.items h))) (fromL key ((x.kids.drop (i + 1)).flatMap (Nd.items h)) ++ rest) hxi hS (by rw [hxs, hsp]; simp [fromL_append]) hI1.has).mono ?_)
        clear hI hG hS
        rintro v w (⟨rfl, X, H3, hI⟩ | ⟨rfl, X, H3, p, r, he, hI⟩)
        · (refine S_op ?_; refine W_not (by first | rfl | assumption) ?_; refine S_nil ?_; refine CW_false (by first | rfl | assumption) ?_; refine CW_skip ?_; refine CW_region rfl ?_; refine S_op ?_; refine W_add1 (by first | rfl | assumption) (by omega) ?_; refine S_op ?_; refine W_moveInt (by first | rfl | assumption) ?_; refine S_nil ?_)
          exact ⟨(by repeat (first | exact AgreeOff.over | refine AgreeOff.upd rfl ?_ | refine AgreeOff.over2 rfl ?_)), m - 1, by omega, i + 1, _, H3, rfl, by omega, by omega, hle.trans hI.le, by rw [hft, fromL_append]; simpa using hI1.trans hI⟩
        · (refine S_op ?_; refine W_not (by first | rfl | assumption) ?_; refine S_nil ?_; refine CW_true (by first | rfl | assumption) ?_; refine CW_seq ?_; refine CW_region rfl ?_; refine S_op ?_; refine W_assignBool (by first | rfl | assumption) ?_; refine S_nil ?_; refine CW_ret ?_)
          exact ⟨_, ResW_one (v := .bool _) rfl, .inr ⟨rfl, X, H3, p, r, he, hI1.trans hI⟩⟩
      · have hin : i = x.kids.length := by omega
        subst hin
        rw [List.take_length] at hI
        (refine CW_seq ?_; refine CW_region rfl ?_; refine S_op ?_; refine W_lssF (by first | rfl | assumption) (by first | rfl | assumption) (by first | omega | rfl) ?_; refine S_nil ?_; refine CW_seq ?_; refine CW_false (by first | rfl | assumption) ?_; refine CW_exit ?_; refine CW_seq ?_; refine CW_region rfl ?_; refine S_op ?_; refine W_assignBool (by first | rfl | assumption) ?_; refine S_nil ?_; refine CW_ret ?_)
        exact ⟨_, ResW_one (v := .bool _) rfl, goal _ _ (.inl ⟨rfl, _, H2, hI.step hJ hG⟩)⟩
end
end Go.Proofs.Ytgaabmoknpifnaa
/- The iterators of package walk, walked. Conditions: none but the tree's. -/
namespace Go.Proofs.Ytgaabmoknpifnaa
open Go.Proofs Go.RowKit
set_option linter.unusedVariables false
attribute [local irreducible] CW CWD SeqW OpW CallV
set_option maxHeartbeats 4000000
theorem slt_nil (a : ByteArray) : slt a ⟨#[]⟩ = false := by simp [slt, Op.bytesLess]
theorem Tr.val_cells (t : Tr) : t.val.cells = #[t.val] := by cases t <;> rfl
section
variable {xs : List Ent} {y : Value} {J Jx : Inv Ent} {key : ByteArray}
theorem up_t (hJ : Stable J) (hy : Yields Try.prog y encP xs J Jx) {H0 : HF} {w0 : World} {t : Tr} {X0 : Nat → Prop} {pre rest : List Ent} (ht : Tr.At H0 t) (hS : Sub H0 w0) (hxs : xs = pre ++ fromL key t.items ++ rest) (hj : J X0 pre H0 w0) :
    CallW Try.prog 48 [t.val, .string key, y].toArray w0 (Went xs J Jx X0 H0 w0 (pre ++ fromL key t.items)) := by
  cases t with
  | none =>
    rw [show pre ++ fromL key (Tr.items none) = pre by simp [Tr.items, fromL]]
    exact up_nil hJ hS hj
  | some x => exact up_c hJ hy x.1 H0 w0 x.2 X0 pre rest ht hS hxs hj
end
theorem from1_it {H : HF} {w : World} {t : Tr} {key : ByteArray} {a b : Nat} {T U : TypeId} (ht : Tr.At H t) (ha : H a = some (.cells #[t.val] T (0, 0))) (hb : H b = some (.cells #[.string key] U (0, 0))) :
    IterAt Try.prog 47 [.pointer (some ⟨a, 0, none⟩), .pointer (some ⟨b, 0, none⟩)] encP (fromL key t.items) (fun _ => False) H w := by
  intro y J Jx X hyc _ hXb hJ hJx hy hS hj
  refine CallW_of_CW Try.func47 rfl Try.ntmps47 Try.results47 rfl ?_
  have hG := Grow.refl hS
  (refine CW_region rfl ?_; refine S_op ?_; refine W_loadHL (by first | rfl | assumption) (by assumption) (by rfl) (by assumption) ?_; refine S_op ?_; refine W_loadHL (by first | rfl | assumption) (by assumption) (by rfl) (by assumption) ?_; refine S_op ?_; refine W_move rfl ?_)
  refine S_op ?_
  refine W_callW (vs := [t.val, .string key, y]) (by rfl) ((up_t hJ hy (rest := []) ht hS (by simp) hj).mono ?_)
  rintro v w' hw
  (refine S_nil ?_)
  exact ⟨_, ResW_zero, Went.end hw⟩
theorem from_c (H : HF) (t : Tr) (key : ByteArray) (ht : Tr.At H t) : Fn Try.prog 21 [t.val, .string key] H fun v H' => IterV Try.prog encP (fromL key t.items) v H' := by
  have hc := Tr.val_cells t
  refine Fn_of_CW Try.func21 rfl Try.ntmps21 Try.results21 rfl fun w hS => ?_; have hG := Grow.refl hS; have hS0 := hS
  (refine CW_seq ?_; refine CW_region rfl ?_)
  (refine S_op (W_box1 hS (by rfl) (by first | rfl | assumption) ?_)); intro H w _ hG' h2; replace hG := hG.trans hG'; replace hS := hG'.sub; replace ht := ht.mono hG'.le; clear hG'
  skip
  (refine S_op (W_box1 hS (by rfl) (by first | rfl | assumption) ?_)); intro H w _ hG' h3; replace hG := hG.trans hG'; replace hS := hG'.sub; replace ht := ht.mono hG'.le; replace h2 := hG'.le _ _ h2; clear hG'
  (refine S_op ?_; refine W_assign rfl ?_; refine S_nil ?_; refine CW_seq ?_; refine CW_region rfl ?_)
  refine S_op (W_makeFunc rfl rfl ?_)
  (refine S_op ?_; refine W_assignFun (by first | rfl | assumption) ?_; refine S_nil ?_; refine CW_ret ?_)
  exact ⟨_, ResW_one (v := .func _ _ _) rfl, H, hG, _, _, inferInstance, rfl, fun H1 w1 hle => from1_it (ht.mono hle) (hle _ _ h2) (hle _ _ h3)⟩
theorem all_c (H : HF) (t : Tr) (ht : Tr.At H t) : Fn Try.prog 26 [t.val] H fun v H' => IterV Try.prog encP t.items v H' := by
  have e : fromL ⟨#[]⟩ t.items = t.items := by
    simp only [fromL, List.filter_eq_self]
    intro x _
    simp [slt, Op.bytesLess]
  refine Fn_of_CW Try.func26 rfl Try.ntmps26 Try.results26 rfl fun w hS => ?_; have hG := Grow.refl hS; have hS0 := hS
  (refine CW_seq ?_; refine CW_region rfl ?_; refine S_op ?_; refine W_assign rfl ?_; refine S_nil ?_; refine CW_seq ?_; refine CW_region rfl ?_; refine S_op ?_; refine W_movePtr (by first | rfl | assumption) ?_)
  (refine S_op ?_; refine W_call hS (by rfl) (from_c H t ⟨#[]⟩ ht) ?_); rintro v H w hG' hv; replace hG := hG.trans hG'; replace hS := hG'.sub; replace ht := ht.mono hG'.le; clear hG'
  rw [e] at hv
  obtain ⟨gf, lb, h1, rfl, h3⟩ := hv
  (refine S_op ?_; refine W_assignFun (by first | rfl | assumption) ?_; refine S_nil ?_; refine CW_ret ?_)
  exact ⟨_, ResW_one (v := .func _ _ _) rfl, H, hG, gf, lb, h1, rfl, h3⟩
def enc1 (e : Ent) : List Value := [.agg #[.string e.key, .string e.val]]
theorem entries1_it {H : HF} {w : World} {t : Tr} {key : ByteArray} {a b : Nat} {T U : TypeId} (ht : Tr.At H t) (ha : H a = some (.cells #[t.val] T (0, 0))) (hb : H b = some (.cells #[.string key] U (0, 0))) :
    IterAt Try.prog 63 [.pointer (some ⟨a, 0, none⟩), .pointer (some ⟨b, 0, none⟩)] enc1 (fromL key t.items) (fun _ => False) H w := by
  intro y J Jx X0 hyc _ hX0 hJ hJx hy hS hj
  obtain ⟨H0, rfl⟩ : ∃ H0, H0 = H := ⟨_, rfl⟩
  obtain ⟨w0, rfl⟩ : ∃ w0, w0 = w := ⟨_, rfl⟩
  refine CallW_of_CWD Try.func63 rfl Try.ntmps63 Try.results63 rfl ?_
  have hG := Grow.refl hS
  have hI0 := Its.start hS hj
  have hc := Tr.val_cells t
  (refine CWD_seq ?_; refine CWD_region rfl ?_)
  (refine S_op (W_box1 hS (by rfl) (by first | rfl | assumption) ?_)); intro H w _ hG' h3; replace hG := hG.trans hG'; replace hS := hG'.sub; replace ht := ht.mono hG'.le; replace ha := hG'.le _ _ ha; replace hb := hG'.le _ _ hb; clear hG'
  (refine S_nil ?_; refine CWD_seq ?_; refine CWD_region rfl ?_; refine S_op ?_; refine W_loadHL (by first | rfl | assumption) (by assumption) (by rfl) (by assumption) ?_; refine S_op ?_; refine W_loadHL (by first | rfl | assumption) (by assumption) (by rfl) (by assumption) ?_)
  (refine S_op ?_; refine W_call hS (by rfl) (from_c _ t key ht) ?_); rintro v H w hG' hv; replace hG := hG.trans hG'; replace hS := hG'.sub; replace ht := ht.mono hG'.le; replace h3 := hG'.le _ _ h3; clear hG'
  obtain ⟨gf, lb, hfc, rfl, hit⟩ := hv
  (refine S_nil ?_; refine CWD_block ?_)
  have hI := hI0.step hJ hG
  refine CWD_range (S := fun _ => False) (Inn J X0 H0 w0 [] id (fun _ H2 _ => HLe H H2)) (retI (InnX (fromL key t.items) Jx X0 H0 w0 [] (fun _ _ => True)))
    (Inn.good hJ hX0 fun _ _ _ _ _ _ _ hT h => h.trans hT.le) (retI.stable (InnX.stable hJx hX0 fun _ _ _ _ _ _ _ _ h => h)) ⟨_, hI, fun _ h => h.elim, fun _ h => by (simp at h), HLe.refl _⟩
    rfl hS (fun _ => rfl) (by decide) (fun w1 _ => hit H w1 (HLe.refl _)) (fun _ h => h.elim) ?_ ?_ ?_ ?_
  · intro l x W
    (refine CW_seq ?_; refine CW_region rfl ?_; refine S_op ?_; refine W_assignStr (by first | rfl | assumption) ?_; refine S_nil ?_; refine CW_region rfl ?_; refine S_op ?_; refine W_assignStr (by first | rfl | assumption) ?_; refine S_nil ?_)
    refine ⟨rfl, ?_⟩
    intro l X pre rest H W hx hS hi _
    obtain ⟨X1, hI, hXi, hbs, hle⟩ := hi
    replace h3 := hle _ _ h3
    have hL := Its.start hS hI.has
    have hG := Grow.refl hS
    (refine CW_block ?_; refine CW_seq ?_; refine CW_region rfl ?_; refine S_op ?_; refine W_loadHL (by first | rfl | assumption) (by assumption) (by rfl) (by assumption) ?_; refine S_op ?_; refine W_moveStr (by first | rfl | assumption) ?_; refine S_op ?_; refine W_moveStr (by first | rfl | assumption) ?_; refine S_op ?_; refine W_build (by rfl) ?_)
    have hL1 := hL.step hJ hG
    refine S_op ?_
    refine W_callVal (by rfl) (by rfl) ((hy.at (x := x) (r := rest) hx (Its.start hS hL1.has)).mono ?_)
    rintro v w' (⟨rfl, X2, H3, hK⟩ | ⟨rfl, X2, H3, p, r, he, hK⟩)
    · (refine S_op ?_; refine W_not (by first | rfl | assumption) ?_; refine S_nil ?_; refine CW_false (by first | rfl | assumption) ?_; refine CW_skip ?_)
      exact Inn.next (g := id) hI hXi hbs (hL1.trans hK) (hle.trans (hL1.trans hK).le)
    · (refine S_op ?_; refine W_not (by first | rfl | assumption) ?_; refine S_nil ?_; refine CW_true (by first | rfl | assumption) ?_; refine CW_ret ?_)
      exact Inn.stop (φx := fun _ _ => True) (pre' := pre ++ [x]) hI hXi hbs he (hL1.trans hK) trivial
  · rintro D X H' W' hD hM hS' hle hXs hXD ⟨X1, hI, hXi, _, _⟩
    skip
    refine FinD_one hM hS' fun w' hT => ?_
    exact ⟨_, ResW_zero, Went.end (v := .bool true) (.inl ⟨rfl, _, _, hI.closed hX0 hJ (hXi D hXD).1 (hXi D hXD).2 hT⟩)⟩
  · rintro D X H' W' pre rest hx hD hM hS' hle hXs hXD ⟨X1, p, r, he, hI, hXi, _, _⟩
    skip
    refine FinD_one hM hS' fun w' hT => ?_
    exact ⟨_, ResW_zero, Went.end (v := .bool false) (.inr ⟨rfl, _, _, p, r, he, hI.closed hX0 hJx (hXi D hXD).1 (hXi D hXD).2 hT⟩)⟩
  · exact fun _ _ _ _ _ _ _ _ _ _ _ _ _ _ h => False.elim h
theorem entriesI_c (H : HF) (t : Tr) (key : ByteArray) (ht : Tr.At H t) : Fn Try.prog 46 [t.val, .string key] H fun v H' => IterV Try.prog enc1 (fromL key t.items) v H' := by
  have hc := Tr.val_cells t
  refine Fn_of_CW Try.func46 rfl Try.ntmps46 Try.results46 rfl fun w hS => ?_; have hG := Grow.refl hS; have hS0 := hS
  (refine CW_seq ?_; refine CW_region rfl ?_)
  (refine S_op (W_box1 hS (by rfl) (by first | rfl | assumption) ?_)); intro H w _ hG' h2; replace hG := hG.trans hG'; replace hS := hG'.sub; replace ht := ht.mono hG'.le; clear hG'
  skip
  (refine S_op (W_box1 hS (by rfl) (by first | rfl | assumption) ?_)); intro H w _ hG' h3; replace hG := hG.trans hG'; replace hS := hG'.sub; replace ht := ht.mono hG'.le; replace h2 := hG'.le _ _ h2; clear hG'
  (refine S_op ?_; refine W_assign rfl ?_; refine S_nil ?_; refine CW_seq ?_; refine CW_region rfl ?_)
  refine S_op (W_makeFunc rfl rfl ?_)
  (refine S_op ?_; refine W_assignFun (by first | rfl | assumption) ?_; refine S_nil ?_; refine CW_ret ?_)
  exact ⟨_, ResW_one (v := .func _ _ _) rfl, H, hG, _, _, inferInstance, rfl, fun H1 w1 hle => entries1_it (ht.mono hle) (hle _ _ h2) (hle _ _ h3)⟩
end Go.Proofs.Ytgaabmoknpifnaa
/- walk.Count and walk.Take, walked. Conditions: sizes. -/
namespace Go.Proofs.Ytgaabmoknpifnaa
open Go.Proofs Go.RowKit
set_option linter.unusedVariables false
attribute [local irreducible] CW CWD SeqW OpW CallV
set_option maxHeartbeats 4000000
/-- How many lie ahead of the first whose key is not below k. -/
def aheadOf (k : ByteArray) (l : List Ent) : Nat := (l.takeWhile fun e => slt e.key k).length
theorem ahead_all {k : ByteArray} {l : List Ent} (h : ∀ e ∈ l, slt e.key k = true) : aheadOf k l = l.length := by
  have := List.takeWhile_append_of_pos (p := fun e => slt e.key k) (l₁ := l) (l₂ := []) h
  simp only [List.append_nil, List.takeWhile_nil] at this
  rw [aheadOf, this]
theorem ahead_split {k : ByteArray} {l r : List Ent} {x : Ent} (h : ∀ e ∈ l, slt e.key k = true) (hx : slt x.key k = false) : aheadOf k (l ++ x :: r) = l.length := by
  rw [aheadOf, List.takeWhile_append_of_pos h]
  simp [hx]
theorem count_c (H : HF) (t : Tr) (k k2 : ByteArray) (ht : Tr.At H t) (hb : t.items.length ≤ 1000000) : Fn Try.prog 19 [t.val, .string k, .string k2] H fun v _ => v = .int .i64 (aheadOf k2 (fromL k t.items) : Nat) := by
  obtain ⟨H0, rfl⟩ : ∃ H0, H0 = H := ⟨_, rfl⟩
  have hlen : (fromL k t.items).length ≤ 1000000 := Nat.le_trans (List.length_filter_le _ _) hb
  refine Fn_of_CWD Try.func19 rfl Try.ntmps19 Try.results19 rfl fun w0 hS => ?_; have hS0 := hS; have hG := Grow.refl hS
  (refine CWD_seq ?_; refine CWD_region rfl ?_)
  (refine S_op (W_box1 hS (by rfl) (by first | rfl | assumption) ?_)); intro H w _ hG' h5; replace hG := hG.trans hG'; replace hS := hG'.sub; replace ht := ht.mono hG'.le; clear hG'
  (refine S_op ?_; refine W_assignInt (by first | rfl | assumption) ?_; refine S_nil ?_; refine CWD_scope ?_; refine CWD_seq ?_; refine CWD_region rfl ?_)
  (refine S_op (W_alloc hS ?_)); intro w c7b hG' c7h c7; replace c7h := Nat.le_trans hG.below.size (Nat.le_of_eq c7h); replace hG := hG.trans hG'; replace hS := hG'.sub; clear hG'
  skip
  (refine S_op0 (W_storeM (o := 0) (vs := [.int .i64 0]) (by rfl) (by rfl) c7 (by rfl) (OneCells.of_all (by rfl)) (by rfl) (Nat.le_of_ble_eq_true (by rfl)) ?_)); intro w hgb' hm'; replace hG := hG.grownBy hgb' (fun g h => by cases h; exact ⟨c7.out, c7h⟩); replace hS := hG.sub; replace c7 : Mut _ w c7b ([.int .i64 0]) := hm'; clear hm'; clear hgb'
  (refine S_nil ?_; refine CWD_seq ?_; refine CWD_label ?_; refine CWD_seq ?_; refine CWD_seq ?_; refine CWD_region rfl ?_; refine S_op ?_; refine W_movePtr (by first | rfl | assumption) ?_; refine S_op ?_; refine W_moveStr (by first | rfl | assumption) ?_)
  (refine S_op ?_; refine W_call hS (by rfl) (from_c _ t k ht) ?_); rintro v H w hG' hv; replace hG := hG.trans hG'; replace hS := hG'.sub; replace ht := ht.mono hG'.le; replace h5 := hG'.le _ _ h5; replace c7 := c7.grow hG'; clear hG'
  obtain ⟨gf, lb, hfc, rfl, hit⟩ := hv
  (refine S_nil ?_; refine CWD_block ?_)
  refine CWD_range (S := fun _ => False) (Hold H0 w0 [c7b] (fun pre H2 w2 => HLe H H2 ∧ Mut H2 w2 c7b [.int .i64 (pre.length : Nat)] ∧ ∀ e ∈ pre, slt e.key k2 = true))
    (exitI 0 (Hold H0 w0 [c7b] (fun pre H2 w2 => ∃ q x, pre = q ++ [x] ∧ Mut H2 w2 c7b [.int .i64 (q.length : Nat)] ∧ (∀ e ∈ q, slt e.key k2 = true) ∧ slt x.key k2 = false)))
    (Hold.good ?_) (exitI.stable (Hold.good ?_).stable) ⟨hG, fun _ h => h.elim, ?_, HLe.refl _, c7, fun _ h => by simp at h⟩
    rfl hS (fun _ => rfl) (by decide) (fun w1 _ => hit H w1 (HLe.refl _)) (fun _ h => h.elim) ?_ ?_ ?_ ?_
  · rintro S pre H w H' w' hs hT ⟨h1, h2, h3⟩
    exact ⟨h1.trans hT.le, h2.turn hT (hs _ (by simp)), h3⟩
  · rintro S pre H w H' w' hs hT ⟨q, x, h1, h2, h3⟩
    exact ⟨q, x, h1, h2.turn hT (hs _ (by simp)), h3⟩
  · intro b hb
    simp at hb; subst hb
    exact ⟨fun h => h, c7.lt⟩
  · intro l x W
    (refine CW_region rfl ?_; refine S_op ?_; refine W_assignStr (by first | rfl | assumption) ?_; refine S_nil ?_)
    refine ⟨rfl, ?_⟩
    intro l X pre rest H W hx hS ⟨hGw, hXs, hbs, hle, c7, hpre⟩ _
    replace h5 := hle _ _ h5
    have hpl : pre.length < 1000000 := by have := congrArg List.length hx; simp at this; omega
    have hG := hGw
    have hS0' := hS
    cases hk : slt x.key k2 with
    | true =>
      (refine CW_block ?_; refine CW_block ?_; refine CW_seq ?_; refine CW_region rfl ?_; refine S_op ?_; refine W_moveStr (by first | rfl | assumption) ?_; refine S_op ?_; refine W_loadHL (by first | rfl | assumption) (by assumption) (by rfl) (by assumption) ?_; refine S_op ?_; refine W_sgeqB (by first | rfl | assumption) (by first | rfl | assumption) (by assumption) ?_; refine S_op ?_; refine W_assignBool (by first | rfl | assumption) ?_; refine S_nil ?_; refine CW_false (by first | rfl | assumption) ?_; refine CW_region rfl ?_; refine S_op ?_; refine W_loadM (by first | rfl | assumption) (by assumption) (by rfl) ?_; refine S_op ?_; refine W_add1 (by first | rfl | assumption) (by omega) ?_)
      (refine S_op0 (W_storeM (o := 0) (vs := [.int .i64 ((pre.length + 1 : Nat) : Int)]) (by rfl) (by rfl) c7 (by rfl) (OneCells.of_all (by rfl)) (by rfl) (Nat.le_of_ble_eq_true (by rfl)) ?_)); intro w hgb' hm'; replace hG := hG.grownBy hgb' (fun g h => by cases h; exact ⟨c7.out, c7h⟩); replace hS := hG.sub; replace c7 : Mut _ w c7b ([.int .i64 ((pre.length + 1 : Nat) : Int)]) := hm'; clear hm'; skip
      have hT : Turn (notIn X) H W H w := (Turn.refl hS0').grownBy hgb' (fun g h => by cases h; exact ⟨c7.out, .inr (hbs c7b (by simp)).1⟩)
      (refine S_nil ?_)
      exact ⟨H, hT, hG, fun j hj => ⟨(hXs j hj).1, Nat.lt_of_lt_of_le (hXs j hj).2 hT.size⟩, fun b hb => ⟨(hbs b hb).1, Nat.lt_of_lt_of_le (hbs b hb).2 hT.size⟩, hle, by rw [List.length_append]; exact c7, by
        intro e he
        rcases List.mem_append.1 he with h | h
        · exact hpre e h
        · simp at h; subst h; exact hk⟩
    | false =>
      (refine CW_block ?_; refine CW_block ?_; refine CW_seq ?_; refine CW_region rfl ?_; refine S_op ?_; refine W_moveStr (by first | rfl | assumption) ?_; refine S_op ?_; refine W_loadHL (by first | rfl | assumption) (by assumption) (by rfl) (by assumption) ?_; refine S_op ?_; refine W_sgeqB (by first | rfl | assumption) (by first | rfl | assumption) (by assumption) ?_; refine S_op ?_; refine W_assignBool (by first | rfl | assumption) ?_; refine S_nil ?_; refine CW_true (by first | rfl | assumption) ?_; refine CW_exit ?_; refine xblk_miss rfl ?_; refine xblk_miss rfl ?_)
      exact ⟨H, Turn.refl hS, rfl, hGw, hXs, hbs, pre, x, rfl, c7, hpre, hk⟩
  · rintro D X H' W' hD hM hS' hle' hXs hXD ⟨hG, hXs2, hbs, hle, c7, hpre⟩
    (refine CWD_seq ?_; refine CWD_region rfl ?_; refine S_op ?_; refine W_loadM (by first | rfl | assumption) (by assumption) (by rfl) ?_; refine S_op ?_; refine W_assignInt (by first | rfl | assumption) ?_; refine S_nil ?_; refine CWD_ret ?_)
    refine FinD_one hM hS' fun w' hT => ?_
    exact ⟨_, ResW_one (v := .int _ _) rfl, H', Turn.grow hG hT (fun k e => by subst e; exact (hXs2 _ hXD).1), by rw [ahead_all hpre]⟩
  · exact fun _ _ _ _ _ _ _ _ _ _ _ _ _ h => False.elim h
  · rintro i D X H' W' pre rest hx hD hM hS' hle' hXs hXD ⟨rfl, hG, hXs2, hbs, q, x, rfl, c7, hq, hk⟩
    (refine CWD_seq ?_; refine CWD_region rfl ?_; refine S_op ?_; refine W_loadM (by first | rfl | assumption) (by assumption) (by rfl) ?_; refine S_op ?_; refine W_assignInt (by first | rfl | assumption) ?_; refine S_nil ?_; refine CWD_ret ?_)
    refine FinD_one hM hS' fun w' hT => ?_
    exact ⟨_, ResW_one (v := .int _ _) rfl, H', Turn.grow hG hT (fun k e => by subst e; exact (hXs2 _ hXD).1), by rw [hx, List.append_assoc, List.singleton_append, ahead_split hq hk]⟩
def keysL (l : List Ent) : List Value := l.map fun e => .string e.key
theorem keysL_len (l : List Ent) : (keysL l).length = l.length := by simp [keysL]
theorem take_c (H : HF) (t : Tr) (k : ByteArray) (m : Int) (ht : Tr.At H t) (hb : t.items.length ≤ 1000000) : Fn Try.prog 18 [t.val, .string k, .int .i64 m] H fun v H' => IsSl 1 v ((fromL k t.items).take m.toNat).length (keysL ((fromL k t.items).take m.toNat)) H' := by
  obtain ⟨H0, rfl⟩ : ∃ H0, H0 = H := ⟨_, rfl⟩
  have hlen : (fromL k t.items).length ≤ 1000000 := Nat.le_trans (List.length_filter_le _ _) hb
  refine Fn_of_CWD Try.func18 rfl Try.ntmps18 Try.results18 rfl fun w0 hS => ?_; have hS0 := hS; have hG := Grow.refl hS
  (refine CWD_seq ?_; refine CWD_region rfl ?_)
  (refine S_op (W_box1 hS (by rfl) (by first | rfl | assumption) ?_)); intro H w _ hG' h5; replace hG := hG.trans hG'; replace hS := hG'.sub; replace ht := ht.mono hG'.le; clear hG'
  (refine S_op ?_; refine W_assignSl (by first | rfl | assumption) ?_; refine S_nil ?_; refine CWD_seq ?_; refine CWD_region rfl ?_)
  (refine S_op (W_alloc hS ?_)); intro w c7b hG' c7h c7; replace c7h := Nat.le_trans hG.below.size (Nat.le_of_eq c7h); replace hG := hG.trans hG'; replace hS := hG'.sub; clear hG'
  (refine S_nil ?_; refine CWD_seq ?_; refine CWD_seq ?_; refine CWD_region rfl ?_; refine S_op ?_; refine W_movePtr (by first | rfl | assumption) ?_; refine S_op ?_; refine W_moveStr (by first | rfl | assumption) ?_)
  (refine S_op ?_; refine W_call hS (by rfl) (entriesI_c _ t k ht) ?_); rintro v H w hG' hv; replace hG := hG.trans hG'; replace hS := hG'.sub; replace ht := ht.mono hG'.le; replace h5 := hG'.le _ _ h5; replace c7 := c7.grow hG'; clear hG'
  obtain ⟨gf, lb, hfc, rfl, hit⟩ := hv
  (refine S_nil ?_; refine CWD_block ?_)
  refine CWD_rangeBox (S := fun _ => False) (HoldO H0 w0 [c7b] 9 1 keysL (fun A n c pre H2 w2 => HLe H H2 ∧ Mut H2 w2 c7b [.slice A n c] ∧ n = pre.length ∧ (∀ a, A = some a → a.block ≠ c7b) ∧ (pre.length : Int) ≤ max m 0))
    (exitI 0 (HoldO H0 w0 [c7b] 9 1 (fun pre => keysL pre.dropLast) (fun A n c pre H2 w2 => Mut H2 w2 c7b [.slice A n c] ∧ n = pre.dropLast.length ∧ pre ≠ [] ∧ (pre.dropLast.length : Int) ≤ max m 0 ∧ m ≤ (pre.dropLast.length : Int))))
    (HoldO.good ?_) (exitI.stable (HoldO.good ?_).stable) ⟨hG, fun _ h => h.elim, ?_, none, 0, 0, Own.nil _ _ _ _ _, (fun _ h => by cases h), HLe.refl _, c7, rfl, (fun _ h => by cases h), by simp; omega⟩
    rfl hS (fun _ => rfl) (by decide) (fun w1 _ => hit H w1 (HLe.refl _)) (fun _ h => h.elim) ?_ ?_ ?_ ?_
  · rintro A n c S pre H w H' w' hs hT ⟨h1, h2, h3⟩
    exact ⟨h1.trans hT.le, h2.turn hT (hs _ (by simp)), h3⟩
  · rintro A n c S pre H w H' w' hs hT ⟨h2, h3⟩
    exact ⟨h2.turn hT (hs _ (by simp)), h3⟩
  · intro b hb
    simp at hb; subst hb
    exact ⟨fun h => h, c7.lt⟩
  · intro l x H1 W hS
    have hG := Grow.refl hS
    (refine CW_region rfl ?_)
    (refine S_op (W_alloc hS ?_)); intro w c8b hG' c8h c8; replace c8h := Nat.le_trans hG.below.size (Nat.le_of_eq c8h); replace hG := hG.trans hG'; replace hS := hG'.sub; clear hG'
    skip
    (refine S_op0 (W_storeM (o := 0) (vs := [.string x.key, .string x.val]) (by rfl) (by rfl) c8 (by rfl) (OneCells.of_all (by rfl)) (by rfl) (Nat.le_of_ble_eq_true (by rfl)) ?_)); intro w hgb' hm'; replace hG := hG.grownBy hgb' (fun g h => by cases h; exact ⟨c8.out, c8h⟩); replace hS := hG.sub; replace c8 : Mut _ w c8b ([.string x.key, .string x.val]) := hm'; clear hm'; clear hgb'
    (refine S_nil ?_)
    refine ⟨c8b, _, c8h, hG, c8, ?_⟩
    clear c8 hG hS
    rintro l X pre rest H W hx hS ⟨hGw, hXs, hbs, A, n, c, hown, hXA, hle, c7, rfl, hA7, hpm⟩ ⟨hX8, c8⟩
    replace h5 := hle _ _ h5
    have hpl : pre.length < 1000000 := by have := congrArg List.length hx; simp at this; omega
    have hG := hGw
    have hS0' := hS
    by_cases hk : m ≤ (pre.length : Int)
    · (refine CW_block ?_; refine CW_seq ?_; refine CW_seq ?_; refine CW_region rfl ?_; refine S_op ?_; refine W_loadM (by first | rfl | assumption) (by assumption) (by rfl) ?_; refine S_op ?_; refine W_len (by first | rfl | assumption) ?_; refine S_op ?_; refine W_loadHL (by first | rfl | assumption) (by assumption) (by rfl) (by assumption) ?_; refine S_op ?_; refine W_geqT (by first | rfl | assumption) (by first | rfl | assumption) (by first | omega | rfl) ?_; refine S_nil ?_; refine CW_true (by first | rfl | assumption) ?_; refine CW_exit ?_; refine xblk_miss rfl ?_)
      exact ⟨H, Turn.refl hS, rfl, hGw, hXs, hbs, A, _, c, by show Own _ _ _ _ _ _ _ _ (keysL (pre ++ [x]).dropLast); rw [List.dropLast_concat]; exact hown, hXA, c7, by simp, by simp, by simpa using hpm, by simpa using hk⟩
    · (refine CW_block ?_; refine CW_seq ?_; refine CW_seq ?_; refine CW_region rfl ?_; refine S_op ?_; refine W_loadM (by first | rfl | assumption) (by assumption) (by rfl) ?_; refine S_op ?_; refine W_len (by first | rfl | assumption) ?_; refine S_op ?_; refine W_loadHL (by first | rfl | assumption) (by assumption) (by rfl) (by assumption) ?_; refine S_op ?_; refine W_geqF (by first | rfl | assumption) (by first | rfl | assumption) (by first | omega | rfl) ?_; refine S_nil ?_; refine CW_false (by first | rfl | assumption) ?_; refine CW_skip ?_; refine CW_region rfl ?_; refine S_op ?_; refine W_loadM (by first | rfl | assumption) (by assumption) (by rfl) ?_; refine S_op ?_; refine W_field (by first | rfl | assumption) ?_; refine S_op ?_; refine W_loadM (by first | rfl | assumption) (by assumption) (by rfl) ?_)
      refine S_op ?_
      refine W_build1 (sz := 1) (v := .string x.key) hS (by omega) (by rfl) (by rfl) ?_
      intro H2 w2 b hG' hb' _ _
      have hT := hG'.turn (S := notIn X)
      have hsz2 := hG'.below.size
      replace hG := hG.trans hG'
      replace hS := hG'.sub
      replace hown := hown.grow hG'
      replace c7 := c7.grow hG'
      replace hle := hle.trans hG'.le
      clear hG' c8
      refine S_op ?_
      refine W_append (news := [.string x.key]) (by rfl) (by rfl) hG hown ((SlAt.of_row hb').cells hS) (by rfl) (by intro u hu; simp at hu; subst hu; rfl) (by decide) (by omega) (by omega) ?_
      intro A2 c2 w3 hG2 hown2 hgb hA2
      have h7A : (Value.slice A pre.length c).ownBlock ≠ some c7b := by
        cases A with
        | none => simp [Value.ownBlock]
        | some a => simpa [Value.ownBlock] using hA7 a rfl
      replace c7 := c7.other hgb h7A
      replace hT := hT.grownBy hgb (fun g h => by
        cases A with
        | none => simp [Value.ownBlock] at h
        | some a => simp [Value.ownBlock] at h; subst h; exact ⟨hown.out a rfl, .inr (hXA a rfl)⟩)
      have hn2 : ∀ a, A2 = some a → a.block ≠ c7b := by
        intro a ha
        rcases hA2 with ⟨rfl, _⟩ | ⟨g, rfl, hg⟩
        · exact hA7 a ha
        · cases ha; have := (hbs c7b (by simp)).2; show g ≠ c7b; omega
      have hX2 : ∀ a, A2 = some a → ¬ X a.block := by
        intro a ha h
        rcases hA2 with ⟨rfl, _⟩ | ⟨g, rfl, hg⟩
        · exact hXA a ha h
        · cases ha; have := (hXs g h).2; have := hT.size; omega
      replace hG := hG2
      replace hS := hG2.sub
      skip
      (refine S_op0 (W_storeM (o := 0) (vs := [.slice A2 (pre.length + 1) c2]) (by rfl) (by rfl) c7 (by rfl) (OneCells.of_all (by rfl)) (by rfl) (Nat.le_of_ble_eq_true (by rfl)) ?_)); intro w hgb' hm'; replace hG := hG.grownBy hgb' (fun g h => by cases h; exact ⟨c7.out, c7h⟩); replace hS := hG.sub; replace c7 : Mut _ w c7b ([.slice A2 (pre.length + 1) c2]) := hm'; clear hm'; skip
      replace hT := hT.grownBy hgb' (fun g h => by cases h; exact ⟨c7.out, .inr (hbs c7b (by simp)).1⟩)
      replace hown2 := hown2.other hgb' (fun a ha e => hn2 a ha (Option.some.inj e))
      (refine S_nil ?_)
      exact ⟨H2, hT, hG, fun j hj => ⟨(hXs j hj).1, Nat.lt_of_lt_of_le (hXs j hj).2 hT.size⟩, fun b hb => ⟨(hbs b hb).1, Nat.lt_of_lt_of_le (hbs b hb).2 hT.size⟩, A2, _, c2, by simpa [keysL] using hown2, hX2, hle, c7, by simp, hn2, by simp; omega⟩
  · rintro D X H' W' hD hM hS' hle' hXs hXD ⟨hG, hXs2, hbs, A, n, c, hown, hXA, hle, c7, rfl, hA7, hpm⟩
    have e : (fromL k t.items).take m.toNat = fromL k t.items := List.take_of_length_le (by omega)
    rw [e]
    (refine CWD_seq ?_; refine CWD_region rfl ?_; refine S_op ?_; refine W_loadM (by first | rfl | assumption) (by assumption) (by rfl) ?_; refine S_op ?_; refine W_assignSl (by first | rfl | assumption) ?_; refine S_nil ?_; refine CWD_ret ?_)
    refine FinD_one hM hS' fun w' hT => ?_
    have hG2 := Turn.grow hG hT (fun k e => by subst e; exact (hXs2 _ hXD).1)
    replace hown := hown.turn hT (fun a ha e => hXA a ha (e ▸ hXD))
    obtain ⟨H3, hle3, hG3, hsl3, _⟩ := hown.freeze hG2
    exact ⟨_, ResW_one (v := .slice _ _ _) rfl, H3, hG3, A, c, rfl, hown.cap, hsl3, by rw [keysL_len]; omega⟩
  · exact fun _ _ _ _ _ _ _ _ _ _ _ _ _ h => False.elim h
  · rintro i D X H' W' pre rest hx hD hM hS' hle' hXs hXD ⟨rfl, hG, hXs2, hbs, A, n, c, hown, hXA, c7, rfl, hne, hpm, hmp⟩
    obtain ⟨q, x, rfl⟩ : ∃ q x, pre = q ++ [x] := ⟨pre.dropLast, pre.getLast hne, (List.dropLast_concat_getLast hne).symm⟩
    simp only [List.dropLast_concat] at *
    have e : (fromL k t.items).take m.toNat = q := by
      rw [hx, List.append_assoc, List.take_append_of_le_length (by omega)]
      exact List.take_of_length_le (by omega)
    rw [e]
    (refine CWD_seq ?_; refine CWD_region rfl ?_; refine S_op ?_; refine W_loadM (by first | rfl | assumption) (by assumption) (by rfl) ?_; refine S_op ?_; refine W_assignSl (by first | rfl | assumption) ?_; refine S_nil ?_; refine CWD_ret ?_)
    refine FinD_one hM hS' fun w' hT => ?_
    have hG2 := Turn.grow hG hT (fun k e => by subst e; exact (hXs2 _ hXD).1)
    replace hown := hown.turn hT (fun a ha e => hXA a ha (e ▸ hXD))
    obtain ⟨H3, hle3, hG3, hsl3, _⟩ := hown.freeze hG2
    exact ⟨_, ResW_one (v := .slice _ _ _) rfl, H3, hG3, A, c, rfl, hown.cap, hsl3, by rw [keysL_len]; omega⟩
end Go.Proofs.Ytgaabmoknpifnaa
/- Arguments that are entries, opened. Conditions: each law's own premises. -/
namespace Go.Proofs.Ytgaabmoknpifnaa
open Go.Proofs Go.RowKit
set_option linter.unusedVariables false
def SmallE (e : Ent) : Prop := e.key.size ≤ reachBytes ∧ e.val.size ≤ reachBytes
def Small (l : List Ent) : Prop := ∀ e ∈ l, SmallE e
def entCell (e : Ent) : List Value := [.string e.key, .string e.val]
theorem entCells_flat (l : List Ent) : (l.map entCell).flatten = entCells l := by
  induction l with
  | nil => rfl
  | cons e l ih => simp [entCells, entCell, ih]
section
variable {H : Type} {enc : TypeId × Value → H} {W : World}
theorem readEnt {cs : List Value} (h : Trd enc Try.prog W 32 cs) : ∃ e, cs = entCell e ∧ SmallE e := by
  obtain ⟨h1, h2, h3, _⟩ := h.struct
  match cs, h1 with
  | [a, b], _ =>
    obtain ⟨s, h4, h5⟩ := h2.str
    obtain ⟨u, h6, h7⟩ := h3.str
    simp at h4 h6
    subst h4 h6
    exact ⟨⟨s, u⟩, rfl, h5, h7⟩
theorem readEnts {v : Value} (h : Trd enc Try.prog W 22 [v]) : ∃ A c l, v = .slice A l.length c ∧ l.length ≤ c ∧ EntsAt (snap W) A l ∧ Small l ∧ l.length * 32 ≤ reachBytes ∧ (A = none → l.length = 0 ∧ c = 0) := by
  obtain ⟨A, n, c, css, hv, h2, h3, h4, h5, h6, h7⟩ := h.slice
  obtain ⟨l, rfl, hl⟩ := decode entCell SmallE css (fun x hx => readEnt (h4 x hx).1)
  simp at h3 hv
  subst h3
  rw [entCells_flat] at h5
  exact ⟨A, c, l, hv, h2, h5, hl, h6, h7⟩
theorem openEnts {v : Value} (h : Opn enc Try.prog W 22 v) : ∃ A c l, v = .slice A l.length c ∧ l.length ≤ c ∧ EntsAt (snap W) A l ∧ Small l ∧ l.length * 32 ≤ reachBytes ∧ (A = none → l.length = 0 ∧ c = 0) := by
  obtain ⟨A, n, c, css, rfl, _⟩ := h.slice
  exact readEnts h.2
theorem openEnt {v : Value} (h : Opn enc Try.prog W 32 v) : ∃ e, v = .agg #[.string e.key, .string e.val] ∧ SmallE e := by
  obtain ⟨cs, rfl, _, _⟩ := h.struct
  obtain ⟨e, h1, h2⟩ := readEnt h.2
  simp [Value.cells] at h1
  subst h1
  exact ⟨e, rfl, h2⟩
end
end Go.Proofs.Ytgaabmoknpifnaa
/- Helpers of the laws of layer 11: awake, built, first; the reference's From and Count. Conditions: sizes. -/
namespace Go.Proofs.Ytgaabmoknpifnaa
open Go.Proofs Go.RowKit
set_option linter.unusedVariables false
attribute [local irreducible] CW CWD SeqW OpW CallV
set_option maxHeartbeats 4000000
theorem first_c (H : HF) (A : Option Addr) (c : Nat) (l : List Ent) (n : Int) (hc : l.length ≤ c) (hb : l.length ≤ 1000000) :
    Fn Try.prog 16 [.slice A l.length c, .int .i64 n] H fun v _ => v = .slice A (l.take n.toNat).length c := by
  refine Fn_of_CW Try.func16 rfl Try.ntmps16 Try.results16 rfl fun w hS => ?_; have hG := Grow.refl hS; have hS0 := hS
  (refine CW_seq ?_; refine CW_region rfl ?_; refine S_op ?_; refine W_assignSl (by first | rfl | assumption) ?_; refine S_nil ?_; refine CW_seq ?_; refine CW_region rfl ?_; refine S_op ?_; refine W_moveSl (by first | rfl | assumption) ?_; refine S_op ?_; refine W_moveInt (by first | rfl | assumption) ?_; refine S_op ?_; refine W_moveSl (by first | rfl | assumption) ?_; refine S_op ?_; refine W_len (by first | rfl | assumption) ?_)
  refine S_op ?_
  refine W_min2 (by rfl) (by rfl) (q := min n l.length) rfl ?_
  skip
  refine S_op ?_
  refine W_max2 (by rfl) (by rfl) (q := ((l.take n.toNat).length : Int)) (by rw [List.length_take]; omega) ?_
  have h2 : (l.take n.toNat).length ≤ c := by rw [List.length_take]; omega
  (refine S_op ?_; refine W_sliceHi (by first | rfl | assumption) (by first | rfl | assumption) (by omega) ?_; refine S_op ?_; refine W_assignSl (by first | rfl | assumption) ?_; refine S_nil ?_; refine CW_ret ?_)
  exact ⟨_, ResW_one (v := .slice _ _ _) rfl, H, hG, rfl⟩
theorem rFrom_c (H0 : HF) (A : Option Addr) (c : Nat) (l : List Ent) (k : ByteArray) (hl : EntsAt H0 A l) (hb : l.length ≤ 1000000) :
    Fn Try.prog 17 [.slice A l.length c, .string k] H0 fun v H' => IsEnts v (fromL k l) H' := by
  refine Fn_of_CW Try.func17 rfl Try.ntmps17 Try.results17 rfl fun w0 hS => ?_; have hG := Grow.refl hS
  (refine CW_seq ?_; refine CW_region rfl ?_; refine S_op ?_; refine W_assignSl (by first | rfl | assumption) ?_; refine S_nil ?_; refine CW_seq ?_; refine CW_region rfl ?_; refine S_op ?_; refine W_assignSl (by first | rfl | assumption) ?_; refine S_nil ?_; refine CW_seq ?_; refine CW_seq ?_; refine CW_region rfl ?_; refine S_op ?_; refine W_moveSl (by first | rfl | assumption) ?_; refine S_op ?_; refine W_len (by first | rfl | assumption) ?_; refine S_op ?_; refine W_moveInt (by first | rfl | assumption) ?_; refine S_nil ?_; refine CW_block ?_)
  refine CW_loopM [5, 6, 9, 10, 11, 12, 13, 14, 15, 16, 17, 18, 19, 20, 21, 22, 23, 24, 25, 26]
    (fun m u w2 => ∃ (i : Nat) (A2 : Option Addr) (c2 : Nat) (H2 : HF), u 9 = .int .i64 (i : Int) ∧ u 5 = .slice A2 (fromL k (l.take i)).length c2 ∧ Grow H0 w0 H2 w2 ∧ Own H2 w2 w0.heap.size 32 2 A2 (fromL k (l.take i)).length c2 (entCells (fromL k (l.take i))) ∧ i ≤ l.length ∧ l.length - i ≤ m)
    (m := l.length) ⟨0, none, 0, H0, rfl, rfl, hG, Own.nil _ _ _ _ _, by omega, by omega⟩ ?_
  rintro m u w ⟨i, A2, c2, H, h9, h5, hG, hown, hi, hm⟩
  have hS := hG.sub
  replace hl := hl.mono hG.le
  have hfl : (fromL k (l.take i)).length ≤ 1000000 := Nat.le_trans (List.length_filter_le _ _) (by simp; omega)
  by_cases hlt : i < l.length
  · obtain ⟨b, off, hA, hrow⟩ := hl.some hlt
    have hft := fromL_take (k := k) hlt
    cases hk : slt (ent l i).key k with
    | true =>
      rw [hk] at hft
      have e : fromL k (l.take (i + 1)) = fromL k (l.take i) := by rw [hft]; simp
      (refine CW_seq ?_; refine CW_region rfl ?_; refine S_op ?_; refine W_lssT (by first | rfl | assumption) (by first | rfl | assumption) (by first | omega | rfl) ?_; refine S_nil ?_; refine CW_seq ?_; refine CW_true (by first | rfl | assumption) ?_; refine CW_skip ?_; refine CW_seq ?_; refine CW_block ?_; refine CW_seq ?_; refine CW_region rfl ?_; refine S_op ?_; refine W_moveInt (by first | rfl | assumption) ?_; refine S_op ?_; refine W_assignInt (by first | rfl | assumption) ?_; refine S_nil ?_; refine CW_seq ?_; refine CW_region rfl ?_; refine S_op ?_; refine W_moveSl (by first | rfl | assumption) ?_; refine S_op ?_; refine W_moveInt (by first | rfl | assumption) ?_; refine S_op ?_; refine W_index (by first | rfl | assumption) (by first | rfl | assumption) (by first | assumption | omega | decide) (by first | rfl | assumption) ?_; refine S_op ?_; refine W_field (by first | rfl | assumption) ?_; refine S_op ?_; refine W_loadKey (by first | rfl | assumption) (by assumption) (by first | assumption | omega) (by assumption) ?_; refine S_op ?_; refine W_moveStr (by first | rfl | assumption) ?_; refine S_op ?_; refine W_sgeqB (by first | rfl | assumption) (by first | rfl | assumption) (by assumption) ?_; refine S_nil ?_; refine CW_false (by first | rfl | assumption) ?_; refine CW_skip ?_; refine CW_region rfl ?_; refine S_op ?_; refine W_add1 (by first | rfl | assumption) (by omega) ?_; refine S_op ?_; refine W_moveInt (by first | rfl | assumption) ?_; refine S_nil ?_)
      exact ⟨(by repeat (first | exact AgreeOff.over | refine AgreeOff.upd rfl ?_ | refine AgreeOff.over2 rfl ?_)), m - 1, by omega, i + 1, A2, c2, H, rfl, by rw [e]; exact h5, hG, by rw [e]; exact hown, by omega, by omega⟩
    | false =>
      rw [hk] at hft
      have e : fromL k (l.take (i + 1)) = fromL k (l.take i) ++ [ent l i] := by rw [hft]; simp
      have e2 : (fromL k (l.take (i + 1))).length = (fromL k (l.take i)).length + 1 := by rw [e]; simp
      (refine CW_seq ?_; refine CW_region rfl ?_; refine S_op ?_; refine W_lssT (by first | rfl | assumption) (by first | rfl | assumption) (by first | omega | rfl) ?_; refine S_nil ?_; refine CW_seq ?_; refine CW_true (by first | rfl | assumption) ?_; refine CW_skip ?_; refine CW_seq ?_; refine CW_block ?_; refine CW_seq ?_; refine CW_region rfl ?_; refine S_op ?_; refine W_moveInt (by first | rfl | assumption) ?_; refine S_op ?_; refine W_assignInt (by first | rfl | assumption) ?_; refine S_nil ?_; refine CW_seq ?_; refine CW_region rfl ?_; refine S_op ?_; refine W_moveSl (by first | rfl | assumption) ?_; refine S_op ?_; refine W_moveInt (by first | rfl | assumption) ?_; refine S_op ?_; refine W_index (by first | rfl | assumption) (by first | rfl | assumption) (by first | assumption | omega | decide) (by first | rfl | assumption) ?_; refine S_op ?_; refine W_field (by first | rfl | assumption) ?_; refine S_op ?_; refine W_loadKey (by first | rfl | assumption) (by assumption) (by first | assumption | omega) (by assumption) ?_; refine S_op ?_; refine W_moveStr (by first | rfl | assumption) ?_; refine S_op ?_; refine W_sgeqB (by first | rfl | assumption) (by first | rfl | assumption) (by assumption) ?_; refine S_nil ?_; refine CW_true (by first | rfl | assumption) ?_; refine CW_region rfl ?_; refine S_op ?_; refine W_moveSl (by first | rfl | assumption) ?_; refine S_op ?_; refine W_moveSl (by first | rfl | assumption) ?_; refine S_op ?_; refine W_moveInt (by first | rfl | assumption) ?_; refine S_op ?_; refine W_index (by first | rfl | assumption) (by first | rfl | assumption) (by first | assumption | omega | decide) (by first | rfl | assumption) ?_; refine S_op ?_; refine W_loadEnt (by first | rfl | assumption) (by assumption) (by first | assumption | omega) (by assumption) ?_)
      refine S_op ?_
      refine W_build1 (sz := 2) (v := .agg #[.string (ent l i).key, .string (ent l i).val]) hS (by omega) (by rfl) (by rfl) ?_
      intro H w b hG' hb' _ _
      replace hG := hG.trans hG'
      replace hS := hG'.sub
      replace hl := hl.mono hG'.le
      replace hown := hown.grow hG'
      clear hG'
      refine S_op ?_
      refine W_append (news := entCells [ent l i]) (by rfl) (by rfl) hG hown ((SlAt.of_row hb').cells hS) (by rfl) (entCells_one _) (by decide) (by omega) (by omega) ?_
      intro A2 c2 w hG hown _ hA3
      clear hA3
      rw [← entCells_append] at hown
      replace hS := hG.sub
      rw [← e] at hown
      (refine S_op ?_; refine W_assignSl (by first | rfl | assumption) ?_; refine S_nil ?_; refine CW_region rfl ?_; refine S_op ?_; refine W_add1 (by first | rfl | assumption) (by omega) ?_; refine S_op ?_; refine W_moveInt (by first | rfl | assumption) ?_; refine S_nil ?_)
      exact ⟨(by repeat (first | exact AgreeOff.over | refine AgreeOff.upd rfl ?_ | refine AgreeOff.over2 rfl ?_)), m - 1, by omega, i + 1, A2, c2, H, rfl, by rw [e2]; rfl, hG, by rw [e2]; exact hown, by omega, by omega⟩
  · have hin : i = l.length := by omega
    subst hin
    rw [List.take_length] at h5 hown
    (refine CW_seq ?_; refine CW_region rfl ?_; refine S_op ?_; refine W_lssF (by first | rfl | assumption) (by first | rfl | assumption) (by first | omega | rfl) ?_; refine S_nil ?_; refine CW_seq ?_; refine CW_false (by first | rfl | assumption) ?_; refine CW_exit ?_; refine CW_seq ?_; refine CW_region rfl ?_; refine S_op ?_; refine W_moveSl (by first | rfl | assumption) ?_; refine S_op ?_; refine W_assignSl (by first | rfl | assumption) ?_; refine S_nil ?_; refine CW_ret ?_)
    obtain ⟨H3, hle3, hG3, hsl3, _⟩ := hown.freeze hG
    exact ⟨_, ResW_one (v := .slice _ _ _) rfl, H3, hG3, A2, c2, rfl, hown.cap, hsl3⟩
def countL (k k2 : ByteArray) (l : List Ent) : Nat := (l.filter fun e => !slt e.key k && slt e.key k2).length
theorem countL_take {k k2 : ByteArray} {l : List Ent} {i : Nat} (h : i < l.length) : countL k k2 (l.take (i + 1)) = countL k k2 (l.take i) + (if (!slt (ent l i).key k && slt (ent l i).key k2) = true then 1 else 0) := by
  have e : l[i] = ent l i := by simp [ent, h]
  rw [take_succ' h, countL, List.filter_append, List.length_append, e]
  congr 1
  cases hs : (!slt (ent l i).key k && slt (ent l i).key k2) <;> simp [hs]
theorem rCount_c (H : HF) (A : Option Addr) (c : Nat) (l : List Ent) (k k2 : ByteArray) (hl : EntsAt H A l) (hb : l.length ≤ 1000000) :
    Fn Try.prog 20 [.slice A l.length c, .string k, .string k2] H fun v _ => v = .int .i64 (countL k k2 l : Nat) := by
  refine Fn_of_CW Try.func20 rfl Try.ntmps20 Try.results20 rfl fun w hS => ?_; have hG := Grow.refl hS; have hS0 := hS
  (refine CW_seq ?_; refine CW_region rfl ?_; refine S_op ?_; refine W_assignInt (by first | rfl | assumption) ?_; refine S_nil ?_; refine CW_seq ?_; refine CW_region rfl ?_; refine S_op ?_; refine W_assignInt (by first | rfl | assumption) ?_; refine S_nil ?_; refine CW_seq ?_; refine CW_seq ?_; refine CW_region rfl ?_; refine S_op ?_; refine W_moveSl (by first | rfl | assumption) ?_; refine S_op ?_; refine W_len (by first | rfl | assumption) ?_; refine S_op ?_; refine W_moveInt (by first | rfl | assumption) ?_; refine S_nil ?_; refine CW_block ?_)
  refine CW_loopM [7, 8, 11, 12, 13, 14, 15, 16, 17, 18, 19, 20, 21, 22, 23, 24, 25, 26, 27, 28, 29, 30, 31, 32]
    (fun m u w2 => ∃ (i : Nat), u 11 = .int .i64 (i : Int) ∧ u 7 = .int .i64 (countL k k2 (l.take i) : Nat) ∧ w2 = w ∧ i ≤ l.length ∧ l.length - i ≤ m)
    (m := l.length) ⟨0, rfl, rfl, rfl, by omega, by omega⟩ ?_
  rintro m u w2 ⟨i, h11, h7, rfl, hi, hm⟩
  have hfl : countL k k2 (l.take i) ≤ 1000000 := Nat.le_trans (List.length_filter_le _ _) (by simp; omega)
  by_cases hlt : i < l.length
  · obtain ⟨b, off, hA, hrow⟩ := hl.some hlt
    have hft := countL_take (k := k) (k2 := k2) hlt
    cases hk : slt (ent l i).key k with
    | true =>
      rw [hk] at hft
      simp at hft
      (refine CW_seq ?_; refine CW_region rfl ?_; refine S_op ?_; refine W_lssT (by first | rfl | assumption) (by first | rfl | assumption) (by first | omega | rfl) ?_; refine S_nil ?_; refine CW_seq ?_; refine CW_true (by first | rfl | assumption) ?_; refine CW_skip ?_; refine CW_seq ?_; refine CW_block ?_; refine CW_seq ?_; refine CW_region rfl ?_; refine S_op ?_; refine W_moveInt (by first | rfl | assumption) ?_; refine S_op ?_; refine W_assignInt (by first | rfl | assumption) ?_; refine S_nil ?_; refine CW_seq ?_; refine CW_region rfl ?_; refine S_op ?_; refine W_moveSl (by first | rfl | assumption) ?_; refine S_op ?_; refine W_moveInt (by first | rfl | assumption) ?_; refine S_op ?_; refine W_index (by first | rfl | assumption) (by first | rfl | assumption) (by first | assumption | omega | decide) (by first | rfl | assumption) ?_; refine S_op ?_; refine W_field (by first | rfl | assumption) ?_; refine S_op ?_; refine W_loadKey (by first | rfl | assumption) (by assumption) (by first | assumption | omega) (by assumption) ?_; refine S_op ?_; refine W_moveStr (by first | rfl | assumption) ?_; refine S_op ?_; refine W_sgeqB (by first | rfl | assumption) (by first | rfl | assumption) (by assumption) ?_; refine S_op ?_; refine W_moveBool (by first | rfl | assumption) ?_; refine S_pass (by rfl) ?_; refine S_pass (by rfl) ?_; refine S_pass (by rfl) ?_; refine S_pass (by rfl) ?_; refine S_pass (by rfl) ?_; refine S_pass (by rfl) ?_; refine S_pass (by rfl) ?_; refine S_op ?_; refine W_pickF (by first | rfl | assumption) (by first | rfl | assumption) ?_; refine S_nil ?_; refine CW_false (by first | rfl | assumption) ?_; refine CW_skip ?_; refine CW_region rfl ?_; refine S_op ?_; refine W_add1 (by first | rfl | assumption) (by omega) ?_; refine S_op ?_; refine W_moveInt (by first | rfl | assumption) ?_; refine S_nil ?_)
      exact ⟨(by repeat (first | exact AgreeOff.over | refine AgreeOff.upd rfl ?_ | refine AgreeOff.over2 rfl ?_)), m - 1, by omega, i + 1, rfl, by rw [hft]; exact h7, rfl, by omega, by omega⟩
    | false =>
      cases hk2 : slt (ent l i).key k2 with
      | true =>
        rw [hk, hk2] at hft
        simp at hft
        (refine CW_seq ?_; refine CW_region rfl ?_; refine S_op ?_; refine W_lssT (by first | rfl | assumption) (by first | rfl | assumption) (by first | omega | rfl) ?_; refine S_nil ?_; refine CW_seq ?_; refine CW_true (by first | rfl | assumption) ?_; refine CW_skip ?_; refine CW_seq ?_; refine CW_block ?_; refine CW_seq ?_; refine CW_region rfl ?_; refine S_op ?_; refine W_moveInt (by first | rfl | assumption) ?_; refine S_op ?_; refine W_assignInt (by first | rfl | assumption) ?_; refine S_nil ?_; refine CW_seq ?_; refine CW_region rfl ?_; refine S_op ?_; refine W_moveSl (by first | rfl | assumption) ?_; refine S_op ?_; refine W_moveInt (by first | rfl | assumption) ?_; refine S_op ?_; refine W_index (by first | rfl | assumption) (by first | rfl | assumption) (by first | assumption | omega | decide) (by first | rfl | assumption) ?_; refine S_op ?_; refine W_field (by first | rfl | assumption) ?_; refine S_op ?_; refine W_loadKey (by first | rfl | assumption) (by assumption) (by first | assumption | omega) (by assumption) ?_; refine S_op ?_; refine W_moveStr (by first | rfl | assumption) ?_; refine S_op ?_; refine W_sgeqB (by first | rfl | assumption) (by first | rfl | assumption) (by assumption) ?_; refine S_op ?_; refine W_moveBool (by first | rfl | assumption) ?_; refine S_want (by rfl) ?_; refine W_moveSl (by first | rfl | assumption) ?_; refine S_want (by rfl) ?_; refine W_moveInt (by first | rfl | assumption) ?_; refine S_want (by rfl) ?_; refine W_index (by first | rfl | assumption) (by first | rfl | assumption) (by first | assumption | omega | decide) (by first | rfl | assumption) ?_; refine S_want (by rfl) ?_; refine W_field (by first | rfl | assumption) ?_; refine S_want (by rfl) ?_; refine W_loadKey (by first | rfl | assumption) (by assumption) (by first | assumption | omega) (by assumption) ?_; refine S_want (by rfl) ?_; refine W_moveStr (by first | rfl | assumption) ?_; refine S_want (by rfl) ?_; refine W_slssB (by first | rfl | assumption) (by first | rfl | assumption) (by assumption) ?_; refine S_op ?_; refine W_pickT (by first | rfl | assumption) (by first | rfl | assumption) ?_; refine S_nil ?_; refine CW_true (by first | rfl | assumption) ?_; refine CW_region rfl ?_; refine S_op ?_; refine W_moveInt (by first | rfl | assumption) ?_; refine S_op ?_; refine W_add1 (by first | rfl | assumption) (by omega) ?_; refine S_op ?_; refine W_assignInt (by first | rfl | assumption) ?_; refine S_nil ?_; refine CW_region rfl ?_; refine S_op ?_; refine W_add1 (by first | rfl | assumption) (by omega) ?_; refine S_op ?_; refine W_moveInt (by first | rfl | assumption) ?_; refine S_nil ?_)
        exact ⟨(by repeat (first | exact AgreeOff.over | refine AgreeOff.upd rfl ?_ | refine AgreeOff.over2 rfl ?_)), m - 1, by omega, i + 1, rfl, by rw [hft]; rfl, rfl, by omega, by omega⟩
      | false =>
        rw [hk, hk2] at hft
        simp at hft
        (refine CW_seq ?_; refine CW_region rfl ?_; refine S_op ?_; refine W_lssT (by first | rfl | assumption) (by first | rfl | assumption) (by first | omega | rfl) ?_; refine S_nil ?_; refine CW_seq ?_; refine CW_true (by first | rfl | assumption) ?_; refine CW_skip ?_; refine CW_seq ?_; refine CW_block ?_; refine CW_seq ?_; refine CW_region rfl ?_; refine S_op ?_; refine W_moveInt (by first | rfl | assumption) ?_; refine S_op ?_; refine W_assignInt (by first | rfl | assumption) ?_; refine S_nil ?_; refine CW_seq ?_; refine CW_region rfl ?_; refine S_op ?_; refine W_moveSl (by first | rfl | assumption) ?_; refine S_op ?_; refine W_moveInt (by first | rfl | assumption) ?_; refine S_op ?_; refine W_index (by first | rfl | assumption) (by first | rfl | assumption) (by first | assumption | omega | decide) (by first | rfl | assumption) ?_; refine S_op ?_; refine W_field (by first | rfl | assumption) ?_; refine S_op ?_; refine W_loadKey (by first | rfl | assumption) (by assumption) (by first | assumption | omega) (by assumption) ?_; refine S_op ?_; refine W_moveStr (by first | rfl | assumption) ?_; refine S_op ?_; refine W_sgeqB (by first | rfl | assumption) (by first | rfl | assumption) (by assumption) ?_; refine S_op ?_; refine W_moveBool (by first | rfl | assumption) ?_; refine S_want (by rfl) ?_; refine W_moveSl (by first | rfl | assumption) ?_; refine S_want (by rfl) ?_; refine W_moveInt (by first | rfl | assumption) ?_; refine S_want (by rfl) ?_; refine W_index (by first | rfl | assumption) (by first | rfl | assumption) (by first | assumption | omega | decide) (by first | rfl | assumption) ?_; refine S_want (by rfl) ?_; refine W_field (by first | rfl | assumption) ?_; refine S_want (by rfl) ?_; refine W_loadKey (by first | rfl | assumption) (by assumption) (by first | assumption | omega) (by assumption) ?_; refine S_want (by rfl) ?_; refine W_moveStr (by first | rfl | assumption) ?_; refine S_want (by rfl) ?_; refine W_slssB (by first | rfl | assumption) (by first | rfl | assumption) (by assumption) ?_; refine S_op ?_; refine W_pickT (by first | rfl | assumption) (by first | rfl | assumption) ?_; refine S_nil ?_; refine CW_false (by first | rfl | assumption) ?_; refine CW_skip ?_; refine CW_region rfl ?_; refine S_op ?_; refine W_add1 (by first | rfl | assumption) (by omega) ?_; refine S_op ?_; refine W_moveInt (by first | rfl | assumption) ?_; refine S_nil ?_)
        exact ⟨(by repeat (first | exact AgreeOff.over | refine AgreeOff.upd rfl ?_ | refine AgreeOff.over2 rfl ?_)), m - 1, by omega, i + 1, rfl, by rw [hft]; exact h7, rfl, by omega, by omega⟩
  · have hin : i = l.length := by omega
    subst hin
    rw [List.take_length] at h7
    (refine CW_seq ?_; refine CW_region rfl ?_; refine S_op ?_; refine W_lssF (by first | rfl | assumption) (by first | rfl | assumption) (by first | omega | rfl) ?_; refine S_nil ?_; refine CW_seq ?_; refine CW_false (by first | rfl | assumption) ?_; refine CW_exit ?_; refine CW_seq ?_; refine CW_region rfl ?_; refine S_op ?_; refine W_moveInt (by first | rfl | assumption) ?_; refine S_op ?_; refine W_assignInt (by first | rfl | assumption) ?_; refine S_nil ?_; refine CW_ret ?_)
    exact ⟨_, ResW_one (v := .int _ _) rfl, H, hG, rfl⟩
end Go.Proofs.Ytgaabmoknpifnaa
/- tree: halves, leaves, branches: walked. Conditions: sizes. -/
namespace Go.Proofs.Ytgaabmoknpifnaa
open Go.Proofs Go.RowKit
set_option linter.unusedVariables false
attribute [local irreducible] CW SeqW OpW
set_option maxHeartbeats 4000000
theorem halves_Ent (H : HF) (A : Option Addr) (n c : Nat) (hc : n ≤ c) (hb : n ≤ 1000000) :
    Fn Try.prog 90 [.slice A n c] H fun v _ => v = .tuple #[.slice A ((n + 1) / 2) c, .slice (slAddr A c ((n + 1) / 2) 2) (n - (n + 1) / 2) (c - (n + 1) / 2)] := by
  refine Fn_of_CW Try.func90 rfl Try.ntmps90 Try.results90 rfl fun w hS => ?_; have hG := Grow.refl hS; have hS0 := hS
  (refine CW_seq ?_; refine CW_region rfl ?_; refine S_op ?_; refine W_assignSl (by first | rfl | assumption) ?_; refine S_op ?_; refine W_assignSl (by first | rfl | assumption) ?_; refine S_nil ?_; refine CW_seq ?_; refine CW_region rfl ?_; refine S_op ?_; refine W_moveSl (by first | rfl | assumption) ?_; refine S_op ?_; refine W_len (by first | rfl | assumption) ?_; refine S_op ?_; refine W_add1 (by first | rfl | assumption) (by omega) ?_; refine S_op ?_; refine W_quo2 (by first | rfl | assumption) (by omega) ?_; refine S_op ?_; refine W_assignInt (by first | rfl | assumption) ?_; refine S_nil ?_; refine CW_seq ?_)
  apply CW_region_grow [_, _, _, _, _, _, _, _] [none, none, none, none, none, none, none, none] [some 9, some 10, some 11, some 12, some 13, some 14, some 2, some 3] [9, 10, 11, 12, 13, 14, 2, 3] mixed rfl rfl rfl rfl (by decide) rfl (by assumption)
  · ((apply steps_cons; case h1 => (apply A_pure; intro c u H' w' hG; have hS' := hG.sub; have hS2' := hG.subOld; (repeat (first | refine depGo_eq rfl rfl rfl ?_ | (refine depGo_fact rfl rfl rfl ?_; intro v hv) | refine depGo_skip rfl ?_ | refine depGo_none rfl ?_)); apply Pure1.mk; intro K hk; exact W_moveSl (by first | rfl | assumption) hk)); (apply steps_cons; case h1 => (apply A_pure; intro c u H' w' hG; have hS' := hG.sub; have hS2' := hG.subOld; (repeat (first | refine depGo_eq rfl rfl rfl ?_ | (refine depGo_fact rfl rfl rfl ?_; intro v hv) | refine depGo_skip rfl ?_ | refine depGo_none rfl ?_)); apply Pure1.mk; intro K hk; exact W_moveInt (by first | rfl | assumption) hk)); (apply steps_cons; case h1 => (apply A_pure; intro c u H' w' hG; have hS' := hG.sub; have hS2' := hG.subOld; (repeat (first | refine depGo_eq rfl rfl rfl ?_ | (refine depGo_fact rfl rfl rfl ?_; intro v hv) | refine depGo_skip rfl ?_ | refine depGo_none rfl ?_)); apply Pure1.mk; intro K hk; exact W_sliceHi (by first | rfl | assumption) (by first | rfl | assumption) (by omega) hk)); (apply steps_cons; case h1 => (apply A_pure; intro c u H' w' hG; have hS' := hG.sub; have hS2' := hG.subOld; (repeat (first | refine depGo_eq rfl rfl rfl ?_ | (refine depGo_fact rfl rfl rfl ?_; intro v hv) | refine depGo_skip rfl ?_ | refine depGo_none rfl ?_)); apply Pure1.mk; intro K hk; exact W_moveSl (by first | rfl | assumption) hk)); (apply steps_cons; case h1 => (apply A_pure; intro c u H' w' hG; have hS' := hG.sub; have hS2' := hG.subOld; (repeat (first | refine depGo_eq rfl rfl rfl ?_ | (refine depGo_fact rfl rfl rfl ?_; intro v hv) | refine depGo_skip rfl ?_ | refine depGo_none rfl ?_)); apply Pure1.mk; intro K hk; exact W_moveInt (by first | rfl | assumption) hk)); (apply steps_cons; case h1 => (apply A_pure; intro c u H' w' hG; have hS' := hG.sub; have hS2' := hG.subOld; (repeat (first | refine depGo_eq rfl rfl rfl ?_ | (refine depGo_fact rfl rfl rfl ?_; intro v hv) | refine depGo_skip rfl ?_ | refine depGo_none rfl ?_)); apply Pure1.mk; intro K hk; exact W_sliceLo (by first | rfl | assumption) (by first | rfl | assumption) (by omega) hk)); (apply steps_cons; case h1 => (apply A_pure; intro c u H' w' hG; have hS' := hG.sub; have hS2' := hG.subOld; (repeat (first | refine depGo_eq rfl rfl rfl ?_ | (refine depGo_fact rfl rfl rfl ?_; intro v hv) | refine depGo_skip rfl ?_ | refine depGo_none rfl ?_)); apply Pure1.mk; intro K hk; exact W_assignSl (by first | rfl | assumption) hk)); (apply steps_cons; case h1 => (apply A_pure; intro c u H' w' hG; have hS' := hG.sub; have hS2' := hG.subOld; (repeat (first | refine depGo_eq rfl rfl rfl ?_ | (refine depGo_fact rfl rfl rfl ?_; intro v hv) | refine depGo_skip rfl ?_ | refine depGo_none rfl ?_)); apply Pure1.mk; intro K hk; exact W_assignSl (by first | rfl | assumption) hk)); exact trivial)
  · (intro H' w' hG; (repeat (first | refine fin_eq rfl rfl ?_ | (refine fin_fact rfl ?_; intro v hv) | refine fin_none rfl ?_)); refine fin_nil ?_)
    (refine CW_ret ?_)
    exact ⟨_, ResW_two (v1 := .slice _ _ _) (v2 := .slice _ _ _) rfl rfl, _, by assumption, rfl⟩
theorem halves_Node (H : HF) (A : Option Addr) (n c : Nat) (hc : n ≤ c) (hb : n ≤ 1000000) :
    Fn Try.prog 81 [.slice A n c] H fun v _ => v = .tuple #[.slice A ((n + 1) / 2) c, .slice (slAddr A c ((n + 1) / 2) 1) (n - (n + 1) / 2) (c - (n + 1) / 2)] := by
  refine Fn_of_CW Try.func81 rfl Try.ntmps81 Try.results81 rfl fun w hS => ?_; have hG := Grow.refl hS; have hS0 := hS
  (refine CW_seq ?_; refine CW_region rfl ?_; refine S_op ?_; refine W_assignSl (by first | rfl | assumption) ?_; refine S_op ?_; refine W_assignSl (by first | rfl | assumption) ?_; refine S_nil ?_; refine CW_seq ?_; refine CW_region rfl ?_; refine S_op ?_; refine W_moveSl (by first | rfl | assumption) ?_; refine S_op ?_; refine W_len (by first | rfl | assumption) ?_; refine S_op ?_; refine W_add1 (by first | rfl | assumption) (by omega) ?_; refine S_op ?_; refine W_quo2 (by first | rfl | assumption) (by omega) ?_; refine S_op ?_; refine W_assignInt (by first | rfl | assumption) ?_; refine S_nil ?_; refine CW_seq ?_)
  apply CW_region_grow [_, _, _, _, _, _, _, _] [none, none, none, none, none, none, none, none] [some 9, some 10, some 11, some 12, some 13, some 14, some 2, some 3] [9, 10, 11, 12, 13, 14, 2, 3] mixed rfl rfl rfl rfl (by decide) rfl (by assumption)
  · ((apply steps_cons; case h1 => (apply A_pure; intro c u H' w' hG; have hS' := hG.sub; have hS2' := hG.subOld; (repeat (first | refine depGo_eq rfl rfl rfl ?_ | (refine depGo_fact rfl rfl rfl ?_; intro v hv) | refine depGo_skip rfl ?_ | refine depGo_none rfl ?_)); apply Pure1.mk; intro K hk; exact W_moveSl (by first | rfl | assumption) hk)); (apply steps_cons; case h1 => (apply A_pure; intro c u H' w' hG; have hS' := hG.sub; have hS2' := hG.subOld; (repeat (first | refine depGo_eq rfl rfl rfl ?_ | (refine depGo_fact rfl rfl rfl ?_; intro v hv) | refine depGo_skip rfl ?_ | refine depGo_none rfl ?_)); apply Pure1.mk; intro K hk; exact W_moveInt (by first | rfl | assumption) hk)); (apply steps_cons; case h1 => (apply A_pure; intro c u H' w' hG; have hS' := hG.sub; have hS2' := hG.subOld; (repeat (first | refine depGo_eq rfl rfl rfl ?_ | (refine depGo_fact rfl rfl rfl ?_; intro v hv) | refine depGo_skip rfl ?_ | refine depGo_none rfl ?_)); apply Pure1.mk; intro K hk; exact W_sliceHi (by first | rfl | assumption) (by first | rfl | assumption) (by omega) hk)); (apply steps_cons; case h1 => (apply A_pure; intro c u H' w' hG; have hS' := hG.sub; have hS2' := hG.subOld; (repeat (first | refine depGo_eq rfl rfl rfl ?_ | (refine depGo_fact rfl rfl rfl ?_; intro v hv) | refine depGo_skip rfl ?_ | refine depGo_none rfl ?_)); apply Pure1.mk; intro K hk; exact W_moveSl (by first | rfl | assumption) hk)); (apply steps_cons; case h1 => (apply A_pure; intro c u H' w' hG; have hS' := hG.sub; have hS2' := hG.subOld; (repeat (first | refine depGo_eq rfl rfl rfl ?_ | (refine depGo_fact rfl rfl rfl ?_; intro v hv) | refine depGo_skip rfl ?_ | refine depGo_none rfl ?_)); apply Pure1.mk; intro K hk; exact W_moveInt (by first | rfl | assumption) hk)); (apply steps_cons; case h1 => (apply A_pure; intro c u H' w' hG; have hS' := hG.sub; have hS2' := hG.subOld; (repeat (first | refine depGo_eq rfl rfl rfl ?_ | (refine depGo_fact rfl rfl rfl ?_; intro v hv) | refine depGo_skip rfl ?_ | refine depGo_none rfl ?_)); apply Pure1.mk; intro K hk; exact W_sliceLo (by first | rfl | assumption) (by first | rfl | assumption) (by omega) hk)); (apply steps_cons; case h1 => (apply A_pure; intro c u H' w' hG; have hS' := hG.sub; have hS2' := hG.subOld; (repeat (first | refine depGo_eq rfl rfl rfl ?_ | (refine depGo_fact rfl rfl rfl ?_; intro v hv) | refine depGo_skip rfl ?_ | refine depGo_none rfl ?_)); apply Pure1.mk; intro K hk; exact W_assignSl (by first | rfl | assumption) hk)); (apply steps_cons; case h1 => (apply A_pure; intro c u H' w' hG; have hS' := hG.sub; have hS2' := hG.subOld; (repeat (first | refine depGo_eq rfl rfl rfl ?_ | (refine depGo_fact rfl rfl rfl ?_; intro v hv) | refine depGo_skip rfl ?_ | refine depGo_none rfl ?_)); apply Pure1.mk; intro K hk; exact W_assignSl (by first | rfl | assumption) hk)); exact trivial)
  · (intro H' w' hG; (repeat (first | refine fin_eq rfl rfl ?_ | (refine fin_fact rfl ?_; intro v hv) | refine fin_none rfl ?_)); refine fin_nil ?_)
    (refine CW_ret ?_)
    exact ⟨_, ResW_two (v1 := .slice _ _ _) (v2 := .slice _ _ _) rfl rfl, _, by assumption, rfl⟩
theorem HLe.none {H H' : HF} (h : HLe H H') {b : Nat} (hb : H' b = none) : H b = none := by
  cases e : H b with
  | none => rfl
  | some o => rw [h b o e] at hb; cases hb
/-- A slice of nodes. -/
def NdsAt (H : HF) (h : Nat) (v : Value) (ks : List (Nd h)) : Prop := ∃ B d, v = .slice B ks.length d ∧ ks.length ≤ d ∧ SlAt H B (ks.map Nd.ptr) ∧ AllAt H h ks
theorem NdsAt.mono {H H' : HF} {h : Nat} {v : Value} {ks : List (Nd h)} (hk : NdsAt H h v ks) (hle : HLe H H') : NdsAt H' h v ks := by
  obtain ⟨B, d, h1, h2, h3, h4⟩ := hk
  exact ⟨B, d, h1, h2, h3.mono hle, h4.mono hle⟩
def half (n : Nat) : Nat := (n + 1) / 2
/-- One node, in a row without room. -/
def OneAt (H0 H : HF) (h : Nat) (v : Value) (x : Nd h) : Prop := ∃ g E, v = .slice (some ⟨g, 0, none⟩) 1 1 ∧ H g = some (.cells #[x.ptr] E (0, 0)) ∧ NodeAt H h x ∧ H0 x.blk = none
theorem OneAt.mono {H0 H H' : HF} {h : Nat} {v : Value} {x : Nd h} (hk : OneAt H0 H h v x) (hle : HLe H H') : OneAt H0 H' h v x := by
  obtain ⟨g, E, h1, h2, h3, h4⟩ := hk
  exact ⟨g, E, h1, hle _ _ h2, h3.mono hle, h4⟩
theorem OneAt.nds {H0 H : HF} {h : Nat} {v : Value} {x : Nd h} (hk : OneAt H0 H h v x) : NdsAt H h v [x] := by
  obtain ⟨g, E, rfl, h2, h3, h4⟩ := hk
  refine ⟨_, 1, rfl, Nat.le_refl _, SlAt.of_row h2, fun k hk => ?_⟩
  simp at hk
  subst hk; exact h3
/-- What leaves makes. -/
def leavesOut (l : List Ent) (out : List (Nd 0)) : Prop :=
  (l.length = 0 ∧ out = []) ∨ (1 ≤ l.length ∧ l.length ≤ 4 ∧ ∃ b, out = [.leaf b l]) ∨ (4 < l.length ∧ ∃ b1 b2, out = [.leaf b1 (l.take (half l.length)), .leaf b2 (l.drop (half l.length))])
theorem leaves1_c (H : HF) (A : Option Addr) (c : Nat) (l : List Ent) (hl : EntsAt H A l) (hc : l.length ≤ c) (hb : leafB l = true) :
    Fn Try.prog 79 [.slice A l.length c] H fun v H' => ∃ b, OneAt H H' 0 v (.leaf b l) := by
  have h1 : 1 ≤ l.length ∧ l.length ≤ 4 := by simp only [leafB, Bool.and_eq_true, decide_eq_true_eq] at hb; omega
  obtain ⟨h1, h4⟩ := h1
  refine Fn_of_CW Try.func79 rfl Try.ntmps79 Try.results79 rfl fun w hS => ?_; have hG := Grow.refl hS; have hS0 := hS
  (refine CW_seq ?_; refine CW_region rfl ?_; refine S_op ?_; refine W_assignSl (by first | rfl | assumption) ?_; refine S_nil ?_; refine CW_seq ?_; refine CW_seq ?_; refine CW_region rfl ?_; refine S_op ?_; refine W_moveSl (by first | rfl | assumption) ?_; refine S_op ?_; refine W_len (by first | rfl | assumption) ?_; refine S_op ?_; refine W_eqlF (by first | rfl | assumption) (by first | rfl | assumption) (by first | omega | rfl) ?_; refine S_nil ?_; refine CW_false (by first | rfl | assumption) ?_; refine CW_skip ?_; refine CW_seq ?_; refine CW_seq ?_; refine CW_region rfl ?_; refine S_op ?_; refine W_moveSl (by first | rfl | assumption) ?_; refine S_op ?_; refine W_len (by first | rfl | assumption) ?_; refine S_op ?_; refine W_leqT (by first | rfl | assumption) (by first | rfl | assumption) (by first | omega | rfl) ?_; refine S_nil ?_; refine CW_true (by first | rfl | assumption) ?_; refine CW_seq ?_; refine CW_region rfl ?_; refine S_op ?_; refine W_moveSl (by first | rfl | assumption) ?_)
  (refine S_op ?_; refine W_call hS (by rfl) (leaf_c H A c l hl hc (by omega)) ?_); rintro v H w hG' hv; replace hG := hG.trans hG'; replace hS := hG'.sub; clear hG'
  rcases hv with ⟨h5, _⟩ | ⟨_, b, hn, rfl, hx⟩
  · rw [hb] at h5; cases h5
  · (refine S_op ?_; refine W_moveTup (by first | rfl | assumption) ?_; refine S_op ?_; refine W_extract (by first | rfl | assumption) (by rfl) ?_; refine S_op ?_; refine W_extract (by first | rfl | assumption) (by rfl) ?_; refine S_op ?_; refine W_assignPtr (by first | rfl | assumption) ?_; refine S_op ?_; refine W_assignInt (by first | rfl | assumption) ?_; refine S_nil ?_; refine CW_seq ?_; refine CW_region rfl ?_; refine S_op ?_; refine W_movePtr (by first | rfl | assumption) ?_)
    refine S_op ?_
    refine W_build1 (sz := 1) (v := (Nd.leaf b l).ptr) hS (by omega) (by rfl) (by rfl) ?_
    intro H w g hG' hg _ _
    replace hG := hG.trans hG'
    replace hx := hx.mono hG'.le
    (refine S_op ?_; refine W_assignSl (by first | rfl | assumption) ?_; refine S_nil ?_; refine CW_ret ?_)
    exact ⟨_, ResW_one (v := .slice _ _ _) rfl, H, hG, b, g, _, rfl, hg, hx, hn⟩
theorem leaves_c (H : HF) (A : Option Addr) (c : Nat) (l : List Ent) (hl : EntsAt H A l) (hc : l.length ≤ c) (hr : riseB l = true) (ho : ∀ e ∈ l, entOk e = true) (h8 : l.length ≤ 8) :
    Fn Try.prog 79 [.slice A l.length c] H fun v H' => ∃ out, NdsAt H' 0 v out ∧ leavesOut l out ∧ ∀ k ∈ out, H k.blk = none := by
  have hleaf : ∀ m : List Ent, 1 ≤ m.length → m.length ≤ 4 → riseB m = true → (∀ e ∈ m, entOk e = true) → leafB m = true := by
    intro m h1 h2 h3 h4
    have : m.all entOk = true := List.all_eq_true.2 h4
    simp [leafB, h3, this]; omega
  by_cases h0 : l.length = 0
  · refine Fn_of_CW Try.func79 rfl Try.ntmps79 Try.results79 rfl fun w hS => ?_; have hG := Grow.refl hS; have hS0 := hS
    (refine CW_seq ?_; refine CW_region rfl ?_; refine S_op ?_; refine W_assignSl (by first | rfl | assumption) ?_; refine S_nil ?_; refine CW_seq ?_; refine CW_seq ?_; refine CW_region rfl ?_; refine S_op ?_; refine W_moveSl (by first | rfl | assumption) ?_; refine S_op ?_; refine W_len (by first | rfl | assumption) ?_; refine S_op ?_; refine W_eqlT (by first | rfl | assumption) (by first | rfl | assumption) (by first | omega | rfl) ?_; refine S_nil ?_; refine CW_true (by first | rfl | assumption) ?_; refine CW_seq ?_; refine CW_region rfl ?_; refine S_op ?_; refine W_assignSl (by first | rfl | assumption) ?_; refine S_nil ?_; refine CW_ret ?_)
    exact ⟨_, ResW_one (v := .slice _ _ _) rfl, H, hG, [], ⟨none, 0, rfl, Nat.le_refl _, .inl rfl, by intro k hk; cases hk⟩, .inl ⟨h0, rfl⟩, by intro k hk; cases hk⟩
  by_cases h4 : l.length ≤ 4
  · refine (leaves1_c H A c l hl hc (hleaf l (by omega) h4 hr ho)).mono ?_
    rintro v H' _ ⟨b, h1⟩
    refine ⟨_, h1.nds, .inr (.inl ⟨by omega, h4, b, rfl⟩), fun k hk => ?_⟩
    simp at hk
    subst hk
    obtain ⟨g, E, h1, h2, h3, h4⟩ := h1
    exact h4
  · have hkk : half l.length ≤ 4 ∧ 1 ≤ half l.length ∧ half l.length ≤ l.length ∧ l.length - half l.length ≤ 4 ∧ 1 ≤ l.length - half l.length := by unfold half; omega
    obtain ⟨k1, k2, k3, k4, k5⟩ := hkk
    have hsp := List.take_append_drop (half l.length) l
    have hr2 : riseB (l.take (half l.length)) = true ∧ riseB (l.drop (half l.length)) = true := by
      rw [← hsp, riseB_append] at hr
      exact ⟨hr.1, hr.2.1⟩
    have hlt : (l.take (half l.length)).length = half l.length := by simp; omega
    have hld : (l.drop (half l.length)).length = l.length - half l.length := by simp
    have hb1 := hleaf (l.take (half l.length)) (by omega) (by omega) hr2.1 (fun e he => ho e (List.mem_of_mem_take he))
    have hb2 := hleaf (l.drop (half l.length)) (by omega) (by omega) hr2.2 (fun e he => ho e (List.mem_of_mem_drop he))
    have ht : EntsAt H A (l.take (half l.length)) := by have := SlAt.take hl (half l.length * 2); rw [entCells_take] at this; exact this
    have hd : EntsAt H (slAddr A c (half l.length) 2) (l.drop (half l.length)) := by have := SlAt.drop (l := half l.length) hl (entCells_length l) hc; rw [entCells_drop] at this; exact this
    refine Fn_of_CW Try.func79 rfl Try.ntmps79 Try.results79 rfl fun w hS => ?_; have hG := Grow.refl hS; have hS0 := hS
    (refine CW_seq ?_; refine CW_region rfl ?_; refine S_op ?_; refine W_assignSl (by first | rfl | assumption) ?_; refine S_nil ?_; refine CW_seq ?_; refine CW_seq ?_; refine CW_region rfl ?_; refine S_op ?_; refine W_moveSl (by first | rfl | assumption) ?_; refine S_op ?_; refine W_len (by first | rfl | assumption) ?_; refine S_op ?_; refine W_eqlF (by first | rfl | assumption) (by first | rfl | assumption) (by first | omega | rfl) ?_; refine S_nil ?_; refine CW_false (by first | rfl | assumption) ?_; refine CW_skip ?_; refine CW_seq ?_; refine CW_seq ?_; refine CW_region rfl ?_; refine S_op ?_; refine W_moveSl (by first | rfl | assumption) ?_; refine S_op ?_; refine W_len (by first | rfl | assumption) ?_; refine S_op ?_; refine W_leqF (by first | rfl | assumption) (by first | rfl | assumption) (by first | omega | rfl) ?_; refine S_nil ?_; refine CW_false (by first | rfl | assumption) ?_; refine CW_skip ?_; refine CW_seq ?_; refine CW_region rfl ?_; refine S_op ?_; refine W_moveSl (by first | rfl | assumption) ?_)
    (refine S_op ?_; refine W_call hS (by rfl) (halves_Ent H A l.length c hc (by omega)) ?_); rintro v H w hG' rfl; replace hG := hG.trans hG'; replace hS := hG'.sub; replace ht := ht.mono hG'.le; replace hd := hd.mono hG'.le; clear hG'
    rw [show (l.length + 1) / 2 = half l.length from rfl]
    have hlt' := hlt
    have hld' := hld
    rw [← hlt'] at hlt
    (refine S_op ?_; refine W_moveTup (by first | rfl | assumption) ?_; refine S_op ?_; refine W_extract (by first | rfl | assumption) (by rfl) ?_; refine S_op ?_; refine W_extract (by first | rfl | assumption) (by rfl) ?_; refine S_op ?_; refine W_assignSl (by first | rfl | assumption) ?_; refine S_op ?_; refine W_assignSl (by first | rfl | assumption) ?_; refine S_nil ?_; refine CW_seq ?_; refine CW_region rfl ?_; refine S_op ?_; refine W_moveSl (by first | rfl | assumption) ?_)
    have c1 := leaves1_c H A c (l.take (half l.length)) ht (by omega) hb1
    rw [hlt'] at c1
    have hle1 := hG.le
    (refine S_op ?_; refine W_call hS (by rfl) (c1) ?_); rintro v H w hG' ⟨b1, h1⟩; replace hG := hG.trans hG'; replace hS := hG'.sub; replace hd := hd.mono hG'.le; clear hG'
    clear c1
    (refine S_op ?_; refine W_moveSl (by first | rfl | assumption) ?_)
    have c2 := leaves1_c H (slAddr A c (half l.length) 2) (c - half l.length) (l.drop (half l.length)) hd (by omega) hb2
    rw [hld'] at c2
    have hle2 := hG.le
    (refine S_op ?_; refine W_call hS (by rfl) (c2) ?_); rintro v H w hG' ⟨b2, h2⟩; replace hG := hG.trans hG'; replace hS := hG'.sub; replace h1 := h1.mono hG'.le; clear hG'
    clear c2
    skip
    refine S_op ?_
    obtain ⟨g1, E1, rfl, hg1, hx1, hf1⟩ := h1
    obtain ⟨g2, E2, rfl, hg2, hx2, hf2⟩ := h2
    refine W_append_new (xs := [Nd.ptr _]) (news := [Nd.ptr _]) (by rfl) (by rfl) hG (by simp) ((SlAt.of_row hg1).cells hS) (by rfl) ((SlAt.of_row hg2).cells hS) (by rfl) (by intro u hu; simp at hu; subst hu; rfl) (by decide) (by decide) (by decide) (by decide) (by decide) ?_
    intro A3 c3 w hG _ hown hA3
    clear hA3
    (refine S_op ?_; refine W_assignSl (by first | rfl | assumption) ?_; refine S_nil ?_; refine CW_ret ?_)
    obtain ⟨H3, hle3, hG3, hsl3, _⟩ := hown.freeze hG
    refine ⟨_, ResW_one (v := .slice _ _ _) rfl, H3, hG3, [.leaf b1 (l.take (half l.length)), .leaf b2 (l.drop (half l.length))], ⟨A3, c3, rfl, by have := hown.cap; exact this, hsl3, fun k hk => ?_⟩, .inr (.inr ⟨by omega, b1, b2, rfl⟩), fun k hk => ?_⟩
    · simp at hk
      rcases hk with rfl | rfl
      · exact hx1.mono hle3
      · exact hx2.mono hle3
    · simp at hk
      rcases hk with rfl | rfl
      · exact hle1.none hf1
      · exact hle2.none hf2
/-! ### branches -/
theorem trOf_inj {h h' : Nat} {x : Nd h} {y : Nd h'} (e : trOf x = trOf y) : ∃ e : h = h', e ▸ x = y := by
  simp only [trOf, Option.some.injEq, Sigma.mk.injEq] at e
  obtain ⟨rfl, h2⟩ := e
  exact ⟨rfl, eq_of_heq h2⟩
theorem map_trOf_inj {h : Nat} : ∀ {l m : List (Nd h)}, l.map trOf = m.map trOf → l = m
  | [], [], _ => rfl
  | [], _ :: _, e => by simp at e
  | _ :: _, [], e => by simp at e
  | x :: l, y :: m, e => by
    simp only [List.map_cons, List.cons.injEq] at e
    obtain ⟨_, h1⟩ := trOf_inj e.1
    have h1 : x = y := h1
    rw [h1, map_trOf_inj e.2]
theorem branchU_c (H : HF) (A : Option Addr) (c h : Nat) (ks : List (Nd h)) (hl : SlAt H A (ks.map Nd.ptr)) (hk : AllAt H h ks) (hc : ks.length ≤ c) (h2 : 2 ≤ ks.length) (h6 : ks.length ≤ 6) (hch : Nd.chain ks = true) (hh : h ≤ 900000) :
    Fn Try.prog 80 [.slice A ks.length c] H fun v H' => ∃ b, v = .tuple #[(Nd.branch b ks).ptr, .int .i64 0] ∧ NodeAt H' (h + 1) (.branch b ks) ∧ H b = none := by
  have h1 := branch_c H A c (ks.map trOf) (by rw [val_map]; exact hl) (fun t ht => by
    obtain ⟨k, hk1, rfl⟩ := List.mem_map.1 ht
    exact hk k hk1) (by simpa using hc) (by simp; omega) (by
    rw [trs_map (by omega)]
    simp only [Tr.height, trOf]
    omega)
  rw [List.length_map] at h1
  refine h1.mono ?_
  rintro v H' _ (⟨h3, _⟩ | ⟨_, h', ks', b, h3, h4, rfl, h5⟩)
  · rw [branchB_of h2 h6 hch] at h3; cases h3
  · match ks, ks', h2, h3 with
    | x :: ks, y :: ks', _, h3 =>
      simp only [List.map_cons, List.cons.injEq] at h3
      obtain ⟨rfl, h6⟩ := trOf_inj h3.1
      have h6 : x = y := h6
      have h7 := map_trOf_inj h3.2
      subst h6 h7
      exact ⟨b, rfl, h5, h4⟩
theorem branches1_c (H : HF) (A : Option Addr) (c h : Nat) (ks : List (Nd h)) (hl : SlAt H A (ks.map Nd.ptr)) (hk : AllAt H h ks) (hc : ks.length ≤ c) (h2 : 2 ≤ ks.length) (h6 : ks.length ≤ 6) (hch : Nd.chain ks = true) (hh : h ≤ 900000) :
    Fn Try.prog 61 [.slice A ks.length c] H fun v H' => ∃ b, OneAt H H' (h + 1) v (.branch b ks) := by
  refine Fn_of_CW Try.func61 rfl Try.ntmps61 Try.results61 rfl fun w hS => ?_; have hG := Grow.refl hS; have hS0 := hS
  (refine CW_seq ?_; refine CW_region rfl ?_; refine S_op ?_; refine W_assignSl (by first | rfl | assumption) ?_; refine S_nil ?_; refine CW_seq ?_; refine CW_seq ?_; refine CW_region rfl ?_; refine S_op ?_; refine W_moveSl (by first | rfl | assumption) ?_; refine S_op ?_; refine W_len (by first | rfl | assumption) ?_; refine S_op ?_; refine W_leqF (by first | rfl | assumption) (by first | rfl | assumption) (by first | omega | rfl) ?_; refine S_nil ?_; refine CW_false (by first | rfl | assumption) ?_; refine CW_skip ?_; refine CW_seq ?_; refine CW_seq ?_; refine CW_region rfl ?_; refine S_op ?_; refine W_moveSl (by first | rfl | assumption) ?_; refine S_op ?_; refine W_len (by first | rfl | assumption) ?_; refine S_op ?_; refine W_leqT (by first | rfl | assumption) (by first | rfl | assumption) (by first | omega | rfl) ?_; refine S_nil ?_; refine CW_true (by first | rfl | assumption) ?_; refine CW_seq ?_; refine CW_region rfl ?_; refine S_op ?_; refine W_moveSl (by first | rfl | assumption) ?_)
  (refine S_op ?_; refine W_call hS (by rfl) (branchU_c H A c h ks hl hk hc h2 h6 hch hh) ?_); rintro v H w hG' ⟨b, rfl, hx, hn⟩; replace hG := hG.trans hG'; replace hS := hG'.sub; clear hG'
  (refine S_op ?_; refine W_moveTup (by first | rfl | assumption) ?_; refine S_op ?_; refine W_extract (by first | rfl | assumption) (by rfl) ?_; refine S_op ?_; refine W_extract (by first | rfl | assumption) (by rfl) ?_; refine S_op ?_; refine W_assignPtr (by first | rfl | assumption) ?_; refine S_op ?_; refine W_assignInt (by first | rfl | assumption) ?_; refine S_nil ?_; refine CW_seq ?_; refine CW_region rfl ?_; refine S_op ?_; refine W_movePtr (by first | rfl | assumption) ?_)
  refine S_op ?_
  refine W_build1 (sz := 1) (v := (Nd.branch b ks).ptr) hS (by omega) (by rfl) (by rfl) ?_
  intro H w g hG' hg _ _
  replace hG := hG.trans hG'
  replace hx := hx.mono hG'.le
  (refine S_op ?_; refine W_assignSl (by first | rfl | assumption) ?_; refine S_nil ?_; refine CW_ret ?_)
  exact ⟨_, ResW_one (v := .slice _ _ _) rfl, H, hG, b, g, _, rfl, hg, hx, hn⟩
theorem branches0_c (H : HF) (A : Option Addr) (n c : Nat) (h2 : n ≤ 1) :
    Fn Try.prog 61 [.slice A n c] H fun v _ => v = .slice A n c := by
  refine Fn_of_CW Try.func61 rfl Try.ntmps61 Try.results61 rfl fun w hS => ?_; have hG := Grow.refl hS; have hS0 := hS
  (refine CW_seq ?_; refine CW_region rfl ?_; refine S_op ?_; refine W_assignSl (by first | rfl | assumption) ?_; refine S_nil ?_; refine CW_seq ?_; refine CW_seq ?_; refine CW_region rfl ?_; refine S_op ?_; refine W_moveSl (by first | rfl | assumption) ?_; refine S_op ?_; refine W_len (by first | rfl | assumption) ?_; refine S_op ?_; refine W_leqT (by first | rfl | assumption) (by first | rfl | assumption) (by first | omega | rfl) ?_; refine S_nil ?_; refine CW_true (by first | rfl | assumption) ?_; refine CW_seq ?_; refine CW_region rfl ?_; refine S_op ?_; refine W_moveSl (by first | rfl | assumption) ?_; refine S_op ?_; refine W_assignSl (by first | rfl | assumption) ?_; refine S_nil ?_; refine CW_ret ?_)
  exact ⟨_, ResW_one (v := .slice _ _ _) rfl, H, hG, rfl⟩
/-- What branches makes of two or more. -/
def branchesOut {h : Nat} (ks : List (Nd h)) (out : List (Nd (h + 1))) : Prop :=
  (2 ≤ ks.length ∧ ks.length ≤ 6 ∧ ∃ b, out = [.branch b ks]) ∨ (6 < ks.length ∧ ∃ b1 b2, out = [.branch b1 (ks.take (half ks.length)), .branch b2 (ks.drop (half ks.length))])
theorem chain_parts {h : Nat} {a b : List (Nd h)} (ho : ∀ k ∈ a ++ b, Nd.Ok h k) (hc : Nd.chain (a ++ b) = true) : Nd.chain a = true ∧ Nd.chain b = true := by
  have hr := (Nd.chain_iff ho).1 hc
  rw [List.flatMap_append, riseB_append] at hr
  exact ⟨(Nd.chain_iff (fun k hk => ho k (List.mem_append_left _ hk))).2 hr.1, (Nd.chain_iff (fun k hk => ho k (List.mem_append_right _ hk))).2 hr.2.1⟩
theorem branches_c (H : HF) (A : Option Addr) (c h : Nat) (ks : List (Nd h)) (hl : SlAt H A (ks.map Nd.ptr)) (hk : AllAt H h ks) (hc : ks.length ≤ c) (h2 : 2 ≤ ks.length) (h8 : ks.length ≤ 12) (hch : Nd.chain ks = true) (hh : h ≤ 900000) :
    Fn Try.prog 61 [.slice A ks.length c] H fun v H' => ∃ out, NdsAt H' (h + 1) v out ∧ branchesOut ks out ∧ ∀ k ∈ out, H k.blk = none := by
  by_cases h4 : ks.length ≤ 6
  · refine (branches1_c H A c h ks hl hk hc h2 h4 hch hh).mono ?_
    rintro v H' _ ⟨b, h1⟩
    refine ⟨_, h1.nds, .inl ⟨by omega, h4, b, rfl⟩, fun k hk => ?_⟩
    simp at hk
    subst hk
    obtain ⟨g, E, h1, h2, h3, h4⟩ := h1
    exact h4
  · have hkk : half ks.length ≤ 6 ∧ 2 ≤ half ks.length ∧ half ks.length ≤ ks.length ∧ ks.length - half ks.length ≤ 6 ∧ 2 ≤ ks.length - half ks.length := by unfold half; omega
    obtain ⟨k1, k2, k3, k4, k5⟩ := hkk
    have hsp := List.take_append_drop (half ks.length) ks
    have hr2 : Nd.chain (ks.take (half ks.length)) = true ∧ Nd.chain (ks.drop (half ks.length)) = true :=
      chain_parts (by rw [hsp]; exact hk.ok) (by rw [hsp]; exact hch)
    have hlt : (ks.take (half ks.length)).length = half ks.length := by simp; omega
    have hld : (ks.drop (half ks.length)).length = ks.length - half ks.length := by simp
    have ht : SlAt H A ((ks.take (half ks.length)).map Nd.ptr) := by have := SlAt.take hl (half ks.length); rw [List.map_take]; exact this
    have hd : SlAt H (slAddr A c (half ks.length) 1) ((ks.drop (half ks.length)).map Nd.ptr) := by have := SlAt.drop (l := half ks.length) (sz := 1) hl (by simp) hc; rw [List.map_drop]; simpa using this
    have hk1 := hk.take (half ks.length)
    have hk2 := hk.drop (half ks.length)
    refine Fn_of_CW Try.func61 rfl Try.ntmps61 Try.results61 rfl fun w hS => ?_; have hG := Grow.refl hS; have hS0 := hS
    (refine CW_seq ?_; refine CW_region rfl ?_; refine S_op ?_; refine W_assignSl (by first | rfl | assumption) ?_; refine S_nil ?_; refine CW_seq ?_; refine CW_seq ?_; refine CW_region rfl ?_; refine S_op ?_; refine W_moveSl (by first | rfl | assumption) ?_; refine S_op ?_; refine W_len (by first | rfl | assumption) ?_; refine S_op ?_; refine W_leqF (by first | rfl | assumption) (by first | rfl | assumption) (by first | omega | rfl) ?_; refine S_nil ?_; refine CW_false (by first | rfl | assumption) ?_; refine CW_skip ?_; refine CW_seq ?_; refine CW_seq ?_; refine CW_region rfl ?_; refine S_op ?_; refine W_moveSl (by first | rfl | assumption) ?_; refine S_op ?_; refine W_len (by first | rfl | assumption) ?_; refine S_op ?_; refine W_leqF (by first | rfl | assumption) (by first | rfl | assumption) (by first | omega | rfl) ?_; refine S_nil ?_; refine CW_false (by first | rfl | assumption) ?_; refine CW_skip ?_; refine CW_seq ?_; refine CW_region rfl ?_; refine S_op ?_; refine W_moveSl (by first | rfl | assumption) ?_)
    (refine S_op ?_; refine W_call hS (by rfl) (halves_Node H A ks.length c hc (by omega)) ?_); rintro v H w hG' rfl; replace hG := hG.trans hG'; replace hS := hG'.sub; replace ht := ht.mono hG'.le; replace hd := hd.mono hG'.le; replace hk1 := hk1.mono hG'.le; replace hk2 := hk2.mono hG'.le; clear hG'
    rw [show (ks.length + 1) / 2 = half ks.length from rfl]
    have hlt' := hlt
    have hld' := hld
    (refine S_op ?_; refine W_moveTup (by first | rfl | assumption) ?_; refine S_op ?_; refine W_extract (by first | rfl | assumption) (by rfl) ?_; refine S_op ?_; refine W_extract (by first | rfl | assumption) (by rfl) ?_; refine S_op ?_; refine W_assignSl (by first | rfl | assumption) ?_; refine S_op ?_; refine W_assignSl (by first | rfl | assumption) ?_; refine S_nil ?_; refine CW_seq ?_; refine CW_region rfl ?_; refine S_op ?_; refine W_moveSl (by first | rfl | assumption) ?_)
    have c1 := branches1_c H A c h (ks.take (half ks.length)) ht hk1 (by omega) (by omega) (by omega) hr2.1 hh
    rw [hlt'] at c1
    have hle1 := hG.le
    (refine S_op ?_; refine W_call hS (by rfl) (c1) ?_); rintro v H w hG' ⟨b1, h1⟩; replace hG := hG.trans hG'; replace hS := hG'.sub; replace hd := hd.mono hG'.le; replace hk2 := hk2.mono hG'.le; clear hG'
    clear c1
    (refine S_op ?_; refine W_moveSl (by first | rfl | assumption) ?_)
    have c2 := branches1_c H (slAddr A c (half ks.length) 1) (c - half ks.length) h (ks.drop (half ks.length)) hd hk2 (by omega) (by omega) (by omega) hr2.2 hh
    rw [hld'] at c2
    have hle2 := hG.le
    (refine S_op ?_; refine W_call hS (by rfl) (c2) ?_); rintro v H w hG' ⟨b2, h2⟩; replace hG := hG.trans hG'; replace hS := hG'.sub; replace h1 := h1.mono hG'.le; clear hG'
    clear c2
    skip
    refine S_op ?_
    obtain ⟨g1, E1, rfl, hg1, hx1, hf1⟩ := h1
    obtain ⟨g2, E2, rfl, hg2, hx2, hf2⟩ := h2
    refine W_append_new (xs := [Nd.ptr _]) (news := [Nd.ptr _]) (by rfl) (by rfl) hG (by simp) ((SlAt.of_row hg1).cells hS) (by rfl) ((SlAt.of_row hg2).cells hS) (by rfl) (by intro u hu; simp at hu; subst hu; rfl) (by decide) (by decide) (by decide) (by decide) (by decide) ?_
    intro A3 c3 w hG _ hown hA3
    clear hA3
    (refine S_op ?_; refine W_assignSl (by first | rfl | assumption) ?_; refine S_nil ?_; refine CW_ret ?_)
    obtain ⟨H3, hle3, hG3, hsl3, _⟩ := hown.freeze hG
    refine ⟨_, ResW_one (v := .slice _ _ _) rfl, H3, hG3, [.branch b1 (ks.take (half ks.length)), .branch b2 (ks.drop (half ks.length))], ⟨A3, c3, rfl, by have := hown.cap; exact this, hsl3, fun k hk => ?_⟩, .inr ⟨by omega, b1, b2, rfl⟩, fun k hk => ?_⟩
    · simp at hk
      rcases hk with rfl | rfl
      · exact hx1.mono hle3
      · exact hx2.mono hle3
    · simp at hk
      rcases hk with rfl | rfl
      · exact hle1.none hf1
      · exact hle2.none hf2
end Go.Proofs.Ytgaabmoknpifnaa
/- tree: put, Put: walked, with what they make. Conditions: sizes. -/
namespace Go.Proofs.Ytgaabmoknpifnaa
open Go.Proofs Go.RowKit
set_option linter.unusedVariables false
attribute [local irreducible] CW SeqW OpW
set_option maxHeartbeats 4000000
/-- What a node becomes with an entry. -/
structure PutOut (h : Nat) (x : Nd h) (e : Ent) (ks : List (Nd h)) : Prop where
  items : ks.flatMap (Nd.items h) = withL (Nd.items h x) e
  len : ks.length = 1 ∨ ks.length = 2
  full : Nd.full h x = true → ∀ k ∈ ks, Nd.full h k = true
  two : Nd.full h x = true → (Nd.enough h x = true ∨ ks.length = 2) → ∀ k ∈ ks, Nd.enough h k = true
  blocks : ∃ N : List Nat, N.length ≤ 2 * (h + 1) ∧ ∀ k ∈ ks, ∀ b ∈ Nd.blocks h k, b ∈ N ∨ b ∈ Nd.blocks h x
theorem entOk_withL {l : List Ent} {e : Ent} (hl : ∀ x ∈ l, entOk x = true) (he : entOk e = true) : ∀ x ∈ withL l e, entOk x = true := by
  intro x hx
  rcases mem_withL hx with rfl | h
  · exact he
  · exact hl x h
theorem put_leaf {x : Nd 0} {e : Ent} (hx : Nd.Ok 0 x) {out : List (Nd 0)} (hout : leavesOut (withL x.ents e) out) : PutOut 0 x e out := by
  have hb := hx
  simp only [Nd.Ok, leafB, Bool.and_eq_true, decide_eq_true_eq] at hb
  have hlen := withL_length hb.1.2 e
  have h5 : x.ents.length ≤ (withL x.ents e).length ∧ (withL x.ents e).length ≤ x.ents.length + 1 := by rw [hlen]; split <;> omega
  rcases hout with ⟨h1, _⟩ | ⟨h1, h2, b, rfl⟩ | ⟨h1, b1, b2, rfl⟩
  · omega
  · refine ⟨by simp [Nd.items, Nd.ents_leaf], .inl rfl, fun _ k hk => ?_, fun _ he k hk => ?_, [b], by simp, fun k hk q hq => ?_⟩
    · simp at hk; subst hk; rfl
    · rw [List.mem_singleton] at hk; subst hk
      show decide (2 ≤ (withL x.ents e).length) = true
      rw [decide_eq_true_eq]
      rcases he with he | he
      · have he : decide (2 ≤ x.ents.length) = true := he
        rw [decide_eq_true_eq] at he; omega
      · simp at he
    · simp at hk; subst hk
      simp [Nd.blocks, Nd.blk_leaf] at hq
      simp [hq]
  · refine ⟨by simp [Nd.items, Nd.ents_leaf], .inr rfl, fun _ k hk => ?_, fun _ he k hk => ?_, [b1, b2], by simp, fun k hk q hq => ?_⟩
    · simp at hk; rcases hk with rfl | rfl <;> rfl
    · have hh : 2 ≤ half (withL x.ents e).length ∧ half (withL x.ents e).length ≤ (withL x.ents e).length ∧ 2 ≤ (withL x.ents e).length - half (withL x.ents e).length := by unfold half; omega
      simp at hk
      rcases hk with rfl | rfl <;> simp [Nd.enough, Nd.ents_leaf] <;> omega
    · simp at hk
      rcases hk with rfl | rfl <;> simp [Nd.blocks, Nd.blk_leaf] at hq <;> simp [hq]
section
variable {h : Nat} {x : Nd (h + 1)} {e : Ent} {a b sub : List (Nd h)} {m : Nd h}
theorem put_items (hx : Nd.Ok (h + 1) x) (h1 : x.kids = a ++ m :: b) (h3 : Below' (a.flatMap (Nd.items h)) e.key) (h4 : Above (b.flatMap (Nd.items h)) e.key) (hs : PutOut h m e sub) :
    (a ++ sub ++ b).flatMap (Nd.items h) = withL (Nd.items (h + 1) x) e := by
  rw [Nd.withL_kid hx h1 h3 h4, List.flatMap_append, List.flatMap_append, hs.items]
theorem put_branch (hx : Nd.Ok (h + 1) x) (h1 : x.kids = a ++ m :: b) (h3 : Below' (a.flatMap (Nd.items h)) e.key) (h4 : Above (b.flatMap (Nd.items h)) e.key) (hs : PutOut h m e sub)
    {out : List (Nd (h + 1))} (hout : branchesOut (a ++ sub ++ b) out) : PutOut (h + 1) x e out := by
  have hit := put_items hx h1 h3 h4 hs
  have hn : (a ++ sub ++ b).length = a.length + sub.length + b.length := by simp; omega
  have hxn : x.kids.length = a.length + 1 + b.length := by rw [h1]; simp; omega
  have hsl := hs.len
  have hkids : Nd.full (h + 1) x = true → ∀ k ∈ a ++ sub ++ b, Nd.enough h k = true ∧ Nd.full h k = true := by
    intro hf k hk
    have hfk := Nd.full_kids hf
    rw [h1] at hfk
    have hm := hfk m (by simp)
    simp only [List.mem_append] at hk
    rcases hk with (hk | hk) | hk
    · exact hfk k (by simp [hk])
    · exact ⟨hs.two hm.2 (.inl hm.1) k hk, hs.full hm.2 k hk⟩
    · exact hfk k (by simp [hk])
  obtain ⟨N, hN, hNb⟩ := hs.blocks
  have hkb : ∀ k ∈ a ++ sub ++ b, ∀ q ∈ Nd.blocks h k, q ∈ N ∨ q ∈ Nd.blocks (h + 1) x := by
    intro k hk q hq
    simp only [Nd.blocks, List.mem_cons, List.mem_flatMap]
    rw [h1]
    simp only [List.mem_append] at hk
    rcases hk with (hk | hk) | hk
    · exact .inr (.inr ⟨k, by simp [hk], hq⟩)
    · rcases hNb k hk q hq with h | h
      · exact .inl h
      · exact .inr (.inr ⟨m, by simp, h⟩)
    · exact .inr (.inr ⟨k, by simp [hk], hq⟩)
  rcases hout with ⟨h5, h6, g, rfl⟩ | ⟨h5, g1, g2, rfl⟩
  · refine ⟨?_, .inl rfl, fun hf k hk => ?_, fun hf he k hk => ?_, g :: N, by simp; omega, fun k hk q hq => ?_⟩
    · show ([Nd.branch g (a ++ sub ++ b)] : List (Nd (h + 1))).flatMap (fun y => y.kids.flatMap (Nd.items h)) = _
      simp only [List.flatMap_cons, List.flatMap_nil, List.append_nil, Nd.kids_branch]
      exact hit
    · rw [List.mem_singleton] at hk; subst hk
      simp only [Nd.full, Nd.kids_branch, List.all_eq_true, Bool.and_eq_true]
      exact hkids hf
    · rw [List.mem_singleton] at hk; subst hk
      show decide (3 ≤ (a ++ sub ++ b).length) = true
      rw [decide_eq_true_eq]
      rcases he with he | he
      · simp only [Nd.enough, decide_eq_true_eq] at he; omega
      · simp at he
    · rw [List.mem_singleton] at hk; subst hk
      simp only [Nd.blocks, Nd.kids_branch, Nd.blk_branch, List.mem_cons, List.mem_flatMap] at hq
      rcases hq with rfl | ⟨y, hy, hq⟩
      · exact .inl (by simp)
      · rcases hkb y hy q hq with h | h
        · exact .inl (by simp [h])
        · exact .inr h
  · have hsp := List.take_append_drop (half (a ++ sub ++ b).length) (a ++ sub ++ b)
    have hhalf : 3 ≤ half (a ++ sub ++ b).length ∧ half (a ++ sub ++ b).length ≤ (a ++ sub ++ b).length ∧ 3 ≤ (a ++ sub ++ b).length - half (a ++ sub ++ b).length := by unfold half; omega
    generalize a ++ sub ++ b = l at *
    refine ⟨?_, .inr rfl, fun hf k hk => ?_, fun hf he k hk => ?_, g1 :: g2 :: N, by simp; omega, fun k hk q hq => ?_⟩
    · show ([Nd.branch g1 (l.take (half l.length)), Nd.branch g2 (l.drop (half l.length))] : List (Nd (h + 1))).flatMap (fun y => y.kids.flatMap (Nd.items h)) = _
      simp only [List.flatMap_cons, List.flatMap_nil, List.append_nil, Nd.kids_branch]
      rw [← List.flatMap_append, hsp]
      exact hit
    · simp at hk
      rcases hk with rfl | rfl <;> simp only [Nd.full, Nd.kids_branch, List.all_eq_true, Bool.and_eq_true]
      · exact fun k hk => hkids hf k (List.mem_of_mem_take hk)
      · exact fun k hk => hkids hf k (List.mem_of_mem_drop hk)
    · simp at hk
      rcases hk with rfl | rfl <;> simp [Nd.enough, Nd.kids_branch] <;> omega
    · simp at hk
      rcases hk with rfl | rfl <;> simp only [Nd.blocks, Nd.kids_branch, Nd.blk_branch, List.mem_cons, List.mem_flatMap] at hq
      · rcases hq with rfl | ⟨y, hy, hq⟩
        · exact .inl (by simp)
        · rcases hkb y (List.mem_of_mem_take hy) q hq with h | h
          · exact .inl (by simp [h])
          · exact .inr h
      · rcases hq with rfl | ⟨y, hy, hq⟩
        · exact .inl (by simp)
        · rcases hkb y (List.mem_of_mem_drop hy) q hq with h | h
          · exact .inl (by simp [h])
          · exact .inr h
end
theorem nds_of {H : HF} {h : Nat} {v : Value} {l : List (Nd h)} (hv : IsSl 1 v l.length (l.map Nd.ptr) H) (hl : AllAt H h l) : NdsAt H h v l := by
  obtain ⟨A, c, rfl, h2, h3, h4⟩ := hv
  exact ⟨A, c, rfl, h2, h3, hl⟩
theorem put_c (h : Nat) : ∀ (H : HF) (x : Nd h) (e : Ent), NodeAt H h x → entOk e = true → h ≤ 800000 →
    Fn Try.prog 62 [x.ptr, .agg #[.string e.key, .string e.val]] H fun v H' => ∃ ks, NdsAt H' h v ks ∧ PutOut h x e ks ∧ ∀ k ∈ ks, H k.blk = none := by
  induction h with
  | zero =>
    intro H x e hx he hh
    refine Fn_of_CW Try.func62 rfl Try.ntmps62 Try.results62 rfl fun w hS => ?_; have hG := Grow.refl hS; have hS0 := hS
    (refine CW_seq ?_; refine CW_region rfl ?_)
    (refine S_op (W_boxAgg hS (by rfl) ?_)); intro H w _ hG' hb; replace hG := hG.trans hG'; replace hS := hG'.sub; replace hx := hx.mono hG'.le; clear hG'
    (refine S_op ?_; refine W_assignSl (by first | rfl | assumption) ?_; refine S_nil ?_; refine CW_seq ?_; refine CW_seq ?_; refine CW_region rfl ?_; refine S_op ?_; refine W_movePtr (by first | rfl | assumption) ?_)
    (refine S_op ?_; refine W_call hS (by rfl) (height_c hx) ?_); rintro v H w hG' rfl; replace hG := hG.trans hG'; replace hS := hG'.sub; replace hx := hx.mono hG'.le; replace hb := hG'.le _ _ hb; clear hG'
    have hok := hx.ok
    have hok2 := hok
    simp only [Nd.Ok, leafB, Bool.and_eq_true, decide_eq_true_eq] at hok2
    have hr := rise_withL e hok2.1.2
    have hoe := entOk_withL (Nd.ok_ents hok) he
    have hwl := withL_length_le x.ents e
    have hle := hG.le
    (refine S_op ?_; refine W_leqT (by first | rfl | assumption) (by first | rfl | assumption) (by first | omega | rfl) ?_; refine S_nil ?_; refine CW_true (by first | rfl | assumption) ?_; refine CW_seq ?_)
    apply CW_region_grow [_, _, _, _, _, _] [none, none, none, none, none, none] [some 10, some 11, some 12, some 13, some 14, some 4] [10, 11, 12, 13, 14, 4] mixed rfl rfl rfl rfl (by decide) rfl (by assumption)
    · ((apply steps_cons; case h1 => (apply A_pure; intro c u H' w' hG; have hS' := hG.sub; have hS2' := hG.subOld; (repeat (first | refine depGo_eq rfl rfl rfl ?_ | (refine depGo_fact rfl rfl rfl ?_; intro v hv) | refine depGo_skip rfl ?_ | refine depGo_none rfl ?_)); apply Pure1.mk; intro K hk; exact W_movePtr (by first | rfl | assumption) hk)))
      (apply steps_cons; case h1 => (refine A_fact (φ := (fun v H => IsEnts v x.ents H)) ?_; intro c' u H' w' hG; have hS' := hG.sub; (repeat (first | refine depGo_eq rfl rfl rfl ?_ | (refine depGo_fact rfl rfl rfl ?_; intro v hv) | refine depGo_skip rfl ?_ | refine depGo_none rfl ?_)); refine depGo_nil ?_; refine W_call hS' (by rfl) (entries_c (hx.mono hG.le)) ?_; intro v H3 w3 hG3 hr; exact ⟨H3, hG3.le, hG.trans hG3, fun H'' hle => hr.mono hle⟩))
      ((apply steps_cons; case h1 => (apply A_pure; intro c u H' w' hG; have hS' := hG.sub; have hS2' := hG.subOld; (repeat (first | refine depGo_eq rfl rfl rfl ?_ | (refine depGo_fact rfl rfl rfl ?_; intro v hv) | refine depGo_skip rfl ?_ | refine depGo_none rfl ?_)); apply Pure1.mk; intro K hk; exact W_loadWhole (by first | rfl | assumption) (by assumption) (by rfl) (by assumption) hk)))
      (apply steps_cons; case h1 => (refine A_fact (φ := (fun v H => IsEnts v (withL x.ents e) H)) ?_; intro c' u H' w' hG'; have hS' := hG'.sub; (repeat (first | refine depGo_eq rfl rfl rfl ?_ | (refine depGo_fact rfl rfl rfl ?_; intro v hv) | refine depGo_skip rfl ?_ | refine depGo_none rfl ?_)); obtain ⟨A1, c1, rfl, hc1, hl1⟩ := hv; refine depGo_nil ?_; refine W_call hS' (by rfl) (with_c H' A1 c1 x.ents e hl1 hc1 (by omega)) ?_; intro v H3 w3 hG3 hr; exact ⟨H3, hG3.le, hG'.trans hG3, fun H'' hle => hr.mono hle⟩))
      (apply steps_cons; case h1 => (refine A_fact (φ := (fun v H3 => ∃ out, NdsAt H3 0 v out ∧ leavesOut (withL x.ents e) out ∧ ∀ k ∈ out, H k.blk = none)) ?_; intro c' u H' w' hG'; have hS' := hG'.sub; (repeat (first | refine depGo_eq rfl rfl rfl ?_ | (refine depGo_fact rfl rfl rfl ?_; intro v hv) | refine depGo_skip rfl ?_ | refine depGo_none rfl ?_)); obtain ⟨A1, c1, rfl, hc1, hl1⟩ := hv; refine depGo_nil ?_; refine W_call hS' (by rfl) (leaves_c H' A1 c1 (withL x.ents e) hl1 hc1 hr hoe (by omega)) ?_; intro v H3 w3 hG3 hr; exact ⟨H3, hG3.le, hG'.trans hG3, fun H'' hle => (by
          obtain ⟨out, h1, h2, h3⟩ := hr
          exact ⟨out, h1.mono hle, h2, fun k hk => hG'.le.none (h3 k hk)⟩)⟩))
      apply steps_cons; case h1 => (refine A_fact (φ := (fun v H3 => ∃ out, NdsAt H3 0 v out ∧ leavesOut (withL x.ents e) out ∧ ∀ k ∈ out, H k.blk = none)) ?_; intro c u H' w' hG; (repeat (first | refine depGo_eq rfl rfl rfl ?_ | (refine depGo_fact rfl rfl rfl ?_; intro v hv) | refine depGo_skip rfl ?_ | refine depGo_none rfl ?_)); refine depGo_nil ?_; refine W_assign (by rfl) ?_; exact ⟨H', HLe.refl _, hG, fun H'' hle => (fun ⟨out, h1, h2, h3⟩ hle => ⟨out, h1.mono hle, h2, h3⟩) hv hle⟩)
      exact trivial
    · intro H' w' hG'
      (repeat (first | refine fin_eq rfl rfl ?_ | (refine fin_fact rfl ?_; intro v hv) | refine fin_none rfl ?_)); refine fin_nil ?_
      (refine CW_ret ?_)
      obtain ⟨out, h1, h2, h3⟩ := hv
      exact ⟨_, ResW_one (v := v) rfl, H', hG.trans hG', out, h1, put_leaf hok h2, fun k hk => hle.none (h3 k hk)⟩
  | succ h ih =>
    intro H x e hx he hh
    refine Fn_of_CW Try.func62 rfl Try.ntmps62 Try.results62 rfl fun w hS => ?_; have hG := Grow.refl hS; have hS0 := hS
    (refine CW_seq ?_; refine CW_region rfl ?_)
    (refine S_op (W_boxAgg hS (by rfl) ?_)); intro H w _ hG' hb; replace hG := hG.trans hG'; replace hS := hG'.sub; replace hx := hx.mono hG'.le; clear hG'
    (refine S_op ?_; refine W_assignSl (by first | rfl | assumption) ?_; refine S_nil ?_; refine CW_seq ?_; refine CW_seq ?_; refine CW_region rfl ?_; refine S_op ?_; refine W_movePtr (by first | rfl | assumption) ?_)
    (refine S_op ?_; refine W_call hS (by rfl) (height_c hx) ?_); rintro v H w hG' rfl; replace hG := hG.trans hG'; replace hS := hG'.sub; replace hx := hx.mono hG'.le; replace hb := hG'.le _ _ hb; clear hG'
    (refine S_op ?_; refine W_leqF (by first | rfl | assumption) (by first | rfl | assumption) (by first | omega | rfl) ?_; refine S_nil ?_; refine CW_false (by first | rfl | assumption) ?_; refine CW_skip ?_; refine CW_seq ?_; refine CW_region rfl ?_; refine S_op ?_; refine W_movePtr (by first | rfl | assumption) ?_)
    (refine S_op ?_; refine W_call hS (by rfl) (kids_c hx) ?_); rintro v H w hG' hv; replace hG := hG.trans hG'; replace hS := hG'.sub; replace hx := hx.mono hG'.le; replace hb := hG'.le _ _ hb; clear hG'
    obtain ⟨B, d, rfl, hd, hsl, _⟩ := hv
    have hok := hx.ok
    have h6 := hok.2.1
    (refine S_op ?_; refine W_assignSl (by first | rfl | assumption) ?_; refine S_nil ?_; refine CW_seq ?_; refine CW_region rfl ?_; refine S_op ?_; refine W_moveSl (by first | rfl | assumption) ?_; refine S_op ?_; refine W_field (by first | rfl | assumption) ?_; refine S_op ?_; refine W_loadHL (by first | rfl | assumption) (by assumption) (by rfl) (by assumption) ?_)
    (refine S_op ?_; refine W_call hS (by rfl) (kid_c H B d h x.kids e.key hsl hx.kids (by omega)) ?_); rintro v H w hG' rfl; replace hG := hG.trans hG'; replace hS := hG'.sub; replace hx := hx.mono hG'.le; replace hsl := hsl.mono hG'.le; replace hb := hG'.le _ _ hb; clear hG'
    obtain ⟨a, b, h1, h2, h3, h4, _, _⟩ := Nd.kidOf_split hok e.key
    generalize Nd.kidOf x e.key = m at *
    have hq : a.length < x.kids.length := by rw [h1]; simp
    have hget : (x.kids.map Nd.ptr)[a.length * 1]? = some m.ptr := by rw [h1]; simp
    obtain ⟨bb, off, hA, hrow⟩ := slAt_some hsl hq
    have hm : NodeAt H h m := hx.kids m (by rw [h1]; simp)
    have hka : AllAt H h a := fun k hk => hx.kids k (by rw [h1]; simp [hk])
    have hkb : AllAt H h b := fun k hk => hx.kids k (by rw [h1]; simp [hk])
    have hbl : x.kids.length - (a.length + 1) = b.length := by rw [h1]; simp; omega
    have hxn : x.kids.length = a.length + 1 + b.length := by rw [h1]; simp; omega
    have hs1 : SlAt H B (a.map Nd.ptr) := by have := SlAt.take hsl a.length; rw [h1] at this; simpa using this
    have hs2 : SlAt H (slAddr B d (a.length + 1) 1) (b.map Nd.ptr) := by
      have := SlAt.drop (l := a.length + 1) (sz := 1) hsl (by simp) hd
      rw [h1] at this
      rw [show (List.map Nd.ptr (a ++ m :: b)).drop ((a.length + 1) * 1) = b.map Nd.ptr by
        rw [Nat.mul_one, List.map_append, List.map_cons, List.drop_append, List.length_map, List.drop_eq_nil_of_le (by simp)]
        simp [show a.length + 1 - a.length = 1 by omega]] at this
      exact this
    have hle := hG.le
    rw [h2]
    (refine S_op ?_; refine W_assignInt (by first | rfl | assumption) ?_; refine S_nil ?_; refine CW_seq ?_)
    apply CW_region_grow [_, _, _, _, _, _, _, _, _, _, _, _, _, _, _, _, _] [none, none, none, none, none, none, none, none, none, none, none, none, none, none, none, none, none] [some 21, some 22, some 23, some 24, some 25, some 26, some 27, some 28, some 29, some 30, some 31, some 32, some 33, some 34, some 35, some 36, some 4] [21, 22, 23, 24, 25, 26, 27, 28, 29, 30, 31, 32, 33, 34, 35, 36, 4] mixed rfl rfl rfl rfl (by decide) rfl (by assumption)
    · ((apply steps_cons; case h1 => (apply A_pure; intro c u H' w' hG; have hS' := hG.sub; have hS2' := hG.subOld; (repeat (first | refine depGo_eq rfl rfl rfl ?_ | (refine depGo_fact rfl rfl rfl ?_; intro v hv) | refine depGo_skip rfl ?_ | refine depGo_none rfl ?_)); apply Pure1.mk; intro K hk; exact W_moveSl (by first | rfl | assumption) hk)); (apply steps_cons; case h1 => (apply A_pure; intro c u H' w' hG; have hS' := hG.sub; have hS2' := hG.subOld; (repeat (first | refine depGo_eq rfl rfl rfl ?_ | (refine depGo_fact rfl rfl rfl ?_; intro v hv) | refine depGo_skip rfl ?_ | refine depGo_none rfl ?_)); apply Pure1.mk; intro K hk; exact W_moveInt (by first | rfl | assumption) hk)); (apply steps_cons; case h1 => (apply A_pure; intro c u H' w' hG; have hS' := hG.sub; have hS2' := hG.subOld; (repeat (first | refine depGo_eq rfl rfl rfl ?_ | (refine depGo_fact rfl rfl rfl ?_; intro v hv) | refine depGo_skip rfl ?_ | refine depGo_none rfl ?_)); apply Pure1.mk; intro K hk; exact W_sliceHi (by first | rfl | assumption) (by first | rfl | assumption) (by omega) hk)); (apply steps_cons; case h1 => (apply A_pure; intro c u H' w' hG; have hS' := hG.sub; have hS2' := hG.subOld; (repeat (first | refine depGo_eq rfl rfl rfl ?_ | (refine depGo_fact rfl rfl rfl ?_; intro v hv) | refine depGo_skip rfl ?_ | refine depGo_none rfl ?_)); apply Pure1.mk; intro K hk; exact W_moveSl (by first | rfl | assumption) hk)); (apply steps_cons; case h1 => (apply A_pure; intro c u H' w' hG; have hS' := hG.sub; have hS2' := hG.subOld; (repeat (first | refine depGo_eq rfl rfl rfl ?_ | (refine depGo_fact rfl rfl rfl ?_; intro v hv) | refine depGo_skip rfl ?_ | refine depGo_none rfl ?_)); apply Pure1.mk; intro K hk; exact W_moveInt (by first | rfl | assumption) hk)); (apply steps_cons; case h1 => (apply A_pure; intro c u H' w' hG; have hS' := hG.sub; have hS2' := hG.subOld; (repeat (first | refine depGo_eq rfl rfl rfl ?_ | (refine depGo_fact rfl rfl rfl ?_; intro v hv) | refine depGo_skip rfl ?_ | refine depGo_none rfl ?_)); apply Pure1.mk; intro K hk; exact W_index (by first | rfl | assumption) (by first | rfl | assumption) (by first | assumption | omega | decide) (by first | rfl | assumption) hk)))
      apply steps_cons; case h1 => (apply A_pure; intro c u H' w' hG'; have hS2' := hG'.subOld; (repeat (first | refine depGo_eq rfl rfl rfl ?_ | (refine depGo_fact rfl rfl rfl ?_; intro v hv) | refine depGo_skip rfl ?_ | refine depGo_none rfl ?_)); apply Pure1.mk; intro K hk; exact W_loadRow (j := a.length * 1) (by rfl) hrow hget hS2' hk)
      ((apply steps_cons; case h1 => (apply A_pure; intro c u H' w' hG; have hS' := hG.sub; have hS2' := hG.subOld; (repeat (first | refine depGo_eq rfl rfl rfl ?_ | (refine depGo_fact rfl rfl rfl ?_; intro v hv) | refine depGo_skip rfl ?_ | refine depGo_none rfl ?_)); apply Pure1.mk; intro K hk; exact W_loadWhole (by first | rfl | assumption) (by assumption) (by rfl) (by assumption) hk)))
      (apply steps_cons; case h1 => (refine A_fact (φ := (fun v H3 => ∃ sub, NdsAt H3 h v sub ∧ PutOut h m e sub)) ?_; intro c' u H' w' hG; have hS' := hG.sub; (repeat (first | refine depGo_eq rfl rfl rfl ?_ | (refine depGo_fact rfl rfl rfl ?_; intro v hv) | refine depGo_skip rfl ?_ | refine depGo_none rfl ?_)); refine depGo_nil ?_; refine W_call hS' (by rfl) (ih H' m e (hm.mono hG.le) he (by omega)) ?_; intro v H3 w3 hG3 hr; exact ⟨H3, hG3.le, hG.trans hG3, fun H'' hle => (by
          obtain ⟨sub, h1, h2, h3⟩ := hr
          exact ⟨sub, h1.mono hle, h2⟩)⟩))
      ((apply steps_cons; case h1 => (apply A_pure; intro c u H' w' hG; have hS' := hG.sub; have hS2' := hG.subOld; (repeat (first | refine depGo_eq rfl rfl rfl ?_ | (refine depGo_fact rfl rfl rfl ?_; intro v hv) | refine depGo_skip rfl ?_ | refine depGo_none rfl ?_)); apply Pure1.mk; intro K hk; exact W_moveSl (by first | rfl | assumption) hk)); (apply steps_cons; case h1 => (apply A_pure; intro c u H' w' hG; have hS' := hG.sub; have hS2' := hG.subOld; (repeat (first | refine depGo_eq rfl rfl rfl ?_ | (refine depGo_fact rfl rfl rfl ?_; intro v hv) | refine depGo_skip rfl ?_ | refine depGo_none rfl ?_)); apply Pure1.mk; intro K hk; exact W_moveInt (by first | rfl | assumption) hk)); (apply steps_cons; case h1 => (apply A_pure; intro c u H' w' hG; have hS' := hG.sub; have hS2' := hG.subOld; (repeat (first | refine depGo_eq rfl rfl rfl ?_ | (refine depGo_fact rfl rfl rfl ?_; intro v hv) | refine depGo_skip rfl ?_ | refine depGo_none rfl ?_)); apply Pure1.mk; intro K hk; exact W_add1 (by first | rfl | assumption) (by omega) hk)); (apply steps_cons; case h1 => (apply A_pure; intro c u H' w' hG; have hS' := hG.sub; have hS2' := hG.subOld; (repeat (first | refine depGo_eq rfl rfl rfl ?_ | (refine depGo_fact rfl rfl rfl ?_; intro v hv) | refine depGo_skip rfl ?_ | refine depGo_none rfl ?_)); apply Pure1.mk; intro K hk; exact W_sliceLo (by first | rfl | assumption) (by first | rfl | assumption) (by omega) hk)))
      apply steps_cons
      · refine A_fact (φ := fun v H3 => ∃ sub, IsCat 1 v 3 (a.length + (sub.length + b.length)) (a.map Nd.ptr ++ (sub.map Nd.ptr ++ b.map Nd.ptr)) H3 ∧ AllAt H3 h sub ∧ PutOut h m e sub) ?_
        intro c' u H' w' hG'
        have hS' := hG'.sub
        (repeat (first | refine depGo_eq rfl rfl rfl ?_ | (refine depGo_fact rfl rfl rfl ?_; intro v hv) | refine depGo_skip rfl ?_ | refine depGo_none rfl ?_))
        obtain ⟨sub, ⟨B2, d2, rfl, hd2, hsl2, hk2⟩, hp⟩ := hv
        have i1 : IsSl 1 (.slice B a.length d) a.length (a.map Nd.ptr) H' := ⟨B, d, rfl, by omega, hs1.mono hG'.le, by simp⟩
        have i2 : IsSl 1 (.slice B2 sub.length d2) sub.length (sub.map Nd.ptr) H' := ⟨B2, d2, rfl, hd2, hsl2, by simp⟩
        have i3 : IsSl 1 (.slice (slAddr B d (a.length + 1) 1) (x.kids.length - (a.length + 1)) (d - (a.length + 1))) b.length (b.map Nd.ptr) H' := ⟨_, _, by rw [hbl], by omega, hs2.mono hG'.le, by simp⟩
        refine depGo_nil ?_
        refine W_buildOnes hS' (by omega) (by rfl) (by rfl) ?_
        intro H3 w3 g hG3 hb3 _ _
        exact ⟨H3, hG3.le, hG'.trans hG3, fun H'' hle => ⟨sub, (isCat3 hb3 hG3.le i1 i2 i3 (ptr_one _) (ptr_one _) (ptr_one _)).mono hle, (hk2.mono hG3.le).mono hle, hp⟩⟩
      (apply steps_cons; case h1 => (refine A_fact (φ := (fun v H3 => ∃ sub, NdsAt H3 h v (a ++ sub ++ b) ∧ PutOut h m e sub)) ?_; intro c' u H' w' hG'; have hS' := hG'.sub; (repeat (first | refine depGo_eq rfl rfl rfl ?_ | (refine depGo_fact rfl rfl rfl ?_; intro v hv) | refine depGo_skip rfl ?_ | refine depGo_none rfl ?_)); rename_i v1 hv1; obtain ⟨sub, hcat, hk2, hp⟩ := hv1; refine depGo_nil ?_; refine W_call hS' (by rfl) ((have hsn := hp.len; cat_Node H' _ _ _ _ hcat (by omega) (by omega))) ?_; intro v H3 w3 hG3 hr; exact ⟨H3, hG3.le, hG'.trans hG3, fun H'' hle => ⟨sub, nds_of (by
          have e1 : (a ++ sub ++ b).length = a.length + (sub.length + b.length) := by rw [List.length_append, List.length_append]; omega
          rw [e1, List.map_append, List.map_append, List.append_assoc]; exact hr.mono hle) (((hka.mono hG'.le).append hk2).append (hkb.mono hG'.le) |>.mono hG3.le |>.mono hle), hp⟩⟩))
      (apply steps_cons; case h1 => (refine A_fact (φ := (fun v H3 => ∃ sub out, NdsAt H3 (h + 1) v out ∧ branchesOut (a ++ sub ++ b) out ∧ PutOut h m e sub ∧ ∀ k ∈ out, H k.blk = none)) ?_; intro c' u H' w' hG'; have hS' := hG'.sub; (repeat (first | refine depGo_eq rfl rfl rfl ?_ | (refine depGo_fact rfl rfl rfl ?_; intro v hv) | refine depGo_skip rfl ?_ | refine depGo_none rfl ?_)); obtain ⟨sub, ⟨B3, d3, rfl, hd3, hsl3, hk3⟩, hp⟩ := hv; refine depGo_nil ?_; refine W_call hS' (by rfl) ((branches_c H' B3 d3 h (a ++ sub ++ b) hsl3 hk3 hd3 (by have hsn := hp.len; have h5 := hok.1; simp; omega) (by have hsn := hp.len; simp; omega) ((Nd.chain_iff hk3.ok).2 (by rw [put_items hok h1 h3 h4 hp]; exact rise_withL e hok.2.2.2)) (by omega))) ?_; intro v H3 w3 hG3 hr; exact ⟨H3, hG3.le, hG'.trans hG3, fun H'' hle => (by
          obtain ⟨out, q1, q2, q3⟩ := hr
          exact ⟨sub, out, q1.mono hle, q2, hp, fun k hk => hG'.le.none (q3 k hk)⟩)⟩))
      apply steps_cons; case h1 => (refine A_fact (φ := (fun v H3 => ∃ sub out, NdsAt H3 (h + 1) v out ∧ branchesOut (a ++ sub ++ b) out ∧ PutOut h m e sub ∧ ∀ k ∈ out, H k.blk = none)) ?_; intro c u H' w' hG; (repeat (first | refine depGo_eq rfl rfl rfl ?_ | (refine depGo_fact rfl rfl rfl ?_; intro v hv) | refine depGo_skip rfl ?_ | refine depGo_none rfl ?_)); refine depGo_nil ?_; refine W_assign (by rfl) ?_; exact ⟨H', HLe.refl _, hG, fun H'' hle => (fun ⟨sub, out, q1, q2, q3, q4⟩ hle => ⟨sub, out, q1.mono hle, q2, q3, q4⟩) hv hle⟩)
      exact trivial
    · intro H' w' hG'
      (repeat (first | refine fin_eq rfl rfl ?_ | (refine fin_fact rfl ?_; intro v hv) | refine fin_none rfl ?_)); refine fin_nil ?_
      (refine CW_ret ?_)
      obtain ⟨sub, out, q1, q2, q3, q4⟩ := hv
      exact ⟨_, ResW_one (v := v) rfl, H', hG.trans hG', out, q1, put_branch hok h1 h3 h4 q3 q2, fun k hk => hle.none (q4 k hk)⟩
/-! ### Put -/
def Tr.blocks : Tr → List Nat
  | none => []
  | some x => Nd.blocks x.1 x.2
structure Putted (H : HF) (t : Tr) (e : Ent) (t' : Tr) : Prop where
  items : t'.items = withL t.items e
  full : t.full = true → t'.full = true
  same : look t.items e.key = some e → t' = t
  fresh : look t.items e.key ≠ some e → ∃ (h : Nat) (x : Nd h), t' = trOf x ∧ H x.blk = none
  blocks : ∃ N : List Nat, N.length ≤ 2 * t.height + 1 ∧ ∀ b ∈ t'.blocks, b ∈ N ∨ b ∈ t.blocks
theorem Tr.At.ok {H : HF} {t : Tr} (ht : Tr.At H t) : riseB t.items = true ∧ ∀ e ∈ t.items, entOk e = true := by
  cases t with
  | none => exact ⟨rfl, by intro e he; cases he⟩
  | some x => exact ⟨(Nd.ok_len (NodeAt.ok ht)).2, Nd.ok_ents (NodeAt.ok ht)⟩
theorem withL_same {l : List Ent} (hr : riseB l = true) {e : Ent} (h : look l e.key = some e) : withL l e = l := by
  rcases split_at hr e.key with ⟨p, q, rfl, h1, h2⟩ | ⟨p, x, q, rfl, h1, hx, h2⟩
  · rw [look_no h1 h2] at h; cases h
  · rw [look_yes h1 hx h2] at h
    cases h
    rw [withL_yes h1 rfl h2]
theorem look_iff {l : List Ent} {e : Ent} : look l e.key = some e ↔ lookB l e.key = true ∧ lookV l e.key = e.val := by
  cases hl : look l e.key with
  | none => simp [lookB, hl]
  | some x =>
    have hk := (look_at hl).2.2.2
    simp only [lookB, lookV, hl, Option.isSome_some, Option.map_some, Option.getD_some, true_and, Option.some.injEq]
    constructor
    · intro h; rw [h]
    · intro h; cases x; cases e; simp_all
theorem putted_same {H : HF} {t : Tr} {e : Ent} (ht : Tr.At H t) (h : look t.items e.key = some e) : Putted H t e t :=
  ⟨(withL_same ht.ok.1 h).symm, fun h => h, fun _ => rfl, fun h2 => absurd h h2, [], by simp, fun b hb => .inr hb⟩
theorem putted_one {H : HF} {h : Nat} {x y : Nd h} {e : Ent} (hp : PutOut h x e [y]) (hf : H y.blk = none) (hn : look (Nd.items h x) e.key ≠ some e) : Putted H (trOf x) e (trOf y) := by
  obtain ⟨N, hN, hb⟩ := hp.blocks
  refine ⟨by have := hp.items; rw [List.flatMap_singleton] at this; exact this, fun hfx => hp.full hfx y (by simp), fun h => absurd h hn, fun _ => ⟨h, y, rfl, hf⟩, N, by simp [Tr.height, trOf]; omega, fun b hb2 => hb y (by simp) b hb2⟩
theorem putted_two {H : HF} {h : Nat} {x y z : Nd h} {e : Ent} {g : Nat} (hp : PutOut h x e [y, z]) (hf : H g = none) (hn : look (Nd.items h x) e.key ≠ some e) : Putted H (trOf x) e (trOf (Nd.branch g [y, z])) := by
  obtain ⟨N, hN, hb⟩ := hp.blocks
  refine ⟨?_, fun hfx => ?_, fun h => absurd h hn, fun _ => ⟨h + 1, _, rfl, hf⟩, g :: N, by simp [Tr.height, trOf]; omega, fun b hb2 => ?_⟩
  · have := hp.items
    show ([y, z] : List (Nd h)).flatMap (Nd.items h) = _
    exact this
  · show ([y, z] : List (Nd h)).all (fun k => Nd.enough h k && Nd.full h k) = true
    simp only [List.all_eq_true, Bool.and_eq_true]
    exact fun k hk => ⟨hp.two hfx (.inr rfl) k hk, hp.full hfx k hk⟩
  · have hb2 : b ∈ Nd.blocks (h + 1) (Nd.branch g [y, z]) := hb2
    simp only [Nd.blocks, Nd.kids_branch, Nd.blk_branch, List.mem_cons, List.mem_flatMap] at hb2
    rcases hb2 with rfl | ⟨k, hk, hb2⟩
    · exact .inl (by simp)
    · rcases hb k (by simpa using hk) b hb2 with h | h
      · exact .inl (by simp [h])
      · exact .inr h
theorem putted_nil {H : HF} {e : Ent} {b : Nat} (hf : H b = none) : Putted H none e (trOf (Nd.leaf b [e])) :=
  ⟨rfl, fun _ => rfl, fun h => (by cases h), fun _ => ⟨0, _, rfl, hf⟩, [b], by simp [Tr.height], fun q hq => .inl hq⟩
theorem Putted.old {H0 H : HF} {t t' : Tr} {e : Ent} (h : Putted H t e t') (hle : HLe H0 H) : Putted H0 t e t' :=
  ⟨h.items, h.full, h.same, fun hn => by
    obtain ⟨k, x, h1, h2⟩ := h.fresh hn
    exact ⟨k, x, h1, hle.none h2⟩, h.blocks⟩
theorem put_nil_c (H : HF) (e : Ent) (he : entOk e = true) : Fn Try.prog 62 [.pointer none, .agg #[.string e.key, .string e.val]] H fun v H' => ∃ b, OneAt H H' 0 v (.leaf b [e]) := by
  refine Fn_of_CW Try.func62 rfl Try.ntmps62 Try.results62 rfl fun w hS => ?_; have hG := Grow.refl hS; have hS0 := hS
  (refine CW_seq ?_; refine CW_region rfl ?_)
  (refine S_op (W_boxAgg hS (by rfl) ?_)); intro H w _ hG' hb; replace hG := hG.trans hG'; replace hS := hG'.sub; clear hG'
  (refine S_op ?_; refine W_assignSl (by first | rfl | assumption) ?_; refine S_nil ?_; refine CW_seq ?_; refine CW_seq ?_; refine CW_region rfl ?_; refine S_op ?_; refine W_movePtr (by first | rfl | assumption) ?_)
  (refine S_op ?_; refine W_call hS (by rfl) (height_nil (H := H)) ?_); rintro v H w hG' rfl; replace hG := hG.trans hG'; replace hS := hG'.sub; replace hb := hG'.le _ _ hb; clear hG'
  have hle := hG.le
  (refine S_op ?_; refine W_leqT (by first | rfl | assumption) (by first | rfl | assumption) (by first | omega | rfl) ?_; refine S_nil ?_; refine CW_true (by first | rfl | assumption) ?_; refine CW_seq ?_)
  apply CW_region_grow [_, _, _, _, _, _] [none, none, none, none, none, none] [some 10, some 11, some 12, some 13, some 14, some 4] [10, 11, 12, 13, 14, 4] mixed rfl rfl rfl rfl (by decide) rfl (by assumption)
  · ((apply steps_cons; case h1 => (apply A_pure; intro c u H' w' hG; have hS' := hG.sub; have hS2' := hG.subOld; (repeat (first | refine depGo_eq rfl rfl rfl ?_ | (refine depGo_fact rfl rfl rfl ?_; intro v hv) | refine depGo_skip rfl ?_ | refine depGo_none rfl ?_)); apply Pure1.mk; intro K hk; exact W_movePtr (by first | rfl | assumption) hk)))
    (apply steps_cons; case h1 => (refine A_fact (φ := (fun v H => v = .slice none 0 0)) ?_; intro c' u H' w' hG; have hS' := hG.sub; (repeat (first | refine depGo_eq rfl rfl rfl ?_ | (refine depGo_fact rfl rfl rfl ?_; intro v hv) | refine depGo_skip rfl ?_ | refine depGo_none rfl ?_)); refine depGo_nil ?_; refine W_call hS' (by rfl) (entries_nil) ?_; intro v H3 w3 hG3 hr; exact ⟨H3, hG3.le, hG.trans hG3, fun H'' hle => hr⟩))
    ((apply steps_cons; case h1 => (apply A_pure; intro c u H' w' hG; have hS' := hG.sub; have hS2' := hG.subOld; (repeat (first | refine depGo_eq rfl rfl rfl ?_ | (refine depGo_fact rfl rfl rfl ?_; intro v hv) | refine depGo_skip rfl ?_ | refine depGo_none rfl ?_)); apply Pure1.mk; intro K hk; exact W_loadWhole (by first | rfl | assumption) (by assumption) (by rfl) (by assumption) hk)))
    (apply steps_cons; case h1 => (refine A_fact (φ := (fun v H => IsEnts v [e] H)) ?_; intro c' u H' w' hG; have hS' := hG.sub; (repeat (first | refine depGo_eq rfl rfl rfl ?_ | (refine depGo_fact rfl rfl rfl ?_; intro v hv) | refine depGo_skip rfl ?_ | refine depGo_none rfl ?_)); refine depGo_nil ?_; refine W_call hS' (by rfl) (with_c H' none 0 [] e (.inl rfl) (Nat.le_refl _) (by simp)) ?_; intro v H3 w3 hG3 hr; exact ⟨H3, hG3.le, hG.trans hG3, fun H'' hle => hr.mono hle⟩))
    (apply steps_cons; case h1 => (refine A_fact (φ := (fun v H3 => ∃ b, OneAt H H3 0 v (.leaf b [e]))) ?_; intro c' u H' w' hG'; have hS' := hG'.sub; (repeat (first | refine depGo_eq rfl rfl rfl ?_ | (refine depGo_fact rfl rfl rfl ?_; intro v hv) | refine depGo_skip rfl ?_ | refine depGo_none rfl ?_)); obtain ⟨A1, c1, rfl, hc1, hl1⟩ := hv; refine depGo_nil ?_; refine W_call hS' (by rfl) (leaves1_c H' A1 c1 [e] hl1 hc1 (by simp [leafB, riseB, he])) ?_; intro v H3 w3 hG3 hr; exact ⟨H3, hG3.le, hG'.trans hG3, fun H'' hle => (by
        obtain ⟨b, g, E, h1, h2, h3, h4⟩ := hr
        exact ⟨b, g, E, h1, hle _ _ h2, h3.mono hle, hG'.le.none h4⟩)⟩))
    apply steps_cons; case h1 => (refine A_fact (φ := (fun v H3 => ∃ b, OneAt H H3 0 v (.leaf b [e]))) ?_; intro c u H' w' hG; (repeat (first | refine depGo_eq rfl rfl rfl ?_ | (refine depGo_fact rfl rfl rfl ?_; intro v hv) | refine depGo_skip rfl ?_ | refine depGo_none rfl ?_)); refine depGo_nil ?_; refine W_assign (by rfl) ?_; exact ⟨H', HLe.refl _, hG, fun H'' hle => (fun ⟨b, h1⟩ hle => ⟨b, h1.mono hle⟩) hv hle⟩)
    exact trivial
  · intro H' w' hG'
    (repeat (first | refine fin_eq rfl rfl ?_ | (refine fin_fact rfl ?_; intro v hv) | refine fin_none rfl ?_)); refine fin_nil ?_
    (refine CW_ret ?_)
    obtain ⟨b, g, E, h1, h2, h3, h4⟩ := hv
    exact ⟨_, ResW_one (v := v) rfl, H', hG.trans hG', b, g, E, h1, h2, h3, hle.none h4⟩
theorem put_t (H : HF) (t : Tr) (e : Ent) (ht : Tr.At H t) (hh : t.height ≤ 800000) :
    Fn Try.prog 44 [t.val, .agg #[.string e.key, .string e.val]] H fun v H' =>
      (rKey e.key ≠ 0 ∧ v = .tuple #[.pointer none, .int .i64 (rKey e.key : Nat)]) ∨ (rKey e.key = 0 ∧ rValue e.val ≠ 0 ∧ v = .tuple #[.pointer none, .int .i64 (rValue e.val : Nat)]) ∨
      (entOk e = true ∧ ∃ t', v = .tuple #[Tr.val t', .int .i64 0] ∧ Tr.At H' t' ∧ Putted H t e t') := by
  refine Fn_of_CW Try.func44 rfl Try.ntmps44 Try.results44 rfl fun w hS => ?_; have hG := Grow.refl hS; have hS0 := hS
  (refine CW_seq ?_; refine CW_region rfl ?_)
  (refine S_op (W_boxAgg hS (by rfl) ?_)); intro H w _ hG' hb; replace hG := hG.trans hG'; replace hS := hG'.sub; replace ht := ht.mono hG'.le; clear hG'
  (refine S_op ?_; refine W_assignPtr (by first | rfl | assumption) ?_; refine S_op ?_; refine W_assignInt (by first | rfl | assumption) ?_; refine S_nil ?_; refine CW_seq ?_; refine CW_seq ?_; refine CW_region rfl ?_; refine S_op ?_; refine W_field (by first | rfl | assumption) ?_; refine S_op ?_; refine W_loadHL (by first | rfl | assumption) (by assumption) (by rfl) (by assumption) ?_)
  (refine S_op ?_; refine W_call hS (by rfl) (key_c H e.key) ?_); rintro v H w hG' rfl; replace hG := hG.trans hG'; replace hS := hG'.sub; replace ht := ht.mono hG'.le; replace hb := hG'.le _ _ hb; clear hG'
  by_cases hk : rKey e.key = 0
  · (refine S_op ?_; refine W_assignInt (by first | rfl | assumption) ?_; refine S_nil ?_; refine CW_seq ?_; refine CW_region rfl ?_; refine S_op ?_; refine W_moveInt (by first | rfl | assumption) ?_; refine S_op ?_; refine W_neqF (by first | rfl | assumption) (by first | rfl | assumption) (by first | omega | rfl) ?_; refine S_nil ?_; refine CW_false (by first | rfl | assumption) ?_; refine CW_skip ?_; refine CW_seq ?_; refine CW_seq ?_; refine CW_region rfl ?_; refine S_op ?_; refine W_field (by first | rfl | assumption) ?_; refine S_op ?_; refine W_loadHL (by first | rfl | assumption) (by assumption) (by rfl) (by assumption) ?_)
    (refine S_op ?_; refine W_call hS (by rfl) (value_c H e.val) ?_); rintro v H w hG' rfl; replace hG := hG.trans hG'; replace hS := hG'.sub; replace ht := ht.mono hG'.le; replace hb := hG'.le _ _ hb; clear hG'
    by_cases hv : rValue e.val = 0
    · have he : entOk e = true := by simp [entOk, hk, hv]
      (refine S_op ?_; refine W_assignInt (by first | rfl | assumption) ?_; refine S_nil ?_; refine CW_seq ?_; refine CW_region rfl ?_; refine S_op ?_; refine W_moveInt (by first | rfl | assumption) ?_; refine S_op ?_; refine W_neqF (by first | rfl | assumption) (by first | rfl | assumption) (by first | omega | rfl) ?_; refine S_nil ?_; refine CW_false (by first | rfl | assumption) ?_; refine CW_skip ?_; refine CW_seq ?_; refine CW_seq ?_; refine CW_region rfl ?_; refine S_op ?_; refine W_movePtr (by first | rfl | assumption) ?_; refine S_op ?_; refine W_field (by first | rfl | assumption) ?_; refine S_op ?_; refine W_loadHL (by first | rfl | assumption) (by assumption) (by rfl) (by assumption) ?_)
      (refine S_op ?_; refine W_call hS (by rfl) (get_t ht e.key (by omega)) ?_); rintro v H w hG' rfl; replace hG := hG.trans hG'; replace hS := hG'.sub; replace ht := ht.mono hG'.le; replace hb := hG'.le _ _ hb; clear hG'
      have hle := hG.le
      by_cases hsame : look t.items e.key = some e
      · obtain ⟨q1, q2⟩ := look_iff.1 hsame
        rw [q1]
        (refine S_op ?_; refine W_moveTup (by first | rfl | assumption) ?_; refine S_op ?_; refine W_extract (by first | rfl | assumption) (by rfl) ?_; refine S_op ?_; refine W_extract (by first | rfl | assumption) (by rfl) ?_; refine S_op ?_; refine W_assignStr (by first | rfl | assumption) ?_; refine S_op ?_; refine W_assignBool (by first | rfl | assumption) ?_; refine S_nil ?_; refine CW_seq ?_; refine CW_region rfl ?_; refine S_op ?_; refine W_moveBool (by first | rfl | assumption) ?_; refine S_op ?_; refine W_moveBool (by first | rfl | assumption) ?_; refine S_want (by rfl) ?_; refine W_moveStr (by first | rfl | assumption) ?_; refine S_want (by rfl) ?_; refine W_field (by first | rfl | assumption) ?_; refine S_want (by rfl) ?_; refine W_loadHL (by first | rfl | assumption) (by assumption) (by rfl) (by assumption) ?_; refine S_want (by rfl) ?_; refine W_seqlT (by first | rfl | assumption) (by first | rfl | assumption) (by first | assumption | rfl) ?_; refine S_op ?_; refine W_pickT (by first | rfl | assumption) (by first | rfl | assumption) ?_; refine S_nil ?_; refine CW_true (by first | rfl | assumption) ?_; refine CW_seq ?_; refine CW_region rfl ?_; refine S_op ?_; refine W_movePtr (by first | rfl | assumption) ?_; refine S_op ?_; refine W_assignPtr (by first | rfl | assumption) ?_; refine S_op ?_; refine W_assignInt (by first | rfl | assumption) ?_; refine S_nil ?_; refine CW_ret ?_)
        exact ⟨_, ResW_two (v1 := t.val) (v2 := .int _ _) rfl rfl, H, hG, .inr (.inr ⟨he, t, rfl, ht, (putted_same ht hsame).old hle⟩)⟩
      · cases t with
        | none =>
          have q1 : lookB (Tr.items none) e.key = false := rfl
          rw [q1]
          (refine S_op ?_; refine W_moveTup (by first | rfl | assumption) ?_; refine S_op ?_; refine W_extract (by first | rfl | assumption) (by rfl) ?_; refine S_op ?_; refine W_extract (by first | rfl | assumption) (by rfl) ?_; refine S_op ?_; refine W_assignStr (by first | rfl | assumption) ?_; refine S_op ?_; refine W_assignBool (by first | rfl | assumption) ?_; refine S_nil ?_; refine CW_seq ?_; refine CW_region rfl ?_; refine S_op ?_; refine W_moveBool (by first | rfl | assumption) ?_; refine S_op ?_; refine W_moveBool (by first | rfl | assumption) ?_; refine S_pass (by rfl) ?_; refine S_pass (by rfl) ?_; refine S_pass (by rfl) ?_; refine S_pass (by rfl) ?_; refine S_op ?_; refine W_pickF (by first | rfl | assumption) (by first | rfl | assumption) ?_; refine S_nil ?_; refine CW_false (by first | rfl | assumption) ?_; refine CW_skip ?_; refine CW_seq ?_; refine CW_region rfl ?_; refine S_op ?_; refine W_movePtr (by first | rfl | assumption) ?_; refine S_op ?_; refine W_loadWhole (by first | rfl | assumption) (by assumption) (by rfl) (by assumption) ?_)
          (refine S_op ?_; refine W_call hS (by rfl) (put_nil_c H e he) ?_); rintro v H w hG' ⟨b, g, E, rfl, hg, hx, hf⟩; replace hG := hG.trans hG'; replace hS := hG'.sub; clear hG'
          skip
          (refine S_op ?_; refine W_call hS (by rfl) (branches0_c H _ 1 1 (Nat.le_refl _)) ?_); rintro v H w hG' rfl; replace hG := hG.trans hG'; replace hS := hG'.sub; replace hg := hG'.le _ _ hg; replace hx := hx.mono hG'.le; clear hG'
          (refine S_op ?_; refine W_index (by first | rfl | assumption) (by first | rfl | assumption) (by first | assumption | omega | decide) (by first | rfl | assumption) ?_; refine S_op ?_; refine W_loadHL (by first | rfl | assumption) (by assumption) (by rfl) (by assumption) ?_; refine S_op ?_; refine W_assignPtr (by first | rfl | assumption) ?_; refine S_op ?_; refine W_assignInt (by first | rfl | assumption) ?_; refine S_nil ?_; refine CW_ret ?_)
          exact ⟨_, ResW_two (v1 := .pointer _) (v2 := .int _ _) rfl rfl, H, hG, .inr (.inr ⟨he, trOf (Nd.leaf b [e]), rfl, hx, (putted_nil hf).old hle⟩)⟩
        | some x =>
          obtain ⟨h, x⟩ := x
          have hx : NodeAt H h x := ht
          have hh : h + 1 ≤ 800000 := hh
          have hns : ¬ (lookB (Tr.items (some ⟨h, x⟩)) e.key = true ∧ lookV (Tr.items (some ⟨h, x⟩)) e.key = e.val) := fun hq => hsame (look_iff.2 hq)
          cases hlb : lookB (Tr.items (some ⟨h, x⟩)) e.key with
          | false =>
            (refine S_op ?_; refine W_moveTup (by first | rfl | assumption) ?_; refine S_op ?_; refine W_extract (by first | rfl | assumption) (by rfl) ?_; refine S_op ?_; refine W_extract (by first | rfl | assumption) (by rfl) ?_; refine S_op ?_; refine W_assignStr (by first | rfl | assumption) ?_; refine S_op ?_; refine W_assignBool (by first | rfl | assumption) ?_; refine S_nil ?_; refine CW_seq ?_; refine CW_region rfl ?_; refine S_op ?_; refine W_moveBool (by first | rfl | assumption) ?_; refine S_op ?_; refine W_moveBool (by first | rfl | assumption) ?_; refine S_pass (by rfl) ?_; refine S_pass (by rfl) ?_; refine S_pass (by rfl) ?_; refine S_pass (by rfl) ?_; refine S_op ?_; refine W_pickF (by first | rfl | assumption) (by first | rfl | assumption) ?_; refine S_nil ?_; refine CW_false (by first | rfl | assumption) ?_; refine CW_skip ?_; refine CW_seq ?_; refine CW_region rfl ?_; refine S_op ?_; refine W_movePtr (by first | rfl | assumption) ?_; refine S_op ?_; refine W_loadWhole (by first | rfl | assumption) (by assumption) (by rfl) (by assumption) ?_)
            (refine S_op ?_; refine W_call hS (by rfl) (put_c h H x e hx he (by omega)) ?_); rintro v H w hG' ⟨ks, ⟨B, d, rfl, hd, hsl, hk⟩, hp, hf⟩; replace hG := hG.trans hG'; replace hS := hG'.sub; clear hG'
            have hl := hp.len
            match ks, hl with
            | [y], _ =>
              obtain ⟨bb, off, hA, hrow⟩ := slAt_some hsl (q := 0) (by simp)
              have hget : ([y].map Nd.ptr)[0 * 1]? = some y.ptr := rfl
              skip
              (refine S_op ?_; refine W_call hS (by rfl) (branches0_c H B 1 d (Nat.le_refl _)) ?_); rintro v H w hG' rfl; replace hG := hG.trans hG'; replace hS := hG'.sub; replace hk := hk.mono hG'.le; replace hrow := hrow.mono hG'.le; clear hG'
              have hq0 : 0 < [y].length := by simp
              (refine S_op ?_; refine W_index (by first | rfl | assumption) (by first | rfl | assumption) (by first | assumption | omega | decide) (by first | rfl | assumption) ?_)
              refine S_op (W_loadRow (j := 0 * 1) (by rfl) hrow hget hS ?_)
              (refine S_op ?_; refine W_assignPtr (by first | rfl | assumption) ?_; refine S_op ?_; refine W_assignInt (by first | rfl | assumption) ?_; refine S_nil ?_; refine CW_ret ?_)
              exact ⟨_, ResW_two (v1 := y.ptr) (v2 := .int _ _) rfl rfl, H, hG, .inr (.inr ⟨he, trOf y, rfl, hk y (by simp), (putted_one hp (hf y (by simp)) hsame).old hle⟩)⟩
            | [y, z], _ =>
              have hch : Nd.chain [y, z] = true := (Nd.chain_iff hk.ok).2 (by rw [hp.items]; exact rise_withL e (Nd.ok_len hx.ok).2)
              skip
              have hle2 := hG.le
              (refine S_op ?_; refine W_call hS (by rfl) (branches1_c H B d h [y, z] hsl hk hd (by simp) (by simp) hch (by omega)) ?_); rintro v H w hG' ⟨g, gg, E, rfl, hgg, hx2, hf2⟩; replace hG := hG.trans hG'; replace hS := hG'.sub; clear hG'
              (refine S_op ?_; refine W_index (by first | rfl | assumption) (by first | rfl | assumption) (by first | assumption | omega | decide) (by first | rfl | assumption) ?_; refine S_op ?_; refine W_loadHL (by first | rfl | assumption) (by assumption) (by rfl) (by assumption) ?_; refine S_op ?_; refine W_assignPtr (by first | rfl | assumption) ?_; refine S_op ?_; refine W_assignInt (by first | rfl | assumption) ?_; refine S_nil ?_; refine CW_ret ?_)
              exact ⟨_, ResW_two (v1 := .pointer _) (v2 := .int _ _) rfl rfl, H, hG, .inr (.inr ⟨he, trOf (Nd.branch g [y, z]), rfl, hx2, (putted_two hp (hle2.none hf2) hsame)⟩)⟩
          | true =>
            have hne : ¬ lookV (Tr.items (some ⟨h, x⟩)) e.key = e.val := fun hq => hns ⟨hlb, hq⟩
            (refine S_op ?_; refine W_moveTup (by first | rfl | assumption) ?_; refine S_op ?_; refine W_extract (by first | rfl | assumption) (by rfl) ?_; refine S_op ?_; refine W_extract (by first | rfl | assumption) (by rfl) ?_; refine S_op ?_; refine W_assignStr (by first | rfl | assumption) ?_; refine S_op ?_; refine W_assignBool (by first | rfl | assumption) ?_; refine S_nil ?_; refine CW_seq ?_; refine CW_region rfl ?_; refine S_op ?_; refine W_moveBool (by first | rfl | assumption) ?_; refine S_op ?_; refine W_moveBool (by first | rfl | assumption) ?_; refine S_want (by rfl) ?_; refine W_moveStr (by first | rfl | assumption) ?_; refine S_want (by rfl) ?_; refine W_field (by first | rfl | assumption) ?_; refine S_want (by rfl) ?_; refine W_loadHL (by first | rfl | assumption) (by assumption) (by rfl) (by assumption) ?_; refine S_want (by rfl) ?_; refine W_seqlF (by first | rfl | assumption) (by first | rfl | assumption) (by assumption) ?_; refine S_op ?_; refine W_pickT (by first | rfl | assumption) (by first | rfl | assumption) ?_; refine S_nil ?_; refine CW_false (by first | rfl | assumption) ?_; refine CW_skip ?_; refine CW_seq ?_; refine CW_region rfl ?_; refine S_op ?_; refine W_movePtr (by first | rfl | assumption) ?_; refine S_op ?_; refine W_loadWhole (by first | rfl | assumption) (by assumption) (by rfl) (by assumption) ?_)
            (refine S_op ?_; refine W_call hS (by rfl) (put_c h H x e hx he (by omega)) ?_); rintro v H w hG' ⟨ks, ⟨B, d, rfl, hd, hsl, hk⟩, hp, hf⟩; replace hG := hG.trans hG'; replace hS := hG'.sub; clear hG'
            have hl := hp.len
            match ks, hl with
            | [y], _ =>
              obtain ⟨bb, off, hA, hrow⟩ := slAt_some hsl (q := 0) (by simp)
              have hget : ([y].map Nd.ptr)[0 * 1]? = some y.ptr := rfl
              skip
              (refine S_op ?_; refine W_call hS (by rfl) (branches0_c H B 1 d (Nat.le_refl _)) ?_); rintro v H w hG' rfl; replace hG := hG.trans hG'; replace hS := hG'.sub; replace hk := hk.mono hG'.le; replace hrow := hrow.mono hG'.le; clear hG'
              have hq0 : 0 < [y].length := by simp
              (refine S_op ?_; refine W_index (by first | rfl | assumption) (by first | rfl | assumption) (by first | assumption | omega | decide) (by first | rfl | assumption) ?_)
              refine S_op (W_loadRow (j := 0 * 1) (by rfl) hrow hget hS ?_)
              (refine S_op ?_; refine W_assignPtr (by first | rfl | assumption) ?_; refine S_op ?_; refine W_assignInt (by first | rfl | assumption) ?_; refine S_nil ?_; refine CW_ret ?_)
              exact ⟨_, ResW_two (v1 := y.ptr) (v2 := .int _ _) rfl rfl, H, hG, .inr (.inr ⟨he, trOf y, rfl, hk y (by simp), (putted_one hp (hf y (by simp)) hsame).old hle⟩)⟩
            | [y, z], _ =>
              have hch : Nd.chain [y, z] = true := (Nd.chain_iff hk.ok).2 (by rw [hp.items]; exact rise_withL e (Nd.ok_len hx.ok).2)
              skip
              have hle2 := hG.le
              (refine S_op ?_; refine W_call hS (by rfl) (branches1_c H B d h [y, z] hsl hk hd (by simp) (by simp) hch (by omega)) ?_); rintro v H w hG' ⟨g, gg, E, rfl, hgg, hx2, hf2⟩; replace hG := hG.trans hG'; replace hS := hG'.sub; clear hG'
              (refine S_op ?_; refine W_index (by first | rfl | assumption) (by first | rfl | assumption) (by first | assumption | omega | decide) (by first | rfl | assumption) ?_; refine S_op ?_; refine W_loadHL (by first | rfl | assumption) (by assumption) (by rfl) (by assumption) ?_; refine S_op ?_; refine W_assignPtr (by first | rfl | assumption) ?_; refine S_op ?_; refine W_assignInt (by first | rfl | assumption) ?_; refine S_nil ?_; refine CW_ret ?_)
              exact ⟨_, ResW_two (v1 := .pointer _) (v2 := .int _ _) rfl rfl, H, hG, .inr (.inr ⟨he, trOf (Nd.branch g [y, z]), rfl, hx2, (putted_two hp (hle2.none hf2) hsame)⟩)⟩
    · (refine S_op ?_; refine W_assignInt (by first | rfl | assumption) ?_; refine S_nil ?_; refine CW_seq ?_; refine CW_region rfl ?_; refine S_op ?_; refine W_moveInt (by first | rfl | assumption) ?_; refine S_op ?_; refine W_neqT (by first | rfl | assumption) (by first | rfl | assumption) (by first | omega | rfl) ?_; refine S_nil ?_; refine CW_true (by first | rfl | assumption) ?_; refine CW_seq ?_; refine CW_region rfl ?_; refine S_op ?_; refine W_moveInt (by first | rfl | assumption) ?_; refine S_op ?_; refine W_assignPtr (by first | rfl | assumption) ?_; refine S_op ?_; refine W_assignInt (by first | rfl | assumption) ?_; refine S_nil ?_; refine CW_ret ?_)
      exact ⟨_, ResW_two (v1 := .pointer _) (v2 := .int _ _) rfl rfl, H, hG, .inr (.inl ⟨hk, hv, rfl⟩)⟩
  · (refine S_op ?_; refine W_assignInt (by first | rfl | assumption) ?_; refine S_nil ?_; refine CW_seq ?_; refine CW_region rfl ?_; refine S_op ?_; refine W_moveInt (by first | rfl | assumption) ?_; refine S_op ?_; refine W_neqT (by first | rfl | assumption) (by first | rfl | assumption) (by first | omega | rfl) ?_; refine S_nil ?_; refine CW_true (by first | rfl | assumption) ?_; refine CW_seq ?_; refine CW_region rfl ?_; refine S_op ?_; refine W_moveInt (by first | rfl | assumption) ?_; refine S_op ?_; refine W_assignPtr (by first | rfl | assumption) ?_; refine S_op ?_; refine W_assignInt (by first | rfl | assumption) ?_; refine S_nil ?_; refine CW_ret ?_)
    exact ⟨_, ResW_two (v1 := .pointer _) (v2 := .int _ _) rfl rfl, H, hG, .inl ⟨hk, rfl⟩⟩
end Go.Proofs.Ytgaabmoknpifnaa
