/- How an iterator is walked: what it has given and where it stands. Conditions: each law's own premises. -/
import Derived.Test.YtnjeoobcejlojaaRange2
namespace Go.Proofs.Ytnjeoobcejlojaa
open Go.Proofs Go.RowKit
set_option linter.unusedVariables false
section
variable {P : Program} {α : Type} {J Jx J' : Inv α} {X0 X X' : Nat → Prop} {H0 H H' : HF} {w0 w w' : World} {p p' : List α} {xs : List α}
/-- Since (X0, H0, w0) the one who iterates has turned only its own; J is kept with p given. -/
structure Its (J : Inv α) (X0 : Nat → Prop) (H0 : HF) (w0 : World) (X : Nat → Prop) (p : List α) (H : HF) (w : World) : Prop where
  turn : Turn (notIn X0) H0 w0 H w
  sup : ∀ k, X0 k → X k
  new : ∀ k, X k → X0 k ∨ w0.heap.size ≤ k
  bnd : (∀ k, X0 k → k < w0.heap.size) → ∀ k, X k → k < w.heap.size
  has : J X p H w
theorem Its.start (hS : Sub H w) (h : J X p H w) : Its J X H w X p H w := ⟨Turn.refl hS, fun _ h => h, fun _ h => .inl h, fun h => h, h⟩
theorem Its.sub (h : Its J X0 H0 w0 X p H w) : Sub H w := h.turn.sub
theorem Its.le (h : Its J X0 H0 w0 X p H w) : HLe H0 H := h.turn.le
theorem Its.step (h : Its J X0 H0 w0 X p H w) (hJ : Stable J) (hG : Grow H w H' w') : Its J X0 H0 w0 (orNew X w w') p H' w' :=
  ⟨h.turn.trans hG.turn, fun k hk => .inl (h.sup k hk), fun k hk => by
    rcases hk with h1 | h1
    · exact h.new k h1
    · exact .inr (Nat.le_trans h.turn.size h1.1), fun hb k hk => by
    rcases hk with h1 | h1
    · exact Nat.lt_of_lt_of_le (h.bnd hb k h1) hG.below.size
    · exact h1.2, hJ _ _ _ _ _ _ h.has hG.turn⟩
/-- Rows that belong to the one who iterates are turned. -/
theorem Its.own {S : Nat → Prop} (h : Its J X0 H0 w0 X p H w) (hJ : Stable J) (hT : Turn S H w H' w') (hS : ∀ k, S k → X k ∧ ¬ X0 k) : Its J X0 H0 w0 (orNew X w w') p H' w' :=
  ⟨h.turn.trans (hT.wider fun k _ hk => (hS k hk).2), fun k hk => .inl (h.sup k hk), fun k hk => by
    rcases hk with h1 | h1
    · exact h.new k h1
    · exact .inr (Nat.le_trans h.turn.size h1.1), fun hb k hk => by
    rcases hk with h1 | h1
    · exact Nat.lt_of_lt_of_le (h.bnd hb k h1) hT.size
    · exact h1.2, hJ _ _ _ _ _ _ h.has (hT.wider fun k _ hk => (hS k hk).1)⟩
theorem Its.trans (h : Its J X0 H0 w0 X p H w) (k : Its J' X H w X' p' H' w') : Its J' X0 H0 w0 X' p' H' w' :=
  ⟨h.turn.trans (k.turn.wider fun b _ hb h2 => hb (h.sup b h2)), fun b hb => k.sup b (h.sup b hb), fun b hb => by
    rcases k.new b hb with h1 | h1
    · exact h.new b h1
    · exact .inr (Nat.le_trans h.turn.size h1), fun hb => k.bnd (h.bnd hb), k.has⟩
/-- The end of a part: all given (true), or yield said no (false). -/
def Went (xs : List α) (J Jx : Inv α) (X0 : Nat → Prop) (H0 : HF) (w0 : World) (p' : List α) (v : Value) (w' : World) : Prop :=
  (v = .bool true ∧ ∃ X H, Its J X0 H0 w0 X p' H w') ∨ (v = .bool false ∧ ∃ X H p r, xs = p ++ r ∧ Its Jx X0 H0 w0 X p H w')
theorem Went.after {v : Value} (h : Its J X0 H0 w0 X p H w) (k : Went xs J Jx X H w p' v w') : Went xs J Jx X0 H0 w0 p' v w' := by
  rcases k with ⟨hv, X2, H2, k⟩ | ⟨hv, X2, H2, p2, r, he, k⟩
  · exact .inl ⟨hv, X2, H2, h.trans k⟩
  · exact .inr ⟨hv, X2, H2, p2, r, he, h.trans k⟩
theorem Yields.at {y : Value} {enc : α → List Value} (hy : Yields P y enc xs J Jx) {x : α} {r : List α} (hx : xs = p ++ x :: r) (h : Its J X0 H0 w0 X p H w) :
    CallV P y (enc x) w fun v w' => Went xs J Jx X0 H0 w0 (p ++ [x]) v w' := by
  refine (hy X p x r H w hx h.sub h.has).mono ?_
  rintro v w' ⟨H', hT, ⟨hv, hj⟩ | ⟨hv, hj⟩⟩
  · exact .inl ⟨hv, X, H', h.trans ⟨hT, fun _ h => h, fun _ h => .inl h, fun hb k hk => Nat.lt_of_lt_of_le (hb k hk) hT.size, hj⟩⟩
  · exact .inr ⟨hv, X, H', p ++ [x], r, by rw [hx]; simp, h.trans ⟨hT, fun _ h => h, fun _ h => .inl h, fun hb k hk => Nat.lt_of_lt_of_le (hb k hk) hT.size, hj⟩⟩
theorem Went.end {v : Value} (h : Went xs J Jx X0 H0 w0 xs v w') : IterEnd xs J Jx (fun _ => False) X0 H0 w0 w' := by
  rcases h with ⟨_, X, H, k⟩ | ⟨_, X, H, p, r, he, k⟩
  · exact ⟨H, X, k.turn.wider fun _ _ h => .inl h, k.sup, k.new, .inl k.has⟩
  · exact ⟨H, X, k.turn.wider fun _ _ h => .inl h, k.sup, k.new, .inr ⟨p, r, he, k.has⟩⟩
end
/-! ### An iterator that loops over another -/
section
variable {P : Program} {α β : Type} {J Jx : Inv β} {X0 X X' Xi : Nat → Prop} {H0 H H' H1 : HF} {w0 w w' W : World} {p p' : List β} {xs : List β} {bs : List Nat} {g : List α → List β} {φ : List α → HF → World → Prop} {φx : HF → World → Prop} {pre : List α}
def Inn (J : Inv β) (X0 : Nat → Prop) (H0 : HF) (w0 : World) (bs : List Nat) (g : List α → List β) (φ : List α → HF → World → Prop) : Inv α :=
  fun Xi pre H w => ∃ X, Its J X0 H0 w0 X (g pre) H w ∧ (∀ k, Xi k → X k ∧ w0.heap.size ≤ k) ∧ (∀ b ∈ bs, ¬ Xi b ∧ X b ∧ w0.heap.size ≤ b ∧ b < w.heap.size) ∧ φ pre H w
def InnX (xs : List β) (Jx : Inv β) (X0 : Nat → Prop) (H0 : HF) (w0 : World) (bs : List Nat) (φx : HF → World → Prop) : Inv α :=
  fun Xi _ H w => ∃ X p r, xs = p ++ r ∧ Its Jx X0 H0 w0 X p H w ∧ (∀ k, Xi k → X k ∧ w0.heap.size ≤ k) ∧ (∀ b ∈ bs, ¬ Xi b ∧ X b ∧ w0.heap.size ≤ b ∧ b < w.heap.size) ∧ φx H w
theorem inn_core {J : Inv β} (hJ : Stable J) (hX0 : ∀ k, X0 k → k < w0.heap.size) (hI : Its J X0 H0 w0 X p H w) (hX : ∀ k, Xi k → X k ∧ w0.heap.size ≤ k) (hT : Turn Xi H w H' w') :
    Its J X0 H0 w0 (orNew X w w') p H' w' ∧ ∀ k, orNew Xi w w' k → orNew X w w' k ∧ w0.heap.size ≤ k := by
  refine ⟨hI.own hJ hT fun k hk => ⟨(hX k hk).1, fun h => ?_⟩, fun k hk => ?_⟩
  · have := hX0 k h; have := (hX k hk).2; omega
  · rcases hk with h | h
    · exact ⟨.inl (hX k h).1, (hX k h).2⟩
    · exact ⟨.inr h, Nat.le_trans hI.turn.size h.1⟩
theorem bs_core (hb : ∀ b ∈ bs, ¬ Xi b ∧ X b ∧ w0.heap.size ≤ b ∧ b < w.heap.size) (hs : w.heap.size ≤ w'.heap.size) : ∀ b ∈ bs, ¬ orNew Xi w w' b ∧ orNew X w w' b ∧ w0.heap.size ≤ b ∧ b < w'.heap.size := fun b h' => ⟨by
  rintro (h1 | h1)
  · exact (hb b h').1 h1
  · have := (hb b h').2.2.2; omega, .inl (hb b h').2.1, (hb b h').2.2.1, Nat.lt_of_lt_of_le (hb b h').2.2.2 hs⟩
theorem Inn.good (hJ : Stable J) (hX0 : ∀ k, X0 k → k < w0.heap.size) (hφ : Abides bs φ) : Good (Inn J X0 H0 w0 bs g φ) := by
  refine ⟨?_, ?_, ?_⟩
  · rintro Xi pre H w H' w' ⟨X, hI, hX, hb, h⟩ hT
    obtain ⟨h1, h2⟩ := inn_core hJ hX0 hI hX hT
    exact ⟨_, h1, h2, bs_core hb hT.size, hφ Xi pre H w H' w' (fun b h' => (hb b h').1) hT h⟩
  · rintro Xi Xi' pre H w hX ⟨X, hI, h2, h3, h4⟩
    exact ⟨X, hI, fun k hk => h2 k (hX k hk), fun b h' => ⟨fun h => (h3 b h').1 (hX b h), (h3 b h').2⟩, h4⟩
  · rintro Xi pre H w ⟨X, hI, h2, _⟩ k hk
    exact hI.bnd hX0 k (h2 k hk).1
theorem Inn.stable (hJ : Stable J) (hX0 : ∀ k, X0 k → k < w0.heap.size) (hφ : Abides bs φ) : Stable (Inn J X0 H0 w0 bs g φ) := by
  rintro Xi pre H w H' w' ⟨X, hI, hX, hb, h⟩ hT
  obtain ⟨h1, h2⟩ := inn_core hJ hX0 hI hX hT
  exact ⟨_, h1, h2, bs_core hb hT.size, hφ Xi pre H w H' w' (fun b h' => (hb b h').1) hT h⟩
theorem InnX.stable (hJx : Stable Jx) (hX0 : ∀ k, X0 k → k < w0.heap.size) (hφ : Abides (α := Unit) bs (fun _ => φx)) : Stable (InnX (α := α) xs Jx X0 H0 w0 bs φx) := by
  rintro Xi pre H w H' w' ⟨X, p, r, he, hI, hX, hb, h⟩ hT
  obtain ⟨h1, h2⟩ := inn_core hJx hX0 hI hX hT
  exact ⟨_, p, r, he, h1, h2, bs_core hb hT.size, hφ Xi [] H w H' w' (fun b h' => (hb b h').1) hT h⟩
/-- A round's end. -/
theorem Inn.next {pre' : List α} (hI : Its J X0 H0 w0 X p H w) (hXi : ∀ k, Xi k → X k ∧ w0.heap.size ≤ k) (hb : ∀ b ∈ bs, ¬ Xi b ∧ X b ∧ w0.heap.size ≤ b ∧ b < w.heap.size) (hL : Its J X H w X' (g pre') H' w') (hφ : φ pre' H' w') :
    ∃ H', Turn (notIn Xi) H w H' w' ∧ Inn J X0 H0 w0 bs g φ Xi pre' H' w' :=
  ⟨H', hL.turn.wider fun k _ h h2 => h (hXi k h2).1, X', hI.trans hL, fun k hk => ⟨hL.sup k (hXi k hk).1, (hXi k hk).2⟩, fun b h' => ⟨(hb b h').1, hL.sup b (hb b h').2.1, (hb b h').2.2.1, Nat.lt_of_lt_of_le (hb b h').2.2.2 hL.turn.size⟩, hφ⟩
theorem Inn.stop {pre' : List α} {r : List β} (hI : Its J X0 H0 w0 X p H w) (hXi : ∀ k, Xi k → X k ∧ w0.heap.size ≤ k) (hb : ∀ b ∈ bs, ¬ Xi b ∧ X b ∧ w0.heap.size ≤ b ∧ b < w.heap.size) (he : xs = p' ++ r) (hL : Its Jx X H w X' p' H' w') (hφ : φx H' w') :
    ∃ H', Turn (notIn Xi) H w H' w' ∧ InnX (α := α) xs Jx X0 H0 w0 bs φx Xi pre' H' w' :=
  ⟨H', hL.turn.wider fun k _ h h2 => h (hXi k h2).1, X', p', r, he, hI.trans hL, fun k hk => ⟨hL.sup k (hXi k hk).1, (hXi k hk).2⟩, fun b h' => ⟨(hb b h').1, hL.sup b (hb b h').2.1, (hb b h').2.2.1, Nat.lt_of_lt_of_le (hb b h').2.2.2 hL.turn.size⟩, hφ⟩
/-- A round that ends the iteration, with rows of the call's own written at last. -/
theorem Inn.stopT {pre' : List α} {r : List β} {S : Nat → Prop} {H'' : HF} {w'' : World} (hX0 : ∀ k, X0 k → k < w0.heap.size) (hJx : Stable Jx) (hI : Its J X0 H0 w0 X p H w) (hXi : ∀ k, Xi k → X k ∧ w0.heap.size ≤ k) (hb : ∀ b ∈ bs, ¬ Xi b ∧ X b ∧ w0.heap.size ≤ b ∧ b < w.heap.size) (he : xs = p' ++ r) (hL : Its Jx X H w X' p' H' w')
    (hT : Turn S H' w' H'' w'') (hS : ∀ k, S k → k ∈ bs) (hφ : φx H'' w'') :
    ∃ H', Turn (notIn Xi) H w H' w'' ∧ InnX (α := α) xs Jx X0 H0 w0 bs φx Xi pre' H' w'' := by
  have h1 := hI.trans hL
  have h2 := h1.own hJx hT fun k hk => ⟨hL.sup k (hb k (hS k hk)).2.1, fun h => by have := hX0 k h; have := (hb k (hS k hk)).2.2.1; omega⟩
  refine ⟨H'', (hL.turn.wider fun k _ h h2 => h (hXi k h2).1).trans (hT.wider fun k _ hk h => (hb k (hS k hk)).1 h), _, p', r, he, h2, fun k hk => ⟨.inl (hL.sup k (hXi k hk).1), (hXi k hk).2⟩, fun b h' => ⟨(hb b h').1, .inl (hL.sup b (hb b h').2.1), (hb b h').2.2.1, ?_⟩, hφ⟩
  exact Nat.lt_of_lt_of_le (Nat.lt_of_lt_of_le (hb b h').2.2.2 hL.turn.size) hT.size
/-- The mark is taken. -/
theorem Its.closed {D : Nat} (hX0 : ∀ k, X0 k → k < w0.heap.size) (hJ : Stable J) (hI : Its J X0 H0 w0 X p H w) (hX : X D) (hD : w0.heap.size ≤ D) (hT : Turn (fun k => k = D) H w H' w') : Its J X0 H0 w0 (orNew X w w') p H' w' :=
  hI.own hJ hT fun k hk => by subst hk; exact ⟨hX, fun h => by have := hX0 _ h; omega⟩
/-- Left by return alone. -/
def retI {γ : Type} (I : Inv γ) : Code → Inv γ
  | .ret => I
  | _ => fun _ _ _ _ => False
theorem retI.stable {γ : Type} {I : Inv γ} (h : Stable I) : ∀ c, Stable (retI I c) := by
  intro c
  cases c
  case ret => exact h
  all_goals exact fun _ _ _ _ _ _ h _ => h
/-- Left by an exit alone. -/
def exitI {γ : Type} (j : Nat) (I : Inv γ) : Code → Inv γ
  | .exit i => fun X pre H w => i = j ∧ I X pre H w
  | _ => fun _ _ _ _ => False
theorem exitI.stable {γ : Type} {j : Nat} {I : Inv γ} (h : Stable I) : ∀ c, Stable (exitI j I c) := by
  intro c
  cases c
  case exit i => exact fun _ _ _ _ _ _ k hT => ⟨k.1, h _ _ _ _ _ _ k.2 hT⟩
  all_goals exact fun _ _ _ _ _ _ h _ => h
def neverI {γ : Type} : Code → Inv γ := fun _ _ _ _ _ => False
theorem neverI.stable {γ : Type} : ∀ c, Stable (neverI (γ := γ) c) := fun _ _ _ _ _ _ _ h _ => h
end
/-- A value that gives xs, whenever it is called. -/
def IterV {α : Type} (P : Program) (enc : α → List Value) (xs : List α) (v : Value) (H : HF) : Prop :=
  ∃ gf lb, FnCall P gf ∧ v = .func (.func gf) #[] lb.toArray ∧ ∀ H1 w1, HLe H H1 → IterAt P gf lb enc xs (fun _ => False) H1 w1
theorem IterV.mono {α : Type} {P : Program} {enc : α → List Value} {xs : List α} {v : Value} {H H' : HF} (h : IterV P enc xs v H) (hle : HLe H H') : IterV P enc xs v H' := by
  obtain ⟨gf, lb, h1, h2, h3⟩ := h
  exact ⟨gf, lb, h1, h2, fun H1 w1 h => h3 H1 w1 (hle.trans h)⟩
section
variable {P : Program} {r : Option Nat} {n : Nat} {f : Fr} {H : HF} {w : World} {K : Value → World → Prop} {d : Option Nat} {ty : TypeId} {pos : String} {af : Array Edge} {g : Option (Nat × Bool)} {T : TypeId} {x : Operand}
theorem W_makeFunc {k : FuncId} {fi ca : Array Operand} {lb : List Value} (hf : fi = #[]) (hc : ca.toList.map (ev f) = lb) (hk : K (.func (.func k) #[] lb.toArray) w) : OpW P r ⟨d, .makeFunc (.func k) fi ca, ty, pos, af, g⟩ f w K := by
  have e : ca.map (ev f) = lb.toArray := by rw [← hc]; apply Array.ext'; simp
  subst hf
  exact OpW_val (w' := w) (by simp) (by simp [execOp, Instr.makeFunc, e]) hk
theorem W_box1 {v : Value} (hS : Sub H w) (hx : ev f x = v) (hc : v.cells = #[v]) (hk : ∀ H' w' b, Grow H w H' w' → H' b = some (.cells #[v] T (0, 0)) → K (.pointer (some ⟨b, 0, none⟩)) w') : OpW P r ⟨d, .box T x, ty, pos, af, g⟩ f w K :=
  W_box hS hx fun H' w' b h1 h2 => hk H' w' b h1 (by rw [← hc]; exact h2)
end
end Go.Proofs.Ytnjeoobcejlojaa
