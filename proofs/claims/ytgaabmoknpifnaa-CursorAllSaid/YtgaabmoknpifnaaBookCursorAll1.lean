/- Texts of this proof in one file, each with its conditions ahead of it. First: Regions that draw, with several effects, one behind the other. Conditions: none. -/
import Derived.Test.YtgaabmoknpifnaaMut
import Derived.Test.YtgaabmoknpifnaaRange2
import Derived.Test.YtgaabmoknpifnaaNode
import Derived.Test.YtgaabmoknpifnaaPure2
import Derived.Test.YtgaabmoknpifnaaNode5
import Derived.Test.YtgaabmoknpifnaaNew
import Derived.Test.YtgaabmoknpifnaaTyb
namespace Go.Proofs.Ytgaabmoknpifnaa
open Go.RowKit
set_option linter.unusedVariables false
/-- Behind c effects M c holds. H0, w0: the call's beginning; Hr: the region's. -/
structure GN (H0 : HF) (w0 : World) (Hr : HF) (M : Nat → HF → World → Prop) (c : Nat) (H : HF) (w : World) : Prop where
  grow : Grow H0 w0 H w
  le : HLe Hr H
  m : M c H w
  cm : ∀ c, Closed (M c)
section
variable {H0 Hr H H' : HF} {w0 w w' : World} {M : Nat → HF → World → Prop} {c : Nat}
theorem GN.sub (h : GN H0 w0 Hr M c H w) : Sub H w := h.grow.sub
theorem GN.subOld (h : GN H0 w0 Hr M c H w) : Sub Hr w := ⟨fun b o e => h.grow.sub.out b o (h.le b o e)⟩
theorem GN.trans (h : GN H0 w0 Hr M c H w) (k : Grow H w H' w') : GN H0 w0 Hr M c H' w' := ⟨h.grow.trans k, h.le.trans k.le, h.cm _ _ _ _ _ h.m k, h.cm⟩
theorem GN.next (h : GN H0 w0 Hr M c H w) (hg : Grow H0 w0 H w') (hf : M (c + 1) H w') : GN H0 w0 Hr M (c + 1) H w' := ⟨hg, h.le, hf, h.cm⟩
variable {P : Program} {r : Option Nat} {n : Nat} {f : Fr}
theorem CW_region_gn {rid : Nat} {ops : Array Oper} {Qn Qr : Fr → World → Prop} {Qx : Nat → Fr → World → Prop} (M : Nat → HF → World → Prop) (c0 : Nat) (Φ : List Fact) (es : List (Option Nat)) (Ds : List (Option Nat)) (D : List Nat)
    (hm : P.follows .mixedOrders = true) (hd : dstsOk n ops = true) (he : edgesOk ops = true) (hDs : ops.toList.map (·.dst) = Ds) (hD : dstsOf ops.toList = D) (hu : decide D.Nodup = true) (hef : effOk ops es = true) (heu : effUniq es = true)
    (hl : (es.any fun e => e == some c0) = true) (hG : Grow H0 w0 H w) (hM : M 0 H w) (cm : ∀ c, Closed (M c)) (hst : StepsAny P r (GN H0 w0 H M) Φ ops Ds D f ops.toList Φ es)
    (hfin : ∀ c H' w', c0 < c → Grow H0 w0 H' w' → HLe H H' → M c H' w' → FinAny Qn H' w' ops.toList Φ f) : CW P r n (.region rid ops true) Qn Qr Qx f w := by
  refine CW_region_any (H := H) (GN H0 w0 H M) Φ es Ds D hm hd he hDs hD hu hef heu ⟨hG.trans (Grow.drew hG.sub), HLe.refl _, cm _ _ _ _ _ hM (Grow.drew hG.sub), cm⟩ hst ?_
  intro c H' w' hG hc
  simp only [List.any_eq_true] at hl
  obtain ⟨e, he1, he2⟩ := hl
  obtain ⟨j, hj, hje⟩ := List.mem_iff_getElem.1 he1
  have hes : es[j]? = some (some c0) := by
    rw [List.getElem?_eq_getElem hj, hje]
    simpa using he2
  exact hfin c H' w' (hc j c0 hes) hG.grow hG.le hG.m
end
end Go.Proofs.Ytgaabmoknpifnaa
/- How an iterator is walked: what it has given and where it stands. Conditions: each law's own premises. -/
namespace Go.Proofs.Ytgaabmoknpifnaa
open Go.Proofs Go.RowKit
set_option linter.unusedVariables false
section
variable {P : Program} {α : Type} {J Jx J' : Inv α} {X0 X X' : Nat → Prop} {H0 H H' : HF} {w0 w w' : World} {p p' : List α} {xs : List α}
/-- Since (X0, H0, w0) the one who iterates has turned only its own; J is kept with p given. -/
structure Its (J : Inv α) (X0 : Nat → Prop) (H0 : HF) (w0 : World) (X : Nat → Prop) (p : List α) (H : HF) (w : World) : Prop where
  turn : Turn (notIn X0) H0 w0 H w
  sup : ∀ k, X0 k → X k
  new : ∀ k, X k → X0 k ∨ w0.heap.size ≤ k
  bnd : (∀ k, X0 k → k < w0.heap.size) → ∀ k, X k → k < w.heap.size
  has : J X p H w
theorem Its.start (hS : Sub H w) (h : J X p H w) : Its J X H w X p H w := ⟨Turn.refl hS, fun _ h => h, fun _ h => .inl h, fun h => h, h⟩
theorem Its.sub (h : Its J X0 H0 w0 X p H w) : Sub H w := h.turn.sub
theorem Its.le (h : Its J X0 H0 w0 X p H w) : HLe H0 H := h.turn.le
theorem Its.step (h : Its J X0 H0 w0 X p H w) (hJ : Stable J) (hG : Grow H w H' w') : Its J X0 H0 w0 (orNew X w w') p H' w' :=
  ⟨h.turn.trans hG.turn, fun k hk => .inl (h.sup k hk), fun k hk => by
    rcases hk with h1 | h1
    · exact h.new k h1
    · exact .inr (Nat.le_trans h.turn.size h1.1), fun hb k hk => by
    rcases hk with h1 | h1
    · exact Nat.lt_of_lt_of_le (h.bnd hb k h1) hG.below.size
    · exact h1.2, hJ _ _ _ _ _ _ h.has hG.turn⟩
/-- Rows that belong to the one who iterates are turned. -/
theorem Its.own {S : Nat → Prop} (h : Its J X0 H0 w0 X p H w) (hJ : Stable J) (hT : Turn S H w H' w') (hS : ∀ k, S k → X k ∧ ¬ X0 k) : Its J X0 H0 w0 (orNew X w w') p H' w' :=
  ⟨h.turn.trans (hT.wider fun k _ hk => (hS k hk).2), fun k hk => .inl (h.sup k hk), fun k hk => by
    rcases hk with h1 | h1
    · exact h.new k h1
    · exact .inr (Nat.le_trans h.turn.size h1.1), fun hb k hk => by
    rcases hk with h1 | h1
    · exact Nat.lt_of_lt_of_le (h.bnd hb k h1) hT.size
    · exact h1.2, hJ _ _ _ _ _ _ h.has (hT.wider fun k _ hk => (hS k hk).1)⟩
theorem Its.trans (h : Its J X0 H0 w0 X p H w) (k : Its J' X H w X' p' H' w') : Its J' X0 H0 w0 X' p' H' w' :=
  ⟨h.turn.trans (k.turn.wider fun b _ hb h2 => hb (h.sup b h2)), fun b hb => k.sup b (h.sup b hb), fun b hb => by
    rcases k.new b hb with h1 | h1
    · exact h.new b h1
    · exact .inr (Nat.le_trans h.turn.size h1), fun hb => k.bnd (h.bnd hb), k.has⟩
/-- The end of a part: all given (true), or yield said no (false). -/
def Went (xs : List α) (J Jx : Inv α) (X0 : Nat → Prop) (H0 : HF) (w0 : World) (p' : List α) (v : Value) (w' : World) : Prop :=
  (v = .bool true ∧ ∃ X H, Its J X0 H0 w0 X p' H w') ∨ (v = .bool false ∧ ∃ X H p r, xs = p ++ r ∧ Its Jx X0 H0 w0 X p H w')
theorem Went.after {v : Value} (h : Its J X0 H0 w0 X p H w) (k : Went xs J Jx X H w p' v w') : Went xs J Jx X0 H0 w0 p' v w' := by
  rcases k with ⟨hv, X2, H2, k⟩ | ⟨hv, X2, H2, p2, r, he, k⟩
  · exact .inl ⟨hv, X2, H2, h.trans k⟩
  · exact .inr ⟨hv, X2, H2, p2, r, he, h.trans k⟩
theorem Yields.at {y : Value} {enc : α → List Value} (hy : Yields P y enc xs J Jx) {x : α} {r : List α} (hx : xs = p ++ x :: r) (h : Its J X0 H0 w0 X p H w) :
    CallV P y (enc x) w fun v w' => Went xs J Jx X0 H0 w0 (p ++ [x]) v w' := by
  refine (hy X p x r H w hx h.sub h.has).mono ?_
  rintro v w' ⟨H', hT, ⟨hv, hj⟩ | ⟨hv, hj⟩⟩
  · exact .inl ⟨hv, X, H', h.trans ⟨hT, fun _ h => h, fun _ h => .inl h, fun hb k hk => Nat.lt_of_lt_of_le (hb k hk) hT.size, hj⟩⟩
  · exact .inr ⟨hv, X, H', p ++ [x], r, by rw [hx]; simp, h.trans ⟨hT, fun _ h => h, fun _ h => .inl h, fun hb k hk => Nat.lt_of_lt_of_le (hb k hk) hT.size, hj⟩⟩
theorem Went.end {v : Value} (h : Went xs J Jx X0 H0 w0 xs v w') : IterEnd xs J Jx (fun _ => False) X0 H0 w0 w' := by
  rcases h with ⟨_, X, H, k⟩ | ⟨_, X, H, p, r, he, k⟩
  · exact ⟨H, X, k.turn.wider fun _ _ h => .inl h, k.sup, k.new, .inl k.has⟩
  · exact ⟨H, X, k.turn.wider fun _ _ h => .inl h, k.sup, k.new, .inr ⟨p, r, he, k.has⟩⟩
end
/-! ### An iterator that loops over another -/
section
variable {P : Program} {α β : Type} {J Jx : Inv β} {X0 X X' Xi : Nat → Prop} {H0 H H' H1 : HF} {w0 w w' W : World} {p p' : List β} {xs : List β} {bs : List Nat} {g : List α → List β} {φ : List α → HF → World → Prop} {φx : HF → World → Prop} {pre : List α}
def Inn (J : Inv β) (X0 : Nat → Prop) (H0 : HF) (w0 : World) (bs : List Nat) (g : List α → List β) (φ : List α → HF → World → Prop) : Inv α :=
  fun Xi pre H w => ∃ X, Its J X0 H0 w0 X (g pre) H w ∧ (∀ k, Xi k → X k ∧ w0.heap.size ≤ k) ∧ (∀ b ∈ bs, ¬ Xi b ∧ X b ∧ w0.heap.size ≤ b ∧ b < w.heap.size) ∧ φ pre H w
def InnX (xs : List β) (Jx : Inv β) (X0 : Nat → Prop) (H0 : HF) (w0 : World) (bs : List Nat) (φx : HF → World → Prop) : Inv α :=
  fun Xi _ H w => ∃ X p r, xs = p ++ r ∧ Its Jx X0 H0 w0 X p H w ∧ (∀ k, Xi k → X k ∧ w0.heap.size ≤ k) ∧ (∀ b ∈ bs, ¬ Xi b ∧ X b ∧ w0.heap.size ≤ b ∧ b < w.heap.size) ∧ φx H w
theorem inn_core {J : Inv β} (hJ : Stable J) (hX0 : ∀ k, X0 k → k < w0.heap.size) (hI : Its J X0 H0 w0 X p H w) (hX : ∀ k, Xi k → X k ∧ w0.heap.size ≤ k) (hT : Turn Xi H w H' w') :
    Its J X0 H0 w0 (orNew X w w') p H' w' ∧ ∀ k, orNew Xi w w' k → orNew X w w' k ∧ w0.heap.size ≤ k := by
  refine ⟨hI.own hJ hT fun k hk => ⟨(hX k hk).1, fun h => ?_⟩, fun k hk => ?_⟩
  · have := hX0 k h; have := (hX k hk).2; omega
  · rcases hk with h | h
    · exact ⟨.inl (hX k h).1, (hX k h).2⟩
    · exact ⟨.inr h, Nat.le_trans hI.turn.size h.1⟩
theorem bs_core (hb : ∀ b ∈ bs, ¬ Xi b ∧ X b ∧ w0.heap.size ≤ b ∧ b < w.heap.size) (hs : w.heap.size ≤ w'.heap.size) : ∀ b ∈ bs, ¬ orNew Xi w w' b ∧ orNew X w w' b ∧ w0.heap.size ≤ b ∧ b < w'.heap.size := fun b h' => ⟨by
  rintro (h1 | h1)
  · exact (hb b h').1 h1
  · have := (hb b h').2.2.2; omega, .inl (hb b h').2.1, (hb b h').2.2.1, Nat.lt_of_lt_of_le (hb b h').2.2.2 hs⟩
theorem Inn.good (hJ : Stable J) (hX0 : ∀ k, X0 k → k < w0.heap.size) (hφ : Abides bs φ) : Good (Inn J X0 H0 w0 bs g φ) := by
  refine ⟨?_, ?_, ?_⟩
  · rintro Xi pre H w H' w' ⟨X, hI, hX, hb, h⟩ hT
    obtain ⟨h1, h2⟩ := inn_core hJ hX0 hI hX hT
    exact ⟨_, h1, h2, bs_core hb hT.size, hφ Xi pre H w H' w' (fun b h' => (hb b h').1) hT h⟩
  · rintro Xi Xi' pre H w hX ⟨X, hI, h2, h3, h4⟩
    exact ⟨X, hI, fun k hk => h2 k (hX k hk), fun b h' => ⟨fun h => (h3 b h').1 (hX b h), (h3 b h').2⟩, h4⟩
  · rintro Xi pre H w ⟨X, hI, h2, _⟩ k hk
    exact hI.bnd hX0 k (h2 k hk).1
theorem Inn.stable (hJ : Stable J) (hX0 : ∀ k, X0 k → k < w0.heap.size) (hφ : Abides bs φ) : Stable (Inn J X0 H0 w0 bs g φ) := by
  rintro Xi pre H w H' w' ⟨X, hI, hX, hb, h⟩ hT
  obtain ⟨h1, h2⟩ := inn_core hJ hX0 hI hX hT
  exact ⟨_, h1, h2, bs_core hb hT.size, hφ Xi pre H w H' w' (fun b h' => (hb b h').1) hT h⟩
theorem InnX.stable (hJx : Stable Jx) (hX0 : ∀ k, X0 k → k < w0.heap.size) (hφ : Abides (α := Unit) bs (fun _ => φx)) : Stable (InnX (α := α) xs Jx X0 H0 w0 bs φx) := by
  rintro Xi pre H w H' w' ⟨X, p, r, he, hI, hX, hb, h⟩ hT
  obtain ⟨h1, h2⟩ := inn_core hJx hX0 hI hX hT
  exact ⟨_, p, r, he, h1, h2, bs_core hb hT.size, hφ Xi [] H w H' w' (fun b h' => (hb b h').1) hT h⟩
/-- A round's end. -/
theorem Inn.next {pre' : List α} (hI : Its J X0 H0 w0 X p H w) (hXi : ∀ k, Xi k → X k ∧ w0.heap.size ≤ k) (hb : ∀ b ∈ bs, ¬ Xi b ∧ X b ∧ w0.heap.size ≤ b ∧ b < w.heap.size) (hL : Its J X H w X' (g pre') H' w') (hφ : φ pre' H' w') :
    ∃ H', Turn (notIn Xi) H w H' w' ∧ Inn J X0 H0 w0 bs g φ Xi pre' H' w' :=
  ⟨H', hL.turn.wider fun k _ h h2 => h (hXi k h2).1, X', hI.trans hL, fun k hk => ⟨hL.sup k (hXi k hk).1, (hXi k hk).2⟩, fun b h' => ⟨(hb b h').1, hL.sup b (hb b h').2.1, (hb b h').2.2.1, Nat.lt_of_lt_of_le (hb b h').2.2.2 hL.turn.size⟩, hφ⟩
theorem Inn.stop {pre' : List α} {r : List β} (hI : Its J X0 H0 w0 X p H w) (hXi : ∀ k, Xi k → X k ∧ w0.heap.size ≤ k) (hb : ∀ b ∈ bs, ¬ Xi b ∧ X b ∧ w0.heap.size ≤ b ∧ b < w.heap.size) (he : xs = p' ++ r) (hL : Its Jx X H w X' p' H' w') (hφ : φx H' w') :
    ∃ H', Turn (notIn Xi) H w H' w' ∧ InnX (α := α) xs Jx X0 H0 w0 bs φx Xi pre' H' w' :=
  ⟨H', hL.turn.wider fun k _ h h2 => h (hXi k h2).1, X', p', r, he, hI.trans hL, fun k hk => ⟨hL.sup k (hXi k hk).1, (hXi k hk).2⟩, fun b h' => ⟨(hb b h').1, hL.sup b (hb b h').2.1, (hb b h').2.2.1, Nat.lt_of_lt_of_le (hb b h').2.2.2 hL.turn.size⟩, hφ⟩
/-- A round that ends the iteration, with rows of the call's own written at last. -/
theorem Inn.stopT {pre' : List α} {r : List β} {S : Nat → Prop} {H'' : HF} {w'' : World} (hX0 : ∀ k, X0 k → k < w0.heap.size) (hJx : Stable Jx) (hI : Its J X0 H0 w0 X p H w) (hXi : ∀ k, Xi k → X k ∧ w0.heap.size ≤ k) (hb : ∀ b ∈ bs, ¬ Xi b ∧ X b ∧ w0.heap.size ≤ b ∧ b < w.heap.size) (he : xs = p' ++ r) (hL : Its Jx X H w X' p' H' w')
    (hT : Turn S H' w' H'' w'') (hS : ∀ k, S k → k ∈ bs) (hφ : φx H'' w'') :
    ∃ H', Turn (notIn Xi) H w H' w'' ∧ InnX (α := α) xs Jx X0 H0 w0 bs φx Xi pre' H' w'' := by
  have h1 := hI.trans hL
  have h2 := h1.own hJx hT fun k hk => ⟨hL.sup k (hb k (hS k hk)).2.1, fun h => by have := hX0 k h; have := (hb k (hS k hk)).2.2.1; omega⟩
  refine ⟨H'', (hL.turn.wider fun k _ h h2 => h (hXi k h2).1).trans (hT.wider fun k _ hk h => (hb k (hS k hk)).1 h), _, p', r, he, h2, fun k hk => ⟨.inl (hL.sup k (hXi k hk).1), (hXi k hk).2⟩, fun b h' => ⟨(hb b h').1, .inl (hL.sup b (hb b h').2.1), (hb b h').2.2.1, ?_⟩, hφ⟩
  exact Nat.lt_of_lt_of_le (Nat.lt_of_lt_of_le (hb b h').2.2.2 hL.turn.size) hT.size
/-- The mark is taken. -/
theorem Its.closed {D : Nat} (hX0 : ∀ k, X0 k → k < w0.heap.size) (hJ : Stable J) (hI : Its J X0 H0 w0 X p H w) (hX : X D) (hD : w0.heap.size ≤ D) (hT : Turn (fun k => k = D) H w H' w') : Its J X0 H0 w0 (orNew X w w') p H' w' :=
  hI.own hJ hT fun k hk => by subst hk; exact ⟨hX, fun h => by have := hX0 _ h; omega⟩
/-- Left by return alone. -/
def retI {γ : Type} (I : Inv γ) : Code → Inv γ
  | .ret => I
  | _ => fun _ _ _ _ => False
theorem retI.stable {γ : Type} {I : Inv γ} (h : Stable I) : ∀ c, Stable (retI I c) := by
  intro c
  cases c
  case ret => exact h
  all_goals exact fun _ _ _ _ _ _ h _ => h
/-- Left by an exit alone. -/
def exitI {γ : Type} (j : Nat) (I : Inv γ) : Code → Inv γ
  | .exit i => fun X pre H w => i = j ∧ I X pre H w
  | _ => fun _ _ _ _ => False
theorem exitI.stable {γ : Type} {j : Nat} {I : Inv γ} (h : Stable I) : ∀ c, Stable (exitI j I c) := by
  intro c
  cases c
  case exit i => exact fun _ _ _ _ _ _ k hT => ⟨k.1, h _ _ _ _ _ _ k.2 hT⟩
  all_goals exact fun _ _ _ _ _ _ h _ => h
def neverI {γ : Type} : Code → Inv γ := fun _ _ _ _ _ => False
theorem neverI.stable {γ : Type} : ∀ c, Stable (neverI (γ := γ) c) := fun _ _ _ _ _ _ _ h _ => h
end
/-- A value that gives xs, whenever it is called. -/
def IterV {α : Type} (P : Program) (enc : α → List Value) (xs : List α) (v : Value) (H : HF) : Prop :=
  ∃ gf lb, FnCall P gf ∧ v = .func (.func gf) #[] lb.toArray ∧ ∀ H1 w1, HLe H H1 → IterAt P gf lb enc xs (fun _ => False) H1 w1
theorem IterV.mono {α : Type} {P : Program} {enc : α → List Value} {xs : List α} {v : Value} {H H' : HF} (h : IterV P enc xs v H) (hle : HLe H H') : IterV P enc xs v H' := by
  obtain ⟨gf, lb, h1, h2, h3⟩ := h
  exact ⟨gf, lb, h1, h2, fun H1 w1 h => h3 H1 w1 (hle.trans h)⟩
section
variable {P : Program} {r : Option Nat} {n : Nat} {f : Fr} {H : HF} {w : World} {K : Value → World → Prop} {d : Option Nat} {ty : TypeId} {pos : String} {af : Array Edge} {g : Option (Nat × Bool)} {T : TypeId} {x : Operand}
theorem W_makeFunc {k : FuncId} {fi ca : Array Operand} {lb : List Value} (hf : fi = #[]) (hc : ca.toList.map (ev f) = lb) (hk : K (.func (.func k) #[] lb.toArray) w) : OpW P r ⟨d, .makeFunc (.func k) fi ca, ty, pos, af, g⟩ f w K := by
  have e : ca.map (ev f) = lb.toArray := by rw [← hc]; apply Array.ext'; simp
  subst hf
  exact OpW_val (w' := w) (by simp) (by simp [execOp, Instr.makeFunc, e]) hk
theorem W_box1 {v : Value} (hS : Sub H w) (hx : ev f x = v) (hc : v.cells = #[v]) (hk : ∀ H' w' b, Grow H w H' w' → H' b = some (.cells #[v] T (0, 0)) → K (.pointer (some ⟨b, 0, none⟩)) w') : OpW P r ⟨d, .box T x, ty, pos, af, g⟩ f w K :=
  W_box hS hx fun H' w' b h1 h2 => hk H' w' b h1 (by rw [← hc]; exact h2)
end
end Go.Proofs.Ytgaabmoknpifnaa
/- Trees, the plain laws: a key's kid, paths, what is put in and taken out. Conditions: none; it runs no function of the program. -/
namespace Go.Proofs.Ytgaabmoknpifnaa
open Go.Proofs Go.RowKit
set_option linter.unusedVariables false
set_option linter.unusedSimpArgs false
/-! ### A change in the midst -/
theorem Below'.append {a b : List Ent} {k : ByteArray} (ha : Below' a k) (hb : Below' b k) : Below' (a ++ b) k := fun x hx => by
  rcases List.mem_append.1 hx with h | h
  · exact ha x h
  · exact hb x h
theorem Above.append {a b : List Ent} {k : ByteArray} (ha : Above a k) (hb : Above b k) : Above (a ++ b) k := fun x hx => by
  rcases List.mem_append.1 hx with h | h
  · exact ha x h
  · exact hb x h
section
variable {a m b : List Ent} {key : ByteArray}
theorem rise_parts (hr : riseB (a ++ m ++ b) = true) : riseB a = true ∧ riseB m = true ∧ riseB b = true := by
  rw [riseB_append, riseB_append] at hr
  exact ⟨hr.1.1, hr.1.2.1, hr.2.1⟩
theorem withL_mid {e : Ent} (hr : riseB (a ++ m ++ b) = true) (ha : Below' a e.key) (hb : Above b e.key) : withL (a ++ m ++ b) e = a ++ withL m e ++ b := by
  rcases split_at (rise_parts hr).2.1 e.key with ⟨p, q, rfl, h1, h2⟩ | ⟨p, x, q, rfl, h1, hx, h2⟩
  · rw [withL_no h1 h2, show a ++ (p ++ q) ++ b = (a ++ p) ++ (q ++ b) by simp, withL_no (ha.append h1) (h2.append hb)]; simp
  · rw [withL_yes h1 hx h2, show a ++ (p ++ x :: q) ++ b = (a ++ p) ++ x :: (q ++ b) by simp, withL_yes (ha.append h1) hx (h2.append hb)]; simp
theorem withoutL_mid (hr : riseB (a ++ m ++ b) = true) (ha : Below' a key) (hb : Above b key) : withoutL (a ++ m ++ b) key = a ++ withoutL m key ++ b := by
  rcases split_at (rise_parts hr).2.1 key with ⟨p, q, rfl, h1, h2⟩ | ⟨p, x, q, rfl, h1, hx, h2⟩
  · rw [withoutL_no h1 h2, show a ++ (p ++ q) ++ b = (a ++ p) ++ (q ++ b) by simp, withoutL_no (ha.append h1) (h2.append hb)]
  · rw [withoutL_yes h1 hx h2, show a ++ (p ++ x :: q) ++ b = (a ++ p) ++ x :: (q ++ b) by simp, withoutL_yes (ha.append h1) hx (h2.append hb)]; simp
theorem look_mid (hr : riseB (a ++ m ++ b) = true) (ha : Below' a key) (hb : Above b key) : look (a ++ m ++ b) key = look m key := by
  rcases split_at (rise_parts hr).2.1 key with ⟨p, q, rfl, h1, h2⟩ | ⟨p, x, q, rfl, h1, hx, h2⟩
  · rw [look_no h1 h2, show a ++ (p ++ q) ++ b = (a ++ p) ++ (q ++ b) by simp, look_no (ha.append h1) (h2.append hb)]
  · rw [look_yes h1 hx h2, show a ++ (p ++ x :: q) ++ b = (a ++ p) ++ x :: (q ++ b) by simp, look_yes (ha.append h1) hx (h2.append hb)]
end
namespace Nd
variable {h : Nat}
/-! ### A key's kid -/
def kidGo (key : ByteArray) : List (Nd h) → Nat → Nat → Nat
  | [], _, p => p
  | k :: l, i, p => kidGo key l (i + 1) (if slt key k.lo then p else i)
def kidAt (ks : List (Nd h)) (key : ByteArray) : Nat := kidGo key ks 0 0
theorem kidGo_above {key : ByteArray} : ∀ {l : List (Nd h)} {i p : Nat}, (∀ k ∈ l, slt key k.lo = true) → kidGo key l i p = p
  | [], _, _, _ => rfl
  | k :: l, i, p, ha => by
    simp only [kidGo, ha k (by simp), if_true]
    exact kidGo_above fun k hk => ha k (by simp [hk])
theorem chain_lo {a : Nd h} : ∀ {l : List (Nd h)}, (∀ k ∈ a :: l, Ok h k) → chain (a :: l) = true → ∀ k ∈ l, slt a.lo k.lo = true := by
  intro l ho hc k hk
  have hr := (chain_iff ho).1 hc
  rw [List.flatMap_cons, riseB_append] at hr
  obtain ⟨x, hx, hx2⟩ := lo_mem (ho a (by simp))
  obtain ⟨y, hy, hy2⟩ := lo_mem (ho k (by simp [hk]))
  rw [← hx2, ← hy2]
  exact hr.2.2 x hx y (List.mem_flatMap.2 ⟨k, hk, hy⟩)
theorem chain_tail {a : Nd h} {l : List (Nd h)} (hc : chain (a :: l) = true) : chain l = true := by
  cases l with
  | nil => rfl
  | cons b l => simp only [chain, Bool.and_eq_true] at hc; exact hc.2
theorem kidGo_split {key : ByteArray} : ∀ (l : List (Nd h)) (k : Nd h) (i : Nat), (∀ x ∈ k :: l, Ok h x) → chain (k :: l) = true →
    ∃ a m b, k :: l = a ++ m :: b ∧ kidGo key l (i + 1) i = i + a.length ∧ (a ≠ [] → slt key m.lo = false) ∧ ∀ x ∈ b, slt key x.lo = true
  | [], k, i, _, _ => ⟨[], k, [], rfl, rfl, fun h => absurd rfl h, by simp⟩
  | k2 :: l, k, i, ho, hc => by
    have ho2 : ∀ x ∈ k2 :: l, Ok h x := fun x hx => ho x (List.mem_cons_of_mem _ hx)
    have hc2 := chain_tail hc
    cases hs : slt key k2.lo with
    | true =>
      have hab : ∀ x ∈ k2 :: l, slt key x.lo = true := by
        intro x hx
        rcases List.mem_cons.1 hx with rfl | hx
        · exact hs
        · exact slt_trans hs (chain_lo ho2 hc2 x hx)
      exact ⟨[], k, k2 :: l, rfl, kidGo_above hab, fun h => absurd rfl h, hab⟩
    | false =>
      obtain ⟨a, m, b, h1, h2, h3, h4⟩ := kidGo_split (key := key) l k2 (i + 1) ho2 hc2
      refine ⟨k :: a, m, b, by rw [h1]; rfl, ?_, fun _ => ?_, h4⟩
      · simp only [kidGo, hs]
        rw [List.length_cons, show i + (a.length + 1) = i + 1 + a.length by omega]
        exact h2
      · cases a with
        | nil => simp at h1; rw [← h1.1]; exact hs
        | cons _ _ => exact h3 (by simp)
/-- A key's kid: all ahead of it lies below the key, all behind it above. -/
theorem kid_split {ks : List (Nd h)} (hne : 1 ≤ ks.length) (ho : ∀ x ∈ ks, Ok h x) (hc : chain ks = true) (key : ByteArray) :
    ∃ a m b, ks = a ++ m :: b ∧ kidAt ks key = a.length ∧ Below' (a.flatMap (items h)) key ∧ Above (b.flatMap (items h)) key ∧ (a ≠ [] → slt key m.lo = false) ∧ ∀ x ∈ b, slt key x.lo = true := by
  cases ks with
  | nil => simp at hne
  | cons k l =>
    obtain ⟨a, m, b, h1, h2, h3, h4⟩ := kidGo_split (key := key) l k 0 ho hc
    have hat : kidAt (k :: l) key = a.length := by
      unfold kidAt
      simp only [kidGo]
      have : (if slt key k.lo = true then 0 else 0) = 0 := by split <;> rfl
      rw [this, h2]; omega
    have hr := (chain_iff ho).1 hc
    rw [h1] at hr
    rw [h1] at ho
    refine ⟨a, m, b, h1, hat, fun x hx => ?_, fun y hy => ?_, h3, h4⟩
    · have hm := ho m (by simp)
      obtain ⟨z, hz, hz2⟩ := lo_mem hm
      have hne : a ≠ [] := by intro e; subst e; simp at hx
      have h5 := h3 hne
      rw [List.flatMap_append, riseB_append] at hr
      have h6 := hr.2.2 x hx z (by simp [hz])
      rw [hz2] at h6
      exact slt_of_lt_of_le h6 h5
    · obtain ⟨k2, hk2, hy2⟩ := List.mem_flatMap.1 hy
      exact slt_of_lt_of_le (h4 k2 hk2) (lo_le (ho k2 (by simp [hk2])) hy2)
theorem flat_split (a : List (Nd h)) (m : Nd h) (b : List (Nd h)) : (a ++ m :: b).flatMap (items h) = a.flatMap (items h) ++ items h m ++ b.flatMap (items h) := by simp
/-! ### Paths -/
def kidOf {h : Nat} (x : Nd (h + 1)) (key : ByteArray) : Nd h := x.kids.getD (kidAt x.kids key) default
def leafAt : (h : Nat) → Nd h → ByteArray → Nd 0
  | 0, x, _ => x
  | h + 1, x, key => leafAt h (kidOf x key) key
def pathL : (h : Nat) → Nd h → ByteArray → List Value
  | 0, x, _ => [x.ptr]
  | h + 1, x, key => x.ptr :: pathL h (kidOf x key) key
theorem ok_chain {x : Nd (h + 1)} (hx : Ok (h + 1) x) : chain x.kids = true := (chain_iff hx.2.2.1).2 hx.2.2.2
theorem kidOf_split {x : Nd (h + 1)} (hx : Ok (h + 1) x) (key : ByteArray) : ∃ a b, x.kids = a ++ kidOf x key :: b ∧ kidAt x.kids key = a.length ∧ Below' (a.flatMap (items h)) key ∧ Above (b.flatMap (items h)) key ∧
    (a ≠ [] → slt key (kidOf x key).lo = false) ∧ ∀ y ∈ b, slt key y.lo = true := by
  obtain ⟨a, m, b, h1, h2, h3, h4, h5, h6⟩ := kid_split (by have := hx.1; omega) hx.2.2.1 (ok_chain hx) key
  have : kidOf x key = m := by
    unfold kidOf
    rw [h2, h1]; simp
  rw [this]
  exact ⟨a, b, h1, h2, h3, h4, h5, h6⟩
theorem kidOf_mem {x : Nd (h + 1)} (hx : Ok (h + 1) x) (key : ByteArray) : kidOf x key ∈ x.kids := by
  obtain ⟨a, b, h1, _⟩ := kidOf_split hx key
  rw [h1]; simp
theorem kidAt_lt {x : Nd (h + 1)} (hx : Ok (h + 1) x) (key : ByteArray) : kidAt x.kids key < x.kids.length := by
  obtain ⟨a, b, h1, h2, _⟩ := kidOf_split hx key
  rw [h2, h1]; simp
theorem items_split {x : Nd (h + 1)} {a b : List (Nd h)} {m : Nd h} (h1 : x.kids = a ++ m :: b) : items (h + 1) x = a.flatMap (items h) ++ items h m ++ b.flatMap (items h) := by
  show x.kids.flatMap (items h) = _
  rw [h1, flat_split]
theorem look_kid {x : Nd (h + 1)} (hx : Ok (h + 1) x) (key : ByteArray) : look (items (h + 1) x) key = look (items h (kidOf x key)) key := by
  obtain ⟨a, b, h1, h2, h3, h4, _⟩ := kidOf_split hx key
  have hr := hx.2.2.2
  rw [items_split h1] at hr ⊢
  exact look_mid hr h3 h4
theorem withL_kid {x : Nd (h + 1)} (hx : Ok (h + 1) x) {a b : List (Nd h)} {m : Nd h} {e : Ent} (h1 : x.kids = a ++ m :: b) (h3 : Below' (a.flatMap (items h)) e.key) (h4 : Above (b.flatMap (items h)) e.key) :
    withL (items (h + 1) x) e = a.flatMap (items h) ++ withL (items h m) e ++ b.flatMap (items h) := by
  have hr := hx.2.2.2
  rw [items_split h1] at hr ⊢
  exact withL_mid hr h3 h4
theorem withoutL_kid {x : Nd (h + 1)} (hx : Ok (h + 1) x) {a b : List (Nd h)} {m : Nd h} {key : ByteArray} (h1 : x.kids = a ++ m :: b) (h3 : Below' (a.flatMap (items h)) key) (h4 : Above (b.flatMap (items h)) key) :
    withoutL (items (h + 1) x) key = a.flatMap (items h) ++ withoutL (items h m) key ++ b.flatMap (items h) := by
  have hr := hx.2.2.2
  rw [items_split h1] at hr ⊢
  exact withoutL_mid hr h3 h4
theorem look_leaf : {h : Nat} → {x : Nd h} → Ok h x → (key : ByteArray) → look (items h x) key = look (leafAt h x key).ents key
  | 0, _, _, _ => rfl
  | h + 1, x, hx, key => by
    rw [look_kid hx key]
    exact look_leaf (hx.2.2.1 _ (kidOf_mem hx key)) key
theorem path_length : {h : Nat} → (x : Nd h) → (key : ByteArray) → (pathL h x key).length = h + 1
  | 0, _, _ => rfl
  | h + 1, x, key => by simp only [pathL, List.length_cons, path_length]
theorem path_last : {h : Nat} → (x : Nd h) → (key : ByteArray) → (pathL h x key)[h]? = some (leafAt h x key).ptr
  | 0, _, _ => rfl
  | h + 1, x, key => by simp only [pathL, leafAt, List.getElem?_cons_succ]; exact path_last _ key
theorem items_gt : {h : Nat} → {x : Nd h} → Ok h x → h + 1 ≤ (items h x).length
  | 0, x, hx => by have := (ok_len hx).1; omega
  | h + 1, x, hx => by
    obtain ⟨h1, h2, h3, h4⟩ := hx
    show _ ≤ (x.kids.flatMap (items h)).length
    match hk : x.kids with
    | [] => rw [hk] at h1; simp at h1
    | [_] => rw [hk] at h1; simp at h1
    | a :: b :: l =>
      have ha := items_gt (h3 a (by rw [hk]; simp))
      have hb := items_gt (h3 b (by rw [hk]; simp))
      simp only [List.flatMap_cons, List.length_append]
      omega
/-! ### Blocks -/
def blocks : (h : Nat) → Nd h → List Nat
  | 0, x => [x.blk]
  | h + 1, x => x.blk :: x.kids.flatMap (blocks h)
theorem blk_mem : {h : Nat} → (x : Nd h) → x.blk ∈ blocks h x
  | 0, x => by simp [blocks]
  | h + 1, x => by simp [blocks]
theorem full_kids {x : Nd (h + 1)} (hx : full (h + 1) x = true) : ∀ k ∈ x.kids, enough h k = true ∧ full h k = true := by
  intro k hk
  simp only [full, List.all_eq_true, Bool.and_eq_true] at hx
  exact hx k hk
end Nd
theorem NodeAt.leafAt {H : HF} : {h : Nat} → {x : Nd h} → NodeAt H h x → (key : ByteArray) → NodeAt H 0 (Nd.leafAt h x key)
  | 0, _, hx, _ => hx
  | h + 1, x, hx, key => NodeAt.leafAt (hx.kids _ (Nd.kidOf_mem hx.ok key)) key
theorem slt_or_eq (a b : ByteArray) : (slt a b || decide (a = b)) = !slt b a := by
  cases h1 : slt a b with
  | true => rw [slt_asymm h1]; rfl
  | false =>
    cases h2 : slt b a with
    | true => have := slt_ne h2; simp [Ne.symm this]
    | false => simp [slt_total h1 h2]
section
variable {P : Program} {r : Option Nat} {f : Fr} {w : World} {K : Value → World → Prop} {d : Option Nat} {ty : TypeId} {pos : String} {af : Array Edge} {g : Option (Nat × Bool)} {T T' : TypeId} {x y : Operand}
theorem W_sleqB [TyStr P T] {b : Bool} {m n : ByteArray} (hx : ev f x = .string m) (hy : ev f y = .string n) (h : slt n m = b) (hk : K (.bool (!b)) w) : OpW P r ⟨d, .binOp .leq T x y T', ty, pos, af, g⟩ f w K :=
  W_sleq hx hy (by rw [slt_or_eq, h]; exact hk)
theorem W_sgtrB [TyStr P T] {b : Bool} {m n : ByteArray} (hx : ev f x = .string m) (hy : ev f y = .string n) (h : slt n m = b) (hk : K (.bool b) w) : OpW P r ⟨d, .binOp .gtr T x y T', ty, pos, af, g⟩ f w K :=
  W_sgtr hx hy (by rw [slt_or_eq, h, Bool.not_not]; exact hk)
/-- The result is a variable of the call's own. -/
theorem ResW_cell {t : Nat} {T : TypeId} {s : Nat} [TyAgg P T] [TySize P T s] {H : HF} {b : Nat} {cs : List Value} (h : f t = .pointer (some ⟨b, 0, none⟩)) (hm : Mut H w b cs) (hl : cs.length = s) : ResW P #[.cell t T] f w (.agg cs.toArray) := by
  intro n a fn ha hr
  have hc := run_loadCells_list (P := P) w ⟨b, 0, none⟩ cs (fun j v hj => by rw [add_lit']; simpa using Sub.mut_or hm hj)
  rw [hl] at hc
  simp [results, hr, ha.at_, h, asAddr, loadVar, TyAgg.agg (P := P) (T := T), TySize.size (P := P) (T := T), hc]
end
end Go.Proofs.Ytgaabmoknpifnaa
/- tree: kid, Path, Get, Items, Right: walked. Conditions: sizes. -/
namespace Go.Proofs.Ytgaabmoknpifnaa
open Go.Proofs Go.RowKit
set_option linter.unusedVariables false
attribute [local irreducible] CW SeqW OpW
set_option maxHeartbeats 4000000
theorem ptr_get {h : Nat} {ks : List (Nd h)} {i : Nat} (hi : i < ks.length) : (ks.map Nd.ptr)[i * 1]? = some (ks[i]).ptr := by simp [hi]
theorem kid_c (H : HF) (B : Option Addr) (d h : Nat) (ks : List (Nd h)) (key : ByteArray) (hl : SlAt H B (ks.map Nd.ptr)) (hk : AllAt H h ks) (hb : ks.length ≤ 1000000) :
    Fn Try.prog 73 [.slice B ks.length d, .string key] H fun v _ => v = .int .i64 (Nd.kidAt ks key : Nat) := by
  refine Fn_of_CW Try.func73 rfl Try.ntmps73 Try.results73 rfl fun w hS => ?_; have hG := Grow.refl hS; have hS0 := hS
  (refine CW_seq ?_; refine CW_region rfl ?_; refine S_op ?_; refine W_assignInt (by first | rfl | assumption) ?_; refine S_nil ?_; refine CW_seq ?_; refine CW_region rfl ?_; refine S_op ?_; refine W_assignInt (by first | rfl | assumption) ?_; refine S_nil ?_; refine CW_seq ?_; refine CW_seq ?_; refine CW_region rfl ?_; refine S_op ?_; refine W_moveSl (by first | rfl | assumption) ?_; refine S_op ?_; refine W_len (by first | rfl | assumption) ?_; refine S_op ?_; refine W_moveInt (by first | rfl | assumption) ?_; refine S_nil ?_; refine CW_block ?_)
  refine CW_loopM [5, 6, 7, 8, 9, 12, 13, 14, 15, 16, 17, 18, 19, 20, 21, 22, 23, 24, 25, 26]
    (fun m u w2 => ∃ (i p : Nat) (H2 : HF), u 12 = .int .i64 (i : Int) ∧ u 5 = .int .i64 (p : Int) ∧ Grow H w H2 w2 ∧ i ≤ ks.length ∧ ks.length - i ≤ m ∧ Nd.kidGo key (ks.drop i) i p = Nd.kidAt ks key)
    (m := ks.length) ⟨0, 0, H, rfl, rfl, hG, by omega, by omega, rfl⟩ ?_
  rintro m u w ⟨i, p, H, h12, h5, hG, hi, hm, hf⟩
  have hS := hG.sub
  replace hl := hl.mono hG.le
  replace hk := hk.mono hG.le
  by_cases hlt : i < ks.length
  · obtain ⟨b, off, hA, hrow⟩ := slAt_some hl hlt
    have hget := ptr_get hlt
    have hx := hk ks[i] (List.getElem_mem _)
    rw [List.drop_eq_getElem_cons hlt] at hf
    simp only [Nd.kidGo] at hf
    cases hs : slt key ks[i].lo with
    | true =>
      rw [hs] at hf
      (refine CW_seq ?_; refine CW_region rfl ?_; refine S_op ?_; refine W_lssT (by first | rfl | assumption) (by first | rfl | assumption) (by first | omega | rfl) ?_; refine S_nil ?_; refine CW_seq ?_; refine CW_true (by first | rfl | assumption) ?_; refine CW_skip ?_; refine CW_seq ?_; refine CW_block ?_; refine CW_seq ?_; refine CW_region rfl ?_; refine S_op ?_; refine W_moveInt (by first | rfl | assumption) ?_; refine S_op ?_; refine W_index (by first | rfl | assumption) (by first | rfl | assumption) (by first | assumption | omega | decide) (by first | rfl | assumption) ?_)
      refine S_op (W_loadRow (by rfl) hrow hget hS ?_)
      (refine S_op ?_; refine W_assignInt (by first | rfl | assumption) ?_; refine S_op ?_; refine W_assignPtr (by first | rfl | assumption) ?_; refine S_nil ?_; refine CW_seq ?_; refine CW_region rfl ?_; refine S_op ?_; refine W_movePtr (by first | rfl | assumption) ?_)
      (refine S_op ?_; refine W_call hS (by rfl) (ends_c hx) ?_); rintro v H w hG' rfl; replace hG := hG.trans hG'; replace hS := hG'.sub; clear hG'
      (refine S_op ?_; refine W_moveTup (by first | rfl | assumption) ?_; refine S_op ?_; refine W_extract (by first | rfl | assumption) (by rfl) ?_; refine S_op ?_; refine W_extract (by first | rfl | assumption) (by rfl) ?_; refine S_op ?_; refine W_assignStr (by first | rfl | assumption) ?_; refine S_op ?_; refine W_assignStr (by first | rfl | assumption) ?_; refine S_nil ?_; refine CW_seq ?_; refine CW_region rfl ?_; refine S_op ?_; refine W_moveStr (by first | rfl | assumption) ?_; refine S_op ?_; refine W_moveStr (by first | rfl | assumption) ?_; refine S_op ?_; refine W_sleqB (by first | rfl | assumption) (by first | rfl | assumption) (by assumption) ?_; refine S_nil ?_; refine CW_false (by first | rfl | assumption) ?_; refine CW_skip ?_; refine CW_region rfl ?_; refine S_op ?_; refine W_add1 (by first | rfl | assumption) (by omega) ?_; refine S_op ?_; refine W_moveInt (by first | rfl | assumption) ?_; refine S_nil ?_)
      exact ⟨(by repeat (first | exact AgreeOff.over | refine AgreeOff.upd rfl ?_ | refine AgreeOff.over2 rfl ?_)), m - 1, by omega, i + 1, p, H, rfl, h5, hG, by omega, by omega, hf⟩
    | false =>
      rw [hs] at hf
      (refine CW_seq ?_; refine CW_region rfl ?_; refine S_op ?_; refine W_lssT (by first | rfl | assumption) (by first | rfl | assumption) (by first | omega | rfl) ?_; refine S_nil ?_; refine CW_seq ?_; refine CW_true (by first | rfl | assumption) ?_; refine CW_skip ?_; refine CW_seq ?_; refine CW_block ?_; refine CW_seq ?_; refine CW_region rfl ?_; refine S_op ?_; refine W_moveInt (by first | rfl | assumption) ?_; refine S_op ?_; refine W_index (by first | rfl | assumption) (by first | rfl | assumption) (by first | assumption | omega | decide) (by first | rfl | assumption) ?_)
      refine S_op (W_loadRow (by rfl) hrow hget hS ?_)
      (refine S_op ?_; refine W_assignInt (by first | rfl | assumption) ?_; refine S_op ?_; refine W_assignPtr (by first | rfl | assumption) ?_; refine S_nil ?_; refine CW_seq ?_; refine CW_region rfl ?_; refine S_op ?_; refine W_movePtr (by first | rfl | assumption) ?_)
      (refine S_op ?_; refine W_call hS (by rfl) (ends_c hx) ?_); rintro v H w hG' rfl; replace hG := hG.trans hG'; replace hS := hG'.sub; clear hG'
      (refine S_op ?_; refine W_moveTup (by first | rfl | assumption) ?_; refine S_op ?_; refine W_extract (by first | rfl | assumption) (by rfl) ?_; refine S_op ?_; refine W_extract (by first | rfl | assumption) (by rfl) ?_; refine S_op ?_; refine W_assignStr (by first | rfl | assumption) ?_; refine S_op ?_; refine W_assignStr (by first | rfl | assumption) ?_; refine S_nil ?_; refine CW_seq ?_; refine CW_region rfl ?_; refine S_op ?_; refine W_moveStr (by first | rfl | assumption) ?_; refine S_op ?_; refine W_moveStr (by first | rfl | assumption) ?_; refine S_op ?_; refine W_sleqB (by first | rfl | assumption) (by first | rfl | assumption) (by assumption) ?_; refine S_nil ?_; refine CW_true (by first | rfl | assumption) ?_; refine CW_region rfl ?_; refine S_op ?_; refine W_moveInt (by first | rfl | assumption) ?_; refine S_op ?_; refine W_assignInt (by first | rfl | assumption) ?_; refine S_nil ?_; refine CW_region rfl ?_; refine S_op ?_; refine W_add1 (by first | rfl | assumption) (by omega) ?_; refine S_op ?_; refine W_moveInt (by first | rfl | assumption) ?_; refine S_nil ?_)
      exact ⟨(by repeat (first | exact AgreeOff.over | refine AgreeOff.upd rfl ?_ | refine AgreeOff.over2 rfl ?_)), m - 1, by omega, i + 1, i, H, rfl, rfl, hG, by omega, by omega, hf⟩
  · rw [List.drop_eq_nil_of_le (by omega)] at hf
    simp only [Nd.kidGo] at hf
    subst hf
    (refine CW_seq ?_; refine CW_region rfl ?_; refine S_op ?_; refine W_lssF (by first | rfl | assumption) (by first | rfl | assumption) (by first | omega | rfl) ?_; refine S_nil ?_; refine CW_seq ?_; refine CW_false (by first | rfl | assumption) ?_; refine CW_exit ?_; refine CW_seq ?_; refine CW_region rfl ?_; refine S_op ?_; refine W_moveInt (by first | rfl | assumption) ?_; refine S_op ?_; refine W_assignInt (by first | rfl | assumption) ?_; refine S_nil ?_; refine CW_ret ?_)
    exact ⟨_, ResW_one (v := .int _ _) rfl, H, hG, rfl⟩
theorem path_c (H : HF) (h : Nat) (x : Nd h) (key : ByteArray) (hx : NodeAt H h x) (hh : h ≤ 1000000) :
    Fn Try.prog 69 [x.ptr, .string key] H fun v H' => IsSl 1 v (h + 1) (Nd.pathL h x key) H' := by
  refine Fn_of_CW Try.func69 rfl Try.ntmps69 Try.results69 rfl fun w hS => ?_; have hG := Grow.refl hS; have hS0 := hS
  (refine CW_seq ?_; refine CW_region rfl ?_; refine S_op ?_; refine W_assignSl (by first | rfl | assumption) ?_; refine S_nil ?_; refine CW_seq ?_; refine CW_region rfl ?_; refine S_op ?_; refine W_assignSl (by first | rfl | assumption) ?_; refine S_nil ?_; refine CW_seq ?_; refine CW_block ?_)
  refine CW_loopM [0, 5, 6, 7, 8, 9, 10, 11, 12, 13, 14, 15, 16, 17, 18, 19, 20, 21]
    (fun m u w2 => ∃ (j : Nat) (y : Nd j) (pre : List Value) (A : Option Addr) (c : Nat) (H2 : HF), u 0 = y.ptr ∧ u 5 = .slice A pre.length c ∧ Grow H w H2 w2 ∧ Own H2 w2 w.heap.size 24 1 A pre.length c pre ∧ NodeAt H2 j y ∧ pre ++ Nd.pathL j y key = Nd.pathL h x key ∧ pre.length + j = h ∧ j ≤ m)
    (m := h) ⟨h, x, [], none, 0, H, rfl, rfl, hG, Own.nil _ _ _ _ _, hx, rfl, by simp, Nat.le_refl _⟩ ?_
  rintro m u w ⟨j, y, pre, A, c, H, h0, h5, hG, hown, hy, hp, hlen, hm⟩
  have hS := hG.sub
  cases j with
  | zero =>
    (refine CW_seq ?_; refine CW_seq ?_; refine CW_region rfl ?_; refine S_op ?_; refine W_movePtr (by first | rfl | assumption) ?_)
    (refine S_op ?_; refine W_call hS (by rfl) (height_c hy) ?_); rintro v H w hG' rfl; replace hG := hG.trans hG'; replace hS := hG'.sub; replace hy := hy.mono hG'.le; replace hown := hown.grow hG'; clear hG'
    (refine S_op ?_; refine W_gtrF (by first | rfl | assumption) (by first | rfl | assumption) (by first | omega | rfl) ?_; refine S_nil ?_; refine CW_false (by first | rfl | assumption) ?_; refine CW_exit ?_; refine CW_seq ?_; refine CW_seq ?_; refine CW_region rfl ?_; refine S_op ?_; refine W_movePtr (by first | rfl | assumption) ?_)
    (refine S_op ?_; refine W_call hS (by rfl) (height_c hy) ?_); rintro v H w hG' rfl; replace hG := hG.trans hG'; replace hS := hG'.sub; replace hy := hy.mono hG'.le; replace hown := hown.grow hG'; clear hG'
    (refine S_op ?_; refine W_eqlT (by first | rfl | assumption) (by first | rfl | assumption) (by first | omega | rfl) ?_; refine S_nil ?_; refine CW_true (by first | rfl | assumption) ?_; refine CW_region rfl ?_; refine S_op ?_; refine W_moveSl (by first | rfl | assumption) ?_; refine S_op ?_; refine W_movePtr (by first | rfl | assumption) ?_)
    refine S_op ?_
    refine W_build1 (sz := 1) (v := y.ptr) hS (by omega) (by rfl) (by rfl) ?_
    intro H w b hG' hb' _ _
    replace hG := hG.trans hG'
    replace hS := hG'.sub
    replace hy := hy.mono hG'.le
    replace hown := hown.grow hG'
    clear hG'
    skip
    refine S_op ?_
    refine W_append (news := [y.ptr]) (by rfl) (by rfl) hG hown ((SlAt.of_row hb').cells hS) (by rfl) (by intro u hu; simp at hu; subst hu; rfl) (by decide) (by omega) (by omega) ?_
    intro A c w hG hown _ hA3
    clear hA3
    replace hS := hG.sub
    (refine S_op ?_; refine W_assignSl (by first | rfl | assumption) ?_; refine S_nil ?_; refine CW_seq ?_; refine CW_region rfl ?_; refine S_op ?_; refine W_moveSl (by first | rfl | assumption) ?_; refine S_op ?_; refine W_assignSl (by first | rfl | assumption) ?_; refine S_nil ?_; refine CW_ret ?_)
    obtain ⟨H3, hle3, hG3, hsl3, _⟩ := hown.freeze hG
    exact ⟨_, ResW_one (v := .slice _ _ _) rfl, H3, hG3, A, c, by rw [← hlen], by have := hown.cap; omega, by rw [← hp]; exact hsl3, by rw [Nd.path_length]; omega⟩
  | succ j =>
    (refine CW_seq ?_; refine CW_seq ?_; refine CW_region rfl ?_; refine S_op ?_; refine W_movePtr (by first | rfl | assumption) ?_)
    (refine S_op ?_; refine W_call hS (by rfl) (height_c hy) ?_); rintro v H w hG' rfl; replace hG := hG.trans hG'; replace hS := hG'.sub; replace hy := hy.mono hG'.le; replace hown := hown.grow hG'; clear hG'
    (refine S_op ?_; refine W_gtrT (by first | rfl | assumption) (by first | rfl | assumption) (by first | omega | rfl) ?_; refine S_nil ?_; refine CW_true (by first | rfl | assumption) ?_; refine CW_skip ?_; refine CW_block ?_; refine CW_seq ?_; refine CW_region rfl ?_; refine S_op ?_; refine W_moveSl (by first | rfl | assumption) ?_; refine S_op ?_; refine W_movePtr (by first | rfl | assumption) ?_)
    refine S_op ?_
    refine W_build1 (sz := 1) (v := y.ptr) hS (by omega) (by rfl) (by rfl) ?_
    intro H w b hG' hb' _ _
    replace hG := hG.trans hG'
    replace hS := hG'.sub
    replace hy := hy.mono hG'.le
    replace hown := hown.grow hG'
    clear hG'
    skip
    refine S_op ?_
    refine W_append (news := [y.ptr]) (by rfl) (by rfl) hG hown ((SlAt.of_row hb').cells hS) (by rfl) (by intro u hu; simp at hu; subst hu; rfl) (by decide) (by omega) (by omega) ?_
    intro A c w hG hown _ hA3
    clear hA3
    replace hS := hG.sub
    (refine S_op ?_; refine W_assignSl (by first | rfl | assumption) ?_; refine S_nil ?_; refine CW_seq ?_; refine CW_region rfl ?_; refine S_op ?_; refine W_movePtr (by first | rfl | assumption) ?_)
    (refine S_op ?_; refine W_call hS (by rfl) (kids_c hy) ?_); rintro v H w hG' hv; replace hG := hG.trans hG'; replace hS := hG'.sub; replace hy := hy.mono hG'.le; replace hown := hown.grow hG'; clear hG'
    obtain ⟨B, d, rfl, hd, hsl, _⟩ := hv
    have h6 := hy.ok.2.1
    (refine S_op ?_; refine W_assignSl (by first | rfl | assumption) ?_; refine S_nil ?_; refine CW_region rfl ?_; refine S_op ?_; refine W_moveSl (by first | rfl | assumption) ?_; refine S_op ?_; refine W_moveSl (by first | rfl | assumption) ?_; refine S_op ?_; refine W_moveStr (by first | rfl | assumption) ?_)
    (refine S_op ?_; refine W_call hS (by rfl) (kid_c H B d j y.kids key hsl hy.kids (by omega)) ?_); rintro v H w hG' rfl; replace hG := hG.trans hG'; replace hS := hG'.sub; replace hy := hy.mono hG'.le; replace hsl := hsl.mono hG'.le; replace hown := hown.grow hG'; clear hG'
    have hq := Nd.kidAt_lt hy.ok key
    obtain ⟨bb, off, hA, hrow⟩ := slAt_some hsl hq
    have hget := ptr_get hq
    have hko : y.kids[Nd.kidAt y.kids key] = Nd.kidOf y key := by simp [Nd.kidOf, hq]
    rw [hko] at hget
    (refine S_op ?_; refine W_index (by first | rfl | assumption) (by first | rfl | assumption) (by first | assumption | omega | decide) (by first | rfl | assumption) ?_)
    refine S_op (W_loadRow (by rfl) hrow hget hS ?_)
    (refine S_op ?_; refine W_assignPtr (by first | rfl | assumption) ?_; refine S_nil ?_)
    have hl1 : (pre ++ [y.ptr]).length = pre.length + 1 := by simp
    exact ⟨(by repeat (first | exact AgreeOff.over | refine AgreeOff.upd rfl ?_ | refine AgreeOff.over2 rfl ?_)), m - 1, by omega, j, Nd.kidOf y key, pre ++ [y.ptr], A, c, H, rfl, by rw [hl1]; rfl, hG, by rw [hl1]; exact hown, hy.kids _ (Nd.kidOf_mem hy.ok key), by rw [← hp]; simp [Nd.pathL], by omega, by omega⟩
theorem path_nil (H : HF) (key : ByteArray) : Fn Try.prog 69 [.pointer none, .string key] H fun v H' => v = .slice none 0 0 := by
  refine Fn_of_CW Try.func69 rfl Try.ntmps69 Try.results69 rfl fun w hS => ?_; have hG := Grow.refl hS; have hS0 := hS
  (refine CW_seq ?_; refine CW_region rfl ?_; refine S_op ?_; refine W_assignSl (by first | rfl | assumption) ?_; refine S_nil ?_; refine CW_seq ?_; refine CW_region rfl ?_; refine S_op ?_; refine W_assignSl (by first | rfl | assumption) ?_; refine S_nil ?_; refine CW_seq ?_; refine CW_block ?_)
  refine CW_loopM [0, 5, 6, 7, 8, 9, 10, 11, 12, 13, 14, 15, 16, 17, 18, 19, 20, 21]
    (fun m u w2 => u 0 = .pointer none ∧ u 5 = .slice none 0 0 ∧ w2 = w)
    (m := 0) ⟨rfl, rfl, rfl⟩ ?_
  rintro m u w2 ⟨h0, h5, rfl⟩
  (refine CW_seq ?_; refine CW_seq ?_; refine CW_region rfl ?_; refine S_op ?_; refine W_movePtr (by first | rfl | assumption) ?_)
  (refine S_op ?_; refine W_call hS (by rfl) (height_nil (H := H)) ?_); rintro v H w hG' rfl; replace hG := hG.trans hG'; replace hS := hG'.sub; clear hG'
  (refine S_op ?_; refine W_gtrF (by first | rfl | assumption) (by first | rfl | assumption) (by first | omega | rfl) ?_; refine S_nil ?_; refine CW_false (by first | rfl | assumption) ?_; refine CW_exit ?_; refine CW_seq ?_; refine CW_seq ?_; refine CW_region rfl ?_; refine S_op ?_; refine W_movePtr (by first | rfl | assumption) ?_)
  (refine S_op ?_; refine W_call hS (by rfl) (height_nil (H := H)) ?_); rintro v H w hG' rfl; replace hG := hG.trans hG'; replace hS := hG'.sub; clear hG'
  (refine S_op ?_; refine W_eqlF (by first | rfl | assumption) (by first | rfl | assumption) (by first | omega | rfl) ?_; refine S_nil ?_; refine CW_false (by first | rfl | assumption) ?_; refine CW_skip ?_; refine CW_seq ?_; refine CW_region rfl ?_; refine S_op ?_; refine W_moveSl (by first | rfl | assumption) ?_; refine S_op ?_; refine W_assignSl (by first | rfl | assumption) ?_; refine S_nil ?_; refine CW_ret ?_)
  exact ⟨_, ResW_one (v := .slice _ _ _) rfl, H, hG, rfl⟩
/-! ### Get -/
theorem get_c (H : HF) (h : Nat) (x : Nd h) (key : ByteArray) (hx : NodeAt H h x) (hh : h ≤ 1000000) :
    Fn Try.prog 56 [x.ptr, .string key] H fun v _ => v = .tuple #[.string (lookV (Nd.items h x) key), .bool (lookB (Nd.items h x) key)] := by
  have hlk := Nd.look_leaf hx.ok key
  have e1 : lookV (Nd.items h x) key = lookV (Nd.leafAt h x key).ents key := by simp only [lookV, hlk]
  have e2 : lookB (Nd.items h x) key = lookB (Nd.leafAt h x key).ents key := by simp only [lookB, hlk]
  rw [e1, e2]
  refine Fn_of_CW Try.func56 rfl Try.ntmps56 Try.results56 rfl fun w hS => ?_; have hG := Grow.refl hS; have hS0 := hS
  (refine CW_seq ?_; refine CW_region rfl ?_; refine S_op ?_; refine W_assignStr (by first | rfl | assumption) ?_; refine S_op ?_; refine W_assignBool (by first | rfl | assumption) ?_; refine S_nil ?_; refine CW_seq ?_; refine CW_region rfl ?_; refine S_op ?_; refine W_movePtr (by first | rfl | assumption) ?_; refine S_op ?_; refine W_moveStr (by first | rfl | assumption) ?_)
  (refine S_op ?_; refine W_call hS (by rfl) (path_c H h x key hx hh) ?_); rintro v H w hG' hv; replace hG := hG.trans hG'; replace hS := hG'.sub; replace hx := hx.mono hG'.le; clear hG'
  obtain ⟨A, c, rfl, hc, hsl, hlen⟩ := hv
  have hget := Nd.path_last x key
  obtain ⟨bb, off, hA, hrow⟩ : ∃ bb off, A = some ⟨bb, off, none⟩ ∧ Row H bb off (Nd.pathL h x key) := by
    rcases hsl with h1 | h1
    · rw [h1] at hget; simp at hget
    · exact h1
  have hat := hx.leafAt key
  generalize Nd.leafAt h x key = y at *
  have hq : h + 1 - 1 < h + 1 := by omega
  replace hget : (Nd.pathL h x key)[(h + 1 - 1) * 1]? = some y.ptr := by simpa using hget
  (refine S_op ?_; refine W_assignSl (by first | rfl | assumption) ?_; refine S_nil ?_; refine CW_seq ?_; refine CW_seq ?_; refine CW_region rfl ?_; refine S_op ?_; refine W_moveSl (by first | rfl | assumption) ?_; refine S_op ?_; refine W_len (by first | rfl | assumption) ?_; refine S_op ?_; refine W_eqlF (by first | rfl | assumption) (by first | rfl | assumption) (by first | omega | rfl) ?_; refine S_nil ?_; refine CW_false (by first | rfl | assumption) ?_; refine CW_skip ?_; refine CW_seq ?_; refine CW_region rfl ?_; refine S_op ?_; refine W_moveSl (by first | rfl | assumption) ?_; refine S_op ?_; refine W_moveSl (by first | rfl | assumption) ?_; refine S_op ?_; refine W_len (by first | rfl | assumption) ?_; refine S_op ?_; refine W_sub1 (by first | rfl | assumption) (by omega) (by omega) ?_; refine S_op ?_; refine W_index (by first | rfl | assumption) (by first | rfl | assumption) (by first | assumption | omega | decide) (by first | rfl | assumption) ?_)
  refine S_op (W_loadRow (by rfl) hrow hget hS ?_)
  skip
  (refine S_op ?_; refine W_call hS (by rfl) (entries_c hat) ?_); rintro v H w hG' hv; replace hG := hG.trans hG'; replace hS := hG'.sub; clear hG'
  obtain ⟨A2, c2, rfl, hc2, hl2⟩ := hv
  have hyl : y.ents.length ≤ 4 := by have := hat.ok; simp only [Nd.Ok, leafB, Bool.and_eq_true, decide_eq_true_eq] at this; omega
  have hl2 : EntsAt H A2 y.ents := hl2
  rw [show Nd.own 0 y = y.ents from rfl]
  (refine S_op ?_; refine W_assignSl (by first | rfl | assumption) ?_; refine S_nil ?_; refine CW_seq ?_; refine CW_region rfl ?_; refine S_op ?_; refine W_moveSl (by first | rfl | assumption) ?_; refine S_op ?_; refine W_moveStr (by first | rfl | assumption) ?_)
  (refine S_op ?_; refine W_call hS (by rfl) (find_c H A2 c2 y.ents key hl2 (by omega)) ?_); rintro v H w hG' rfl; replace hG := hG.trans hG'; replace hS := hG'.sub; replace hl2 := hl2.mono hG'.le; clear hG'
  cases hf : findIs y.ents key with
  | false =>
    (refine S_op ?_; refine W_moveTup (by first | rfl | assumption) ?_; refine S_op ?_; refine W_extract (by first | rfl | assumption) (by rfl) ?_; refine S_op ?_; refine W_extract (by first | rfl | assumption) (by rfl) ?_; refine S_op ?_; refine W_assignInt (by first | rfl | assumption) ?_; refine S_op ?_; refine W_assignBool (by first | rfl | assumption) ?_; refine S_nil ?_; refine CW_seq ?_; refine CW_seq ?_; refine CW_region rfl ?_; refine S_op ?_; refine W_moveBool (by first | rfl | assumption) ?_; refine S_op ?_; refine W_not (by first | rfl | assumption) ?_; refine S_nil ?_; refine CW_true (by first | rfl | assumption) ?_; refine CW_seq ?_; refine CW_region rfl ?_; refine S_op ?_; refine W_assignStr (by first | rfl | assumption) ?_; refine S_op ?_; refine W_assignBool (by first | rfl | assumption) ?_; refine S_nil ?_; refine CW_ret ?_)
    exact ⟨_, ResW_two (v1 := .string _) (v2 := .bool _) rfl rfl, H, hG, by rw [(lookV_no hf).1, (lookV_no hf).2]⟩
  | true =>
    have hq2 := findIs_lt hf
    obtain ⟨bb2, off2, hA2, hrow2⟩ := hl2.some hq2
    (refine S_op ?_; refine W_moveTup (by first | rfl | assumption) ?_; refine S_op ?_; refine W_extract (by first | rfl | assumption) (by rfl) ?_; refine S_op ?_; refine W_extract (by first | rfl | assumption) (by rfl) ?_; refine S_op ?_; refine W_assignInt (by first | rfl | assumption) ?_; refine S_op ?_; refine W_assignBool (by first | rfl | assumption) ?_; refine S_nil ?_; refine CW_seq ?_; refine CW_seq ?_; refine CW_region rfl ?_; refine S_op ?_; refine W_moveBool (by first | rfl | assumption) ?_; refine S_op ?_; refine W_not (by first | rfl | assumption) ?_; refine S_nil ?_; refine CW_false (by first | rfl | assumption) ?_; refine CW_skip ?_; refine CW_seq ?_; refine CW_region rfl ?_; refine S_op ?_; refine W_moveSl (by first | rfl | assumption) ?_; refine S_op ?_; refine W_moveInt (by first | rfl | assumption) ?_; refine S_op ?_; refine W_index (by first | rfl | assumption) (by first | rfl | assumption) (by first | assumption | omega | decide) (by first | rfl | assumption) ?_; refine S_op ?_; refine W_field (by first | rfl | assumption) ?_; refine S_op ?_; refine W_loadVal (by first | rfl | assumption) (by assumption) (by first | assumption | omega) (by assumption) ?_; refine S_op ?_; refine W_assignStr (by first | rfl | assumption) ?_; refine S_op ?_; refine W_assignBool (by first | rfl | assumption) ?_; refine S_nil ?_; refine CW_ret ?_)
    exact ⟨_, ResW_two (v1 := .string _) (v2 := .bool _) rfl rfl, H, hG, by rw [(lookV_yes hf).1, (lookV_yes hf).2]⟩
theorem get_t {H : HF} {t : Tr} (ht : Tr.At H t) (key : ByteArray) (hh : t.height ≤ 1000000) :
    Fn Try.prog 56 [t.val, .string key] H fun v _ => v = .tuple #[.string (lookV t.items key), .bool (lookB t.items key)] := by
  cases t with
  | none =>
    show Fn Try.prog 56 [.pointer none, .string key] H fun v _ => v = .tuple #[.string ⟨#[]⟩, .bool false]
    refine Fn_of_CW Try.func56 rfl Try.ntmps56 Try.results56 rfl fun w hS => ?_; have hG := Grow.refl hS; have hS0 := hS
    (refine CW_seq ?_; refine CW_region rfl ?_; refine S_op ?_; refine W_assignStr (by first | rfl | assumption) ?_; refine S_op ?_; refine W_assignBool (by first | rfl | assumption) ?_; refine S_nil ?_; refine CW_seq ?_; refine CW_region rfl ?_; refine S_op ?_; refine W_movePtr (by first | rfl | assumption) ?_; refine S_op ?_; refine W_moveStr (by first | rfl | assumption) ?_)
    (refine S_op ?_; refine W_call hS (by rfl) (path_nil H key) ?_); rintro v H w hG' rfl; replace hG := hG.trans hG'; replace hS := hG'.sub; clear hG'
    (refine S_op ?_; refine W_assignSl (by first | rfl | assumption) ?_; refine S_nil ?_; refine CW_seq ?_; refine CW_seq ?_; refine CW_region rfl ?_; refine S_op ?_; refine W_moveSl (by first | rfl | assumption) ?_; refine S_op ?_; refine W_len (by first | rfl | assumption) ?_; refine S_op ?_; refine W_eqlT (by first | rfl | assumption) (by first | rfl | assumption) (by first | omega | rfl) ?_; refine S_nil ?_; refine CW_true (by first | rfl | assumption) ?_; refine CW_seq ?_; refine CW_region rfl ?_; refine S_op ?_; refine W_assignStr (by first | rfl | assumption) ?_; refine S_op ?_; refine W_assignBool (by first | rfl | assumption) ?_; refine S_nil ?_; refine CW_ret ?_)
    exact ⟨_, ResW_two (v1 := .string _) (v2 := .bool _) rfl rfl, H, hG, rfl⟩
  | some x => exact get_c H x.1 x.2 key ht (by simp only [Tr.height] at hh; omega)
/-! ### Items -/
theorem flat_take {h : Nat} {ks : List (Nd h)} {i : Nat} (hi : i < ks.length) : (ks.take (i + 1)).flatMap (Nd.items h) = (ks.take i).flatMap (Nd.items h) ++ Nd.items h ks[i] := by
  rw [take_succ' hi, List.flatMap_append, List.flatMap_singleton]
theorem flat_le {h : Nat} (ks : List (Nd h)) (i : Nat) : ((ks.take i).flatMap (Nd.items h)).length ≤ (ks.flatMap (Nd.items h)).length := by
  conv => rhs; rw [← List.take_append_drop i ks, List.flatMap_append, List.length_append]
  omega
end Go.Proofs.Ytgaabmoknpifnaa
/- walk.up, walked: it gives a tree's entries from a key upwards. Conditions: none but the tree's. -/
namespace Go.Proofs.Ytgaabmoknpifnaa
open Go.Proofs Go.RowKit
set_option linter.unusedVariables false
attribute [local irreducible] CW SeqW OpW CallV
set_option maxHeartbeats 4000000
def encP (e : Ent) : List Value := [.string e.key, .string e.val]
def fromL (k : ByteArray) (l : List Ent) : List Ent := l.filter fun e => !slt e.key k
theorem fromL_append (k : ByteArray) (l m : List Ent) : fromL k (l ++ m) = fromL k l ++ fromL k m := List.filter_append ..
theorem fromL_nil_of {k : ByteArray} {l : List Ent} (h : ∀ e ∈ l, slt e.key k = true) : fromL k l = [] := by
  simp only [fromL, List.filter_eq_nil_iff]
  intro e he
  simp [h e he]
theorem fromL_take {k : ByteArray} {l : List Ent} {i : Nat} (h : i < l.length) : fromL k (l.take (i + 1)) = fromL k (l.take i) ++ (if slt (ent l i).key k then [] else [ent l i]) := by
  rw [take_succ' h, fromL_append]
  congr 1
  have e : l[i] = ent l i := by simp [ent, h]
  rw [e]
  cases hs : slt (ent l i).key k <;> simp [fromL, hs]
section
variable {xs : List Ent} {y : Value} {J Jx : Inv Ent} {key : ByteArray}
theorem up_nil {H0 : HF} {w0 : World} {X0 : Nat → Prop} {pre : List Ent} (hJ : Stable J) (hS : Sub H0 w0) (hj : J X0 pre H0 w0) :
    CallW Try.prog 48 [.pointer none, .string key, y].toArray w0 (Went xs J Jx X0 H0 w0 pre) := by
  refine CallW_of_CW Try.func48 rfl Try.ntmps48 Try.results48 rfl ?_
  have hG := Grow.refl hS
  have hI := Its.start hS hj
  (refine CW_seq ?_; refine CW_region rfl ?_; refine S_op ?_; refine W_assignBool (by first | rfl | assumption) ?_; refine S_nil ?_; refine CW_seq ?_; refine CW_seq ?_; refine CW_region rfl ?_; refine S_op ?_; refine W_movePtr (by first | rfl | assumption) ?_)
  (refine S_op ?_; refine W_call hS (by rfl) (ends_nil (H := H0)) ?_); rintro v H w hG' rfl; replace hG := hG.trans hG'; replace hS := hG'.sub; clear hG'
  (refine S_op ?_; refine W_moveTup (by first | rfl | assumption) ?_; refine S_op ?_; refine W_extract (by first | rfl | assumption) (by rfl) ?_; refine S_op ?_; refine W_extract (by first | rfl | assumption) (by rfl) ?_; refine S_op ?_; refine W_assignStr (by first | rfl | assumption) ?_; refine S_op ?_; refine W_assignStr (by first | rfl | assumption) ?_; refine S_nil ?_; refine CW_seq ?_; refine CW_region rfl ?_; refine S_op ?_; refine W_movePtr (by first | rfl | assumption) ?_; refine S_op ?_; refine W_peqnil (by first | rfl | assumption) (by first | rfl | assumption) ?_; refine S_op ?_; refine W_moveBool (by first | rfl | assumption) ?_; refine S_pass (by rfl) ?_; refine S_pass (by rfl) ?_; refine S_pass (by rfl) ?_; refine S_op ?_; refine W_pickT (by first | rfl | assumption) (by first | rfl | assumption) ?_; refine S_nil ?_; refine CW_true (by first | rfl | assumption) ?_; refine CW_seq ?_; refine CW_region rfl ?_; refine S_op ?_; refine W_assignBool (by first | rfl | assumption) ?_; refine S_nil ?_; refine CW_ret ?_)
  exact ⟨_, ResW_one (v := .bool _) rfl, .inl ⟨rfl, _, H, hI.step hJ hG⟩⟩
theorem from_split {k : ByteArray} {l : List Ent} {i : Nat} (h : i < l.length) (hk : slt (ent l i).key k = false) : fromL k l = fromL k (l.take i) ++ ent l i :: fromL k (l.drop (i + 1)) := by
  have h1 : l = l.take i ++ ent l i :: l.drop (i + 1) := by
    have e : l[i] = ent l i := by simp [ent, h]
    rw [← e, ← List.drop_eq_getElem_cons h, List.take_append_drop]
  conv => lhs; rw [h1, fromL_append]
  congr 1
  simp [fromL, hk]
theorem up_c (hJ : Stable J) (hy : Yields Try.prog y encP xs J Jx) (h : Nat) : ∀ (H0 : HF) (w0 : World) (x : Nd h) (X0 : Nat → Prop) (pre rest : List Ent), NodeAt H0 h x → Sub H0 w0 → xs = pre ++ fromL key (Nd.items h x) ++ rest → J X0 pre H0 w0 →
    CallW Try.prog 48 [x.ptr, .string key, y].toArray w0 (Went xs J Jx X0 H0 w0 (pre ++ fromL key (Nd.items h x))) := by
  induction h with
  | zero =>
    intro H0 w0 x X0 pre rest hx hS hxs hj
    refine CallW_of_CW Try.func48 rfl Try.ntmps48 Try.results48 rfl ?_
    have hG := Grow.refl hS
    have hI := Its.start hS hj
    (refine CW_seq ?_; refine CW_region rfl ?_; refine S_op ?_; refine W_assignBool (by first | rfl | assumption) ?_; refine S_nil ?_; refine CW_seq ?_; refine CW_seq ?_; refine CW_region rfl ?_; refine S_op ?_; refine W_movePtr (by first | rfl | assumption) ?_)
    (refine S_op ?_; refine W_call hS (by rfl) (ends_c hx) ?_); rintro v H w hG' rfl; replace hG := hG.trans hG'; replace hS := hG'.sub; replace hx := hx.mono hG'.le; clear hG'
    cases hk : slt x.hi key with
    | true =>
      (refine S_op ?_; refine W_moveTup (by first | rfl | assumption) ?_; refine S_op ?_; refine W_extract (by first | rfl | assumption) (by rfl) ?_; refine S_op ?_; refine W_extract (by first | rfl | assumption) (by rfl) ?_; refine S_op ?_; refine W_assignStr (by first | rfl | assumption) ?_; refine S_op ?_; refine W_assignStr (by first | rfl | assumption) ?_; refine S_nil ?_; refine CW_seq ?_; refine CW_region rfl ?_; refine S_op ?_; refine W_movePtr (by first | rfl | assumption) ?_; refine S_op ?_; refine W_peqnil (by first | rfl | assumption) (by first | rfl | assumption) ?_; refine S_op ?_; refine W_moveBool (by first | rfl | assumption) ?_; refine S_want (by rfl) ?_; refine W_moveStr (by first | rfl | assumption) ?_; refine S_want (by rfl) ?_; refine W_moveStr (by first | rfl | assumption) ?_; refine S_want (by rfl) ?_; refine W_slssB (by first | rfl | assumption) (by first | rfl | assumption) (by assumption) ?_; refine S_op ?_; refine W_pickF (by first | rfl | assumption) (by first | rfl | assumption) ?_; refine S_nil ?_; refine CW_true (by first | rfl | assumption) ?_; refine CW_seq ?_; refine CW_region rfl ?_; refine S_op ?_; refine W_assignBool (by first | rfl | assumption) ?_; refine S_nil ?_; refine CW_ret ?_)
      have hI1 := hI.step hJ hG
      rw [fromL_nil_of (fun e he => slt_of_le_of_lt (Nd.le_hi hx.ok he) hk), List.append_nil]
      exact ⟨_, ResW_one (v := .bool _) rfl, .inl ⟨rfl, _, H, hI1⟩⟩
    | false =>
      (refine S_op ?_; refine W_moveTup (by first | rfl | assumption) ?_; refine S_op ?_; refine W_extract (by first | rfl | assumption) (by rfl) ?_; refine S_op ?_; refine W_extract (by first | rfl | assumption) (by rfl) ?_; refine S_op ?_; refine W_assignStr (by first | rfl | assumption) ?_; refine S_op ?_; refine W_assignStr (by first | rfl | assumption) ?_; refine S_nil ?_; refine CW_seq ?_; refine CW_region rfl ?_; refine S_op ?_; refine W_movePtr (by first | rfl | assumption) ?_; refine S_op ?_; refine W_peqnil (by first | rfl | assumption) (by first | rfl | assumption) ?_; refine S_op ?_; refine W_moveBool (by first | rfl | assumption) ?_; refine S_want (by rfl) ?_; refine W_moveStr (by first | rfl | assumption) ?_; refine S_want (by rfl) ?_; refine W_moveStr (by first | rfl | assumption) ?_; refine S_want (by rfl) ?_; refine W_slssB (by first | rfl | assumption) (by first | rfl | assumption) (by assumption) ?_; refine S_op ?_; refine W_pickF (by first | rfl | assumption) (by first | rfl | assumption) ?_; refine S_nil ?_; refine CW_false (by first | rfl | assumption) ?_; refine CW_skip ?_; refine CW_seq ?_; refine CW_seq ?_; refine CW_region rfl ?_; refine S_op ?_; refine W_movePtr (by first | rfl | assumption) ?_)
      (refine S_op ?_; refine W_call hS (by rfl) (entries_c hx) ?_); rintro v H w hG' hv; replace hG := hG.trans hG'; replace hS := hG'.sub; replace hx := hx.mono hG'.le; clear hG'
      obtain ⟨A, c, rfl, hc, hl⟩ := hv
      have hl : EntsAt H A x.ents := hl
      have hxl : x.ents.length ≤ 4 := by have := hx.ok; simp only [Nd.Ok, leafB, Bool.and_eq_true, decide_eq_true_eq] at this; omega
      rw [show Nd.own 0 x = x.ents from rfl]
      have hxs : xs = pre ++ fromL key x.ents ++ rest := hxs
      (refine S_op ?_; refine W_len (by first | rfl | assumption) ?_; refine S_op ?_; refine W_moveInt (by first | rfl | assumption) ?_; refine S_nil ?_; refine CW_block ?_)
      refine CW_loopM [6, 10, 28, 29, 30, 31, 32, 33, 34, 35, 36, 37, 38, 39, 40, 41, 42, 43, 44, 45] (fun m u w2 => ∃ (i : Nat) (X : Nat → Prop) (H2 : HF), u 28 = .int .i64 (i : Int) ∧ i ≤ x.ents.length ∧ x.ents.length - i ≤ m ∧ HLe H H2 ∧ Its J X0 H0 w0 X (pre ++ fromL key (x.ents.take i)) H2 w2)
        (m := x.ents.length) ⟨0, _, H, rfl, by omega, by omega, HLe.refl _, by simpa [fromL] using hI.step hJ hG⟩ ?_
      clear hI hG hS hj
      rintro m u w2 ⟨i, X, H2, h28, hi, hm, hle, hI⟩
      have hS := hI.sub
      have hG := Grow.refl hS
      replace hl := hl.mono hle
      replace hx := hx.mono hle
      by_cases hlt : i < x.ents.length
      · obtain ⟨bb, off, hA, hrow⟩ := hl.some hlt
        have hft := fromL_take (k := key) hlt
        cases hk : slt (ent x.ents i).key key with
        | true =>
          rw [hk] at hft
          (refine CW_seq ?_; refine CW_region rfl ?_; refine S_op ?_; refine W_lssT (by first | rfl | assumption) (by first | rfl | assumption) (by first | omega | rfl) ?_; refine S_nil ?_; refine CW_seq ?_; refine CW_true (by first | rfl | assumption) ?_; refine CW_skip ?_; refine CW_seq ?_; refine CW_block ?_; refine CW_seq ?_; refine CW_region rfl ?_; refine S_op ?_; refine W_index (by first | rfl | assumption) (by first | rfl | assumption) (by first | assumption | omega | decide) (by first | rfl | assumption) ?_; refine S_op ?_; refine W_loadEnt (by first | rfl | assumption) (by assumption) (by first | assumption | omega) (by assumption) ?_)
          (refine S_op (W_alloc hS ?_)); intro w cb hG' ch c; replace ch := Nat.le_trans hG.below.size (Nat.le_of_eq ch); replace hG := hG.trans hG'; replace hS := hG'.sub; clear hG'
          skip
          (refine S_op0 (W_storeM (o := 0) (vs := [.string (ent x.ents i).key, .string (ent x.ents i).val]) (by rfl) (by rfl) c (by rfl) (OneCells.of_all (by rfl)) (by rfl) (Nat.le_of_ble_eq_true (by rfl)) ?_)); intro w hgb' hm'; replace hG := hG.grownBy hgb' (fun g h => by cases h; exact ⟨c.out, ch⟩); replace hS := hG.sub; replace c : Mut _ w cb ([.string (ent x.ents i).key, .string (ent x.ents i).val]) := hm'; clear hm'; clear hgb'
          (refine S_nil ?_; refine CW_seq ?_; refine CW_region rfl ?_; refine S_op ?_; refine W_field (by first | rfl | assumption) ?_; refine S_op ?_; refine W_loadM (by first | rfl | assumption) (by assumption) (by rfl) ?_; refine S_op ?_; refine W_moveStr (by first | rfl | assumption) ?_; refine S_op ?_; refine W_sgeqB (by first | rfl | assumption) (by first | rfl | assumption) (by assumption) ?_; refine S_op ?_; refine W_moveBool (by first | rfl | assumption) ?_; refine S_pass (by rfl) ?_; refine S_pass (by rfl) ?_; refine S_pass (by rfl) ?_; refine S_pass (by rfl) ?_; refine S_pass (by rfl) ?_; refine S_pass (by rfl) ?_; refine S_pass (by rfl) ?_; refine S_op ?_; refine W_pickF (by first | rfl | assumption) (by first | rfl | assumption) ?_; refine S_nil ?_; refine CW_false (by first | rfl | assumption) ?_; refine CW_skip ?_; refine CW_region rfl ?_; refine S_op ?_; refine W_add1 (by first | rfl | assumption) (by omega) ?_; refine S_op ?_; refine W_moveInt (by first | rfl | assumption) ?_; refine S_nil ?_)
          exact ⟨(by repeat (first | exact AgreeOff.over | refine AgreeOff.upd rfl ?_ | refine AgreeOff.over2 rfl ?_)), m - 1, by omega, i + 1, _, H2, rfl, by omega, by omega, hle, by rw [hft]; simpa using hI.step hJ hG⟩
        | false =>
          rw [hk] at hft
          have hsp := from_split hlt hk
          (refine CW_seq ?_; refine CW_region rfl ?_; refine S_op ?_; refine W_lssT (by first | rfl | assumption) (by first | rfl | assumption) (by first | omega | rfl) ?_; refine S_nil ?_; refine CW_seq ?_; refine CW_true (by first | rfl | assumption) ?_; refine CW_skip ?_; refine CW_seq ?_; refine CW_block ?_; refine CW_seq ?_; refine CW_region rfl ?_; refine S_op ?_; refine W_index (by first | rfl | assumption) (by first | rfl | assumption) (by first | assumption | omega | decide) (by first | rfl | assumption) ?_; refine S_op ?_; refine W_loadEnt (by first | rfl | assumption) (by assumption) (by first | assumption | omega) (by assumption) ?_)
          (refine S_op (W_alloc hS ?_)); intro w cb hG' ch c; replace ch := Nat.le_trans hG.below.size (Nat.le_of_eq ch); replace hG := hG.trans hG'; replace hS := hG'.sub; clear hG'
          skip
          (refine S_op0 (W_storeM (o := 0) (vs := [.string (ent x.ents i).key, .string (ent x.ents i).val]) (by rfl) (by rfl) c (by rfl) (OneCells.of_all (by rfl)) (by rfl) (Nat.le_of_ble_eq_true (by rfl)) ?_)); intro w hgb' hm'; replace hG := hG.grownBy hgb' (fun g h => by cases h; exact ⟨c.out, ch⟩); replace hS := hG.sub; replace c : Mut _ w cb ([.string (ent x.ents i).key, .string (ent x.ents i).val]) := hm'; clear hm'; clear hgb'
          (refine S_nil ?_; refine CW_seq ?_; refine CW_region rfl ?_; refine S_op ?_; refine W_field (by first | rfl | assumption) ?_; refine S_op ?_; refine W_loadM (by first | rfl | assumption) (by assumption) (by rfl) ?_; refine S_op ?_; refine W_moveStr (by first | rfl | assumption) ?_; refine S_op ?_; refine W_sgeqB (by first | rfl | assumption) (by first | rfl | assumption) (by assumption) ?_; refine S_op ?_; refine W_moveBool (by first | rfl | assumption) ?_; refine S_want (by rfl) ?_; refine W_move rfl ?_; refine S_want (by rfl) ?_; refine W_field (by first | rfl | assumption) ?_; refine S_want (by rfl) ?_; refine W_loadM (by first | rfl | assumption) (by assumption) (by rfl) ?_; refine S_want (by rfl) ?_; refine W_field (by first | rfl | assumption) ?_; refine S_want (by rfl) ?_; refine W_loadM (by first | rfl | assumption) (by assumption) (by rfl) ?_)
          refine S_want (by rfl) ?_
          have hI1 := hI.step hJ hG
          refine W_callVal (by rfl) (by rfl) ((hy.at (x := ent x.ents i) (r := fromL key (x.ents.drop (i + 1)) ++ rest) (by rw [hxs, hsp]; simp) (Its.start hS hI1.has)).mono ?_)
          clear hI hG hS c
          rintro v w (⟨rfl, X, H3, hI⟩ | ⟨rfl, X, H3, p, r, he, hI⟩)
          · (refine S_want (by rfl) ?_; refine W_not (by first | rfl | assumption) ?_; refine S_op ?_; refine W_pickT (by first | rfl | assumption) (by first | rfl | assumption) ?_; refine S_nil ?_; refine CW_false (by first | rfl | assumption) ?_; refine CW_skip ?_; refine CW_region rfl ?_; refine S_op ?_; refine W_add1 (by first | rfl | assumption) (by omega) ?_; refine S_op ?_; refine W_moveInt (by first | rfl | assumption) ?_; refine S_nil ?_)
            exact ⟨(by repeat (first | exact AgreeOff.over | refine AgreeOff.upd rfl ?_ | refine AgreeOff.over2 rfl ?_)), m - 1, by omega, i + 1, _, H3, rfl, by omega, by omega, hle.trans hI.le, by rw [hft]; simpa using hI1.trans hI⟩
          · (refine S_want (by rfl) ?_; refine W_not (by first | rfl | assumption) ?_; refine S_op ?_; refine W_pickT (by first | rfl | assumption) (by first | rfl | assumption) ?_; refine S_nil ?_; refine CW_true (by first | rfl | assumption) ?_; refine CW_seq ?_; refine CW_region rfl ?_; refine S_op ?_; refine W_assignBool (by first | rfl | assumption) ?_; refine S_nil ?_; refine CW_ret ?_)
            exact ⟨_, ResW_one (v := .bool _) rfl, .inr ⟨rfl, X, H3, p, r, he, hI1.trans hI⟩⟩
      · have hin : i = x.ents.length := by omega
        subst hin
        rw [List.take_length] at hI
        (refine CW_seq ?_; refine CW_region rfl ?_; refine S_op ?_; refine W_lssF (by first | rfl | assumption) (by first | rfl | assumption) (by first | omega | rfl) ?_; refine S_nil ?_; refine CW_seq ?_; refine CW_false (by first | rfl | assumption) ?_; refine CW_exit ?_; refine CW_seq ?_; refine CW_seq ?_; refine CW_region rfl ?_; refine S_op ?_; refine W_movePtr (by first | rfl | assumption) ?_)
        (refine S_op ?_; refine W_call hS (by rfl) (kids_leaf hx) ?_); rintro v H w hG' rfl; replace hG := hG.trans hG'; replace hS := hG'.sub; clear hG'
        (refine S_op ?_; refine W_len (by first | rfl | assumption) ?_; refine S_op ?_; refine W_moveInt (by first | rfl | assumption) ?_; refine S_nil ?_; refine CW_block ?_)
        refine CW_loopM [6, 12, 49, 50, 51, 52, 53, 54, 55, 56, 57, 58] (fun m u w2 => u 49 = .int .i64 0 ∧ w2 = w) (m := 0) ⟨rfl, rfl⟩ ?_
        rintro m u w2 ⟨h49, rfl⟩
        (refine CW_seq ?_; refine CW_region rfl ?_; refine S_op ?_; refine W_lssF (by first | rfl | assumption) (by first | rfl | assumption) (by first | omega | rfl) ?_; refine S_nil ?_; refine CW_seq ?_; refine CW_false (by first | rfl | assumption) ?_; refine CW_exit ?_; refine CW_seq ?_; refine CW_region rfl ?_; refine S_op ?_; refine W_assignBool (by first | rfl | assumption) ?_; refine S_nil ?_; refine CW_ret ?_)
        exact ⟨_, ResW_one (v := .bool _) rfl, .inl ⟨rfl, _, H, hI.step hJ hG⟩⟩
  | succ h ih =>
    intro H0 w0 x X0 pre rest hx hS hxs hj
    have hxs : xs = pre ++ fromL key (x.kids.flatMap (Nd.items h)) ++ rest := hxs
    have goal : ∀ v w', Went xs J Jx X0 H0 w0 (pre ++ fromL key (x.kids.flatMap (Nd.items h))) v w' → Went xs J Jx X0 H0 w0 (pre ++ fromL key (Nd.items (h + 1) x)) v w' := fun _ _ h => h
    refine CallW_of_CW Try.func48 rfl Try.ntmps48 Try.results48 rfl ?_
    have hG := Grow.refl hS
    have hI := Its.start hS hj
    (refine CW_seq ?_; refine CW_region rfl ?_; refine S_op ?_; refine W_assignBool (by first | rfl | assumption) ?_; refine S_nil ?_; refine CW_seq ?_; refine CW_seq ?_; refine CW_region rfl ?_; refine S_op ?_; refine W_movePtr (by first | rfl | assumption) ?_)
    (refine S_op ?_; refine W_call hS (by rfl) (ends_c hx) ?_); rintro v H w hG' rfl; replace hG := hG.trans hG'; replace hS := hG'.sub; replace hx := hx.mono hG'.le; clear hG'
    cases hk : slt x.hi key with
    | true =>
      (refine S_op ?_; refine W_moveTup (by first | rfl | assumption) ?_; refine S_op ?_; refine W_extract (by first | rfl | assumption) (by rfl) ?_; refine S_op ?_; refine W_extract (by first | rfl | assumption) (by rfl) ?_; refine S_op ?_; refine W_assignStr (by first | rfl | assumption) ?_; refine S_op ?_; refine W_assignStr (by first | rfl | assumption) ?_; refine S_nil ?_; refine CW_seq ?_; refine CW_region rfl ?_; refine S_op ?_; refine W_movePtr (by first | rfl | assumption) ?_; refine S_op ?_; refine W_peqnil (by first | rfl | assumption) (by first | rfl | assumption) ?_; refine S_op ?_; refine W_moveBool (by first | rfl | assumption) ?_; refine S_want (by rfl) ?_; refine W_moveStr (by first | rfl | assumption) ?_; refine S_want (by rfl) ?_; refine W_moveStr (by first | rfl | assumption) ?_; refine S_want (by rfl) ?_; refine W_slssB (by first | rfl | assumption) (by first | rfl | assumption) (by assumption) ?_; refine S_op ?_; refine W_pickF (by first | rfl | assumption) (by first | rfl | assumption) ?_; refine S_nil ?_; refine CW_true (by first | rfl | assumption) ?_; refine CW_seq ?_; refine CW_region rfl ?_; refine S_op ?_; refine W_assignBool (by first | rfl | assumption) ?_; refine S_nil ?_; refine CW_ret ?_)
      have hI1 := hI.step hJ hG
      rw [fromL_nil_of (fun e he => slt_of_le_of_lt (Nd.le_hi hx.ok he) hk), List.append_nil]
      exact ⟨_, ResW_one (v := .bool _) rfl, .inl ⟨rfl, _, H, hI1⟩⟩
    | false =>
      (refine S_op ?_; refine W_moveTup (by first | rfl | assumption) ?_; refine S_op ?_; refine W_extract (by first | rfl | assumption) (by rfl) ?_; refine S_op ?_; refine W_extract (by first | rfl | assumption) (by rfl) ?_; refine S_op ?_; refine W_assignStr (by first | rfl | assumption) ?_; refine S_op ?_; refine W_assignStr (by first | rfl | assumption) ?_; refine S_nil ?_; refine CW_seq ?_; refine CW_region rfl ?_; refine S_op ?_; refine W_movePtr (by first | rfl | assumption) ?_; refine S_op ?_; refine W_peqnil (by first | rfl | assumption) (by first | rfl | assumption) ?_; refine S_op ?_; refine W_moveBool (by first | rfl | assumption) ?_; refine S_want (by rfl) ?_; refine W_moveStr (by first | rfl | assumption) ?_; refine S_want (by rfl) ?_; refine W_moveStr (by first | rfl | assumption) ?_; refine S_want (by rfl) ?_; refine W_slssB (by first | rfl | assumption) (by first | rfl | assumption) (by assumption) ?_; refine S_op ?_; refine W_pickF (by first | rfl | assumption) (by first | rfl | assumption) ?_; refine S_nil ?_; refine CW_false (by first | rfl | assumption) ?_; refine CW_skip ?_; refine CW_seq ?_; refine CW_seq ?_; refine CW_region rfl ?_; refine S_op ?_; refine W_movePtr (by first | rfl | assumption) ?_)
      (refine S_op ?_; refine W_call hS (by rfl) (entries_branch hx) ?_); rintro v H w hG' rfl; replace hG := hG.trans hG'; replace hS := hG'.sub; replace hx := hx.mono hG'.le; clear hG'
      (refine S_op ?_; refine W_len (by first | rfl | assumption) ?_; refine S_op ?_; refine W_moveInt (by first | rfl | assumption) ?_; refine S_nil ?_; refine CW_block ?_)
      refine CW_loopM [6, 10, 28, 29, 30, 31, 32, 33, 34, 35, 36, 37, 38, 39, 40, 41, 42, 43, 44, 45] (fun m u w2 => u 28 = .int .i64 0 ∧ w2 = w) (m := 0) ⟨rfl, rfl⟩ ?_
      rintro m u w2 ⟨h28, rfl⟩
      (refine CW_seq ?_; refine CW_region rfl ?_; refine S_op ?_; refine W_lssF (by first | rfl | assumption) (by first | rfl | assumption) (by first | omega | rfl) ?_; refine S_nil ?_; refine CW_seq ?_; refine CW_false (by first | rfl | assumption) ?_; refine CW_exit ?_; refine CW_seq ?_; refine CW_seq ?_; refine CW_region rfl ?_; refine S_op ?_; refine W_movePtr (by first | rfl | assumption) ?_)
      (refine S_op ?_; refine W_call hS (by rfl) (kids_c hx) ?_); rintro v H w hG' hv; replace hG := hG.trans hG'; replace hS := hG'.sub; replace hx := hx.mono hG'.le; clear hG'
      obtain ⟨B, d, rfl, hd, hsl, _⟩ := hv
      have hks := hx.kids
      have hxl := hx.ok.2.1
      (refine S_op ?_; refine W_len (by first | rfl | assumption) ?_; refine S_op ?_; refine W_moveInt (by first | rfl | assumption) ?_; refine S_nil ?_; refine CW_block ?_)
      refine CW_loopM [6, 12, 49, 50, 51, 52, 53, 54, 55, 56, 57, 58] (fun m u w2 => ∃ (i : Nat) (X : Nat → Prop) (H2 : HF), u 49 = .int .i64 (i : Int) ∧ i ≤ x.kids.length ∧ x.kids.length - i ≤ m ∧ HLe H H2 ∧ Its J X0 H0 w0 X (pre ++ fromL key ((x.kids.take i).flatMap (Nd.items h))) H2 w2)
        (m := x.kids.length) ⟨0, _, H, rfl, by omega, by omega, HLe.refl _, by simpa [fromL] using hI.step hJ hG⟩ ?_
      clear hI hG hS hj
      rintro m u w2 ⟨i, X, H2, h49, hi, hm, hle, hI⟩
      have hS := hI.sub
      have hG := Grow.refl hS
      replace hsl := hsl.mono hle
      replace hks := hks.mono hle
      by_cases hlt : i < x.kids.length
      · obtain ⟨bb, off, hA, hrow⟩ := slAt_some hsl hlt
        have hget := ptr_get hlt
        have hxi := hks x.kids[i] (List.getElem_mem _)
        have hft := flat_take hlt
        have hsp : x.kids.flatMap (Nd.items h) = (x.kids.take i).flatMap (Nd.items h) ++ (Nd.items h x.kids[i] ++ (x.kids.drop (i + 1)).flatMap (Nd.items h)) := by
          have e : x.kids = x.kids.take i ++ x.kids[i] :: x.kids.drop (i + 1) := by rw [← List.drop_eq_getElem_cons hlt, List.take_append_drop]
          exact (congrArg (List.flatMap (Nd.items h)) e).trans (by rw [List.flatMap_append, List.flatMap_cons])
        (refine CW_seq ?_; refine CW_region rfl ?_; refine S_op ?_; refine W_lssT (by first | rfl | assumption) (by first | rfl | assumption) (by first | omega | rfl) ?_; refine S_nil ?_; refine CW_seq ?_; refine CW_true (by first | rfl | assumption) ?_; refine CW_skip ?_; refine CW_seq ?_; refine CW_block ?_; refine CW_seq ?_; refine CW_region rfl ?_; refine S_op ?_; refine W_index (by first | rfl | assumption) (by first | rfl | assumption) (by first | assumption | omega | decide) (by first | rfl | assumption) ?_)
        refine S_op (W_loadRow (by rfl) hrow hget hS ?_)
        (refine S_op ?_; refine W_assignPtr (by first | rfl | assumption) ?_; refine S_nil ?_; refine CW_seq ?_; refine CW_region rfl ?_; refine S_op ?_; refine W_movePtr (by first | rfl | assumption) ?_; refine S_op ?_; refine W_moveStr (by first | rfl | assumption) ?_; refine S_op ?_; refine W_move rfl ?_)
        have hI1 := hI.step hJ hG
        refine S_op ?_
        refine W_callW (vs := [x.kids[i].ptr, .string key, y]) (by rfl) ((ih H2 _ x.kids[i] _ (pre ++ fromL key ((x.kids.take i).flatMap (Nd.items h))) (fromL key ((x.kids.drop (i + 1)).flatMap (Nd.items h)) ++ rest) hxi hS (by rw [hxs, hsp]; simp [fromL_append]) hI1.has).mono ?_)
        clear hI hG hS
        rintro v w (⟨rfl, X, H3, hI⟩ | ⟨rfl, X, H3, p, r, he, hI⟩)
        · (refine S_op ?_; refine W_not (by first | rfl | assumption) ?_; refine S_nil ?_; refine CW_false (by first | rfl | assumption) ?_; refine CW_skip ?_; refine CW_region rfl ?_; refine S_op ?_; refine W_add1 (by first | rfl | assumption) (by omega) ?_; refine S_op ?_; refine W_moveInt (by first | rfl | assumption) ?_; refine S_nil ?_)
          exact ⟨(by repeat (first | exact AgreeOff.over | refine AgreeOff.upd rfl ?_ | refine AgreeOff.over2 rfl ?_)), m - 1, by omega, i + 1, _, H3, rfl, by omega, by omega, hle.trans hI.le, by rw [hft, fromL_append]; simpa using hI1.trans hI⟩
        · (refine S_op ?_; refine W_not (by first | rfl | assumption) ?_; refine S_nil ?_; refine CW_true (by first | rfl | assumption) ?_; refine CW_seq ?_; refine CW_region rfl ?_; refine S_op ?_; refine W_assignBool (by first | rfl | assumption) ?_; refine S_nil ?_; refine CW_ret ?_)
          exact ⟨_, ResW_one (v := .bool _) rfl, .inr ⟨rfl, X, H3, p, r, he, hI1.trans hI⟩⟩
      · have hin : i = x.kids.length := by omega
        subst hin
        rw [List.take_length] at hI
        (refine CW_seq ?_; refine CW_region rfl ?_; refine S_op ?_; refine W_lssF (by first | rfl | assumption) (by first | rfl | assumption) (by first | omega | rfl) ?_; refine S_nil ?_; refine CW_seq ?_; refine CW_false (by first | rfl | assumption) ?_; refine CW_exit ?_; refine CW_seq ?_; refine CW_region rfl ?_; refine S_op ?_; refine W_assignBool (by first | rfl | assumption) ?_; refine S_nil ?_; refine CW_ret ?_)
        exact ⟨_, ResW_one (v := .bool _) rfl, goal _ _ (.inl ⟨rfl, _, H2, hI.step hJ hG⟩)⟩
end
end Go.Proofs.Ytgaabmoknpifnaa
/- The iterators of package walk, walked. Conditions: none but the tree's. -/
namespace Go.Proofs.Ytgaabmoknpifnaa
open Go.Proofs Go.RowKit
set_option linter.unusedVariables false
attribute [local irreducible] CW CWD SeqW OpW CallV
set_option maxHeartbeats 4000000
theorem slt_nil (a : ByteArray) : slt a ⟨#[]⟩ = false := by simp [slt, Op.bytesLess]
theorem Tr.val_cells (t : Tr) : t.val.cells = #[t.val] := by cases t <;> rfl
section
variable {xs : List Ent} {y : Value} {J Jx : Inv Ent} {key : ByteArray}
theorem up_t (hJ : Stable J) (hy : Yields Try.prog y encP xs J Jx) {H0 : HF} {w0 : World} {t : Tr} {X0 : Nat → Prop} {pre rest : List Ent} (ht : Tr.At H0 t) (hS : Sub H0 w0) (hxs : xs = pre ++ fromL key t.items ++ rest) (hj : J X0 pre H0 w0) :
    CallW Try.prog 48 [t.val, .string key, y].toArray w0 (Went xs J Jx X0 H0 w0 (pre ++ fromL key t.items)) := by
  cases t with
  | none =>
    rw [show pre ++ fromL key (Tr.items none) = pre by simp [Tr.items, fromL]]
    exact up_nil hJ hS hj
  | some x => exact up_c hJ hy x.1 H0 w0 x.2 X0 pre rest ht hS hxs hj
end
theorem from1_it {H : HF} {w : World} {t : Tr} {key : ByteArray} {a b : Nat} {T U : TypeId} (ht : Tr.At H t) (ha : H a = some (.cells #[t.val] T (0, 0))) (hb : H b = some (.cells #[.string key] U (0, 0))) :
    IterAt Try.prog 47 [.pointer (some ⟨a, 0, none⟩), .pointer (some ⟨b, 0, none⟩)] encP (fromL key t.items) (fun _ => False) H w := by
  intro y J Jx X hyc _ hXb hJ hJx hy hS hj
  refine CallW_of_CW Try.func47 rfl Try.ntmps47 Try.results47 rfl ?_
  have hG := Grow.refl hS
  (refine CW_region rfl ?_; refine S_op ?_; refine W_loadHL (by first | rfl | assumption) (by assumption) (by rfl) (by assumption) ?_; refine S_op ?_; refine W_loadHL (by first | rfl | assumption) (by assumption) (by rfl) (by assumption) ?_; refine S_op ?_; refine W_move rfl ?_)
  refine S_op ?_
  refine W_callW (vs := [t.val, .string key, y]) (by rfl) ((up_t hJ hy (rest := []) ht hS (by simp) hj).mono ?_)
  rintro v w' hw
  (refine S_nil ?_)
  exact ⟨_, ResW_zero, Went.end hw⟩
theorem from_c (H : HF) (t : Tr) (key : ByteArray) (ht : Tr.At H t) : Fn Try.prog 21 [t.val, .string key] H fun v H' => IterV Try.prog encP (fromL key t.items) v H' := by
  have hc := Tr.val_cells t
  refine Fn_of_CW Try.func21 rfl Try.ntmps21 Try.results21 rfl fun w hS => ?_; have hG := Grow.refl hS; have hS0 := hS
  (refine CW_seq ?_; refine CW_region rfl ?_)
  (refine S_op (W_box1 hS (by rfl) (by first | rfl | assumption) ?_)); intro H w _ hG' h2; replace hG := hG.trans hG'; replace hS := hG'.sub; replace ht := ht.mono hG'.le; clear hG'
  skip
  (refine S_op (W_box1 hS (by rfl) (by first | rfl | assumption) ?_)); intro H w _ hG' h3; replace hG := hG.trans hG'; replace hS := hG'.sub; replace ht := ht.mono hG'.le; replace h2 := hG'.le _ _ h2; clear hG'
  (refine S_op ?_; refine W_assign rfl ?_; refine S_nil ?_; refine CW_seq ?_; refine CW_region rfl ?_)
  refine S_op (W_makeFunc rfl rfl ?_)
  (refine S_op ?_; refine W_assignFun (by first | rfl | assumption) ?_; refine S_nil ?_; refine CW_ret ?_)
  exact ⟨_, ResW_one (v := .func _ _ _) rfl, H, hG, _, _, inferInstance, rfl, fun H1 w1 hle => from1_it (ht.mono hle) (hle _ _ h2) (hle _ _ h3)⟩
theorem all_c (H : HF) (t : Tr) (ht : Tr.At H t) : Fn Try.prog 26 [t.val] H fun v H' => IterV Try.prog encP t.items v H' := by
  have e : fromL ⟨#[]⟩ t.items = t.items := by
    simp only [fromL, List.filter_eq_self]
    intro x _
    simp [slt, Op.bytesLess]
  refine Fn_of_CW Try.func26 rfl Try.ntmps26 Try.results26 rfl fun w hS => ?_; have hG := Grow.refl hS; have hS0 := hS
  (refine CW_seq ?_; refine CW_region rfl ?_; refine S_op ?_; refine W_assign rfl ?_; refine S_nil ?_; refine CW_seq ?_; refine CW_region rfl ?_; refine S_op ?_; refine W_movePtr (by first | rfl | assumption) ?_)
  (refine S_op ?_; refine W_call hS (by rfl) (from_c H t ⟨#[]⟩ ht) ?_); rintro v H w hG' hv; replace hG := hG.trans hG'; replace hS := hG'.sub; replace ht := ht.mono hG'.le; clear hG'
  rw [e] at hv
  obtain ⟨gf, lb, h1, rfl, h3⟩ := hv
  (refine S_op ?_; refine W_assignFun (by first | rfl | assumption) ?_; refine S_nil ?_; refine CW_ret ?_)
  exact ⟨_, ResW_one (v := .func _ _ _) rfl, H, hG, gf, lb, h1, rfl, h3⟩
def enc1 (e : Ent) : List Value := [.agg #[.string e.key, .string e.val]]
theorem entries1_it {H : HF} {w : World} {t : Tr} {key : ByteArray} {a b : Nat} {T U : TypeId} (ht : Tr.At H t) (ha : H a = some (.cells #[t.val] T (0, 0))) (hb : H b = some (.cells #[.string key] U (0, 0))) :
    IterAt Try.prog 63 [.pointer (some ⟨a, 0, none⟩), .pointer (some ⟨b, 0, none⟩)] enc1 (fromL key t.items) (fun _ => False) H w := by
  intro y J Jx X0 hyc _ hX0 hJ hJx hy hS hj
  obtain ⟨H0, rfl⟩ : ∃ H0, H0 = H := ⟨_, rfl⟩
  obtain ⟨w0, rfl⟩ : ∃ w0, w0 = w := ⟨_, rfl⟩
  refine CallW_of_CWD Try.func63 rfl Try.ntmps63 Try.results63 rfl ?_
  have hG := Grow.refl hS
  have hI0 := Its.start hS hj
  have hc := Tr.val_cells t
  (refine CWD_seq ?_; refine CWD_region rfl ?_)
  (refine S_op (W_box1 hS (by rfl) (by first | rfl | assumption) ?_)); intro H w _ hG' h3; replace hG := hG.trans hG'; replace hS := hG'.sub; replace ht := ht.mono hG'.le; replace ha := hG'.le _ _ ha; replace hb := hG'.le _ _ hb; clear hG'
  (refine S_nil ?_; refine CWD_seq ?_; refine CWD_region rfl ?_; refine S_op ?_; refine W_loadHL (by first | rfl | assumption) (by assumption) (by rfl) (by assumption) ?_; refine S_op ?_; refine W_loadHL (by first | rfl | assumption) (by assumption) (by rfl) (by assumption) ?_)
  (refine S_op ?_; refine W_call hS (by rfl) (from_c _ t key ht) ?_); rintro v H w hG' hv; replace hG := hG.trans hG'; replace hS := hG'.sub; replace ht := ht.mono hG'.le; replace h3 := hG'.le _ _ h3; clear hG'
  obtain ⟨gf, lb, hfc, rfl, hit⟩ := hv
  (refine S_nil ?_; refine CWD_block ?_)
  have hI := hI0.step hJ hG
  refine CWD_range (S := fun _ => False) (Inn J X0 H0 w0 [] id (fun _ H2 _ => HLe H H2)) (retI (InnX (fromL key t.items) Jx X0 H0 w0 [] (fun _ _ => True)))
    (Inn.good hJ hX0 fun _ _ _ _ _ _ _ hT h => h.trans hT.le) (retI.stable (InnX.stable hJx hX0 fun _ _ _ _ _ _ _ _ h => h)) ⟨_, hI, fun _ h => h.elim, fun _ h => by (simp at h), HLe.refl _⟩
    rfl hS (fun _ => rfl) (by decide) (fun w1 _ => hit H w1 (HLe.refl _)) (fun _ h => h.elim) ?_ ?_ ?_ ?_
  · intro l x W
    (refine CW_seq ?_; refine CW_region rfl ?_; refine S_op ?_; refine W_assignStr (by first | rfl | assumption) ?_; refine S_nil ?_; refine CW_region rfl ?_; refine S_op ?_; refine W_assignStr (by first | rfl | assumption) ?_; refine S_nil ?_)
    refine ⟨rfl, ?_⟩
    intro l X pre rest H W hx hS hi _
    obtain ⟨X1, hI, hXi, hbs, hle⟩ := hi
    replace h3 := hle _ _ h3
    have hL := Its.start hS hI.has
    have hG := Grow.refl hS
    (refine CW_block ?_; refine CW_seq ?_; refine CW_region rfl ?_; refine S_op ?_; refine W_loadHL (by first | rfl | assumption) (by assumption) (by rfl) (by assumption) ?_; refine S_op ?_; refine W_moveStr (by first | rfl | assumption) ?_; refine S_op ?_; refine W_moveStr (by first | rfl | assumption) ?_; refine S_op ?_; refine W_build (by rfl) ?_)
    have hL1 := hL.step hJ hG
    refine S_op ?_
    refine W_callVal (by rfl) (by rfl) ((hy.at (x := x) (r := rest) hx (Its.start hS hL1.has)).mono ?_)
    rintro v w' (⟨rfl, X2, H3, hK⟩ | ⟨rfl, X2, H3, p, r, he, hK⟩)
    · (refine S_op ?_; refine W_not (by first | rfl | assumption) ?_; refine S_nil ?_; refine CW_false (by first | rfl | assumption) ?_; refine CW_skip ?_)
      exact Inn.next (g := id) hI hXi hbs (hL1.trans hK) (hle.trans (hL1.trans hK).le)
    · (refine S_op ?_; refine W_not (by first | rfl | assumption) ?_; refine S_nil ?_; refine CW_true (by first | rfl | assumption) ?_; refine CW_ret ?_)
      exact Inn.stop (φx := fun _ _ => True) (pre' := pre ++ [x]) hI hXi hbs he (hL1.trans hK) trivial
  · rintro D X H' W' hD hM hS' hle hXs hXD ⟨X1, hI, hXi, _, _⟩
    skip
    refine FinD_one hM hS' fun w' hT => ?_
    exact ⟨_, ResW_zero, Went.end (v := .bool true) (.inl ⟨rfl, _, _, hI.closed hX0 hJ (hXi D hXD).1 (hXi D hXD).2 hT⟩)⟩
  · rintro D X H' W' pre rest hx hD hM hS' hle hXs hXD ⟨X1, p, r, he, hI, hXi, _, _⟩
    skip
    refine FinD_one hM hS' fun w' hT => ?_
    exact ⟨_, ResW_zero, Went.end (v := .bool false) (.inr ⟨rfl, _, _, p, r, he, hI.closed hX0 hJx (hXi D hXD).1 (hXi D hXD).2 hT⟩)⟩
  · exact fun _ _ _ _ _ _ _ _ _ _ _ _ _ _ h => False.elim h
theorem entriesI_c (H : HF) (t : Tr) (key : ByteArray) (ht : Tr.At H t) : Fn Try.prog 46 [t.val, .string key] H fun v H' => IterV Try.prog enc1 (fromL key t.items) v H' := by
  have hc := Tr.val_cells t
  refine Fn_of_CW Try.func46 rfl Try.ntmps46 Try.results46 rfl fun w hS => ?_; have hG := Grow.refl hS; have hS0 := hS
  (refine CW_seq ?_; refine CW_region rfl ?_)
  (refine S_op (W_box1 hS (by rfl) (by first | rfl | assumption) ?_)); intro H w _ hG' h2; replace hG := hG.trans hG'; replace hS := hG'.sub; replace ht := ht.mono hG'.le; clear hG'
  skip
  (refine S_op (W_box1 hS (by rfl) (by first | rfl | assumption) ?_)); intro H w _ hG' h3; replace hG := hG.trans hG'; replace hS := hG'.sub; replace ht := ht.mono hG'.le; replace h2 := hG'.le _ _ h2; clear hG'
  (refine S_op ?_; refine W_assign rfl ?_; refine S_nil ?_; refine CW_seq ?_; refine CW_region rfl ?_)
  refine S_op (W_makeFunc rfl rfl ?_)
  (refine S_op ?_; refine W_assignFun (by first | rfl | assumption) ?_; refine S_nil ?_; refine CW_ret ?_)
  exact ⟨_, ResW_one (v := .func _ _ _) rfl, H, hG, _, _, inferInstance, rfl, fun H1 w1 hle => entries1_it (ht.mono hle) (hle _ _ h2) (hle _ _ h3)⟩
end Go.Proofs.Ytgaabmoknpifnaa
/- slices.Backward, walked. Conditions: sizes. -/
namespace Go.Proofs.Ytgaabmoknpifnaa
open Go.Proofs Go.RowKit
set_option linter.unusedVariables false
attribute [local irreducible] CW CWD SeqW OpW CallV
set_option maxHeartbeats 4000000
/-- The numbers below n, from above. -/
def downN (n : Nat) : List Nat := (List.range n).reverse
def downTo (n i : Nat) : List Nat := ((List.range n).drop i).reverse
theorem downTo_step {n i : Nat} (h : i < n) : downTo n i = downTo n (i + 1) ++ [i] := by
  unfold downTo
  rw [List.drop_eq_getElem_cons (by simpa using h)]
  simp
theorem downTo_top (n : Nat) : downTo n n = [] := by simp [downTo]
theorem downTo_zero (n : Nat) : downTo n 0 = downN n := rfl
theorem downN_split {n i : Nat} (h : i < n) : downN n = downTo n (i + 1) ++ i :: downN i := by
  have e : List.range n = List.range i ++ i :: (List.range n).drop (i + 1) := by
    have h1 := List.take_append_drop i (List.range n)
    rw [List.drop_eq_getElem_cons (by simpa using h), List.take_range] at h1
    rw [Nat.min_eq_left (by omega)] at h1
    simpa using h1.symm
  unfold downN downTo
  conv => lhs; rw [e]
  simp
def encBE (l : List Ent) (i : Nat) : List Value := [.int .i64 (i : Int), .agg #[.string (ent l i).key, .string (ent l i).val]]
def encBV (vs : List Value) (i : Nat) : List Value := [.int .i64 (i : Int), vs.getD i (.pointer none)]
theorem back1E_it {H : HF} {w : World} {l : List Ent} {A : Option Addr} {n c a : Nat} {T : TypeId} (hn : n = l.length) (hb : n ≤ 1000000) (hl : EntsAt H A l) (ha : H a = some (.cells #[.slice A n c] T (0, 0))) :
    IterAt Try.prog 85 [.pointer (some ⟨a, 0, none⟩)] (encBE l) (downN n) (fun _ => False) H w := by
  skip
  intro y J Jx X0 hyc _ hX0 hJ hJx hy hS hj
  obtain ⟨H0, rfl⟩ : ∃ H0, H0 = H := ⟨_, rfl⟩
  obtain ⟨w0, rfl⟩ : ∃ w0, w0 = w := ⟨_, rfl⟩
  refine CallW_of_CW Try.func85 rfl Try.ntmps85 Try.results85 rfl ?_
  have hG := Grow.refl hS
  have hI := Its.start hS hj
  (refine CW_seq ?_; refine CW_region rfl ?_; refine S_op ?_; refine W_loadHL (by first | rfl | assumption) (by assumption) (by rfl) (by assumption) ?_; refine S_op ?_; refine W_len (by first | rfl | assumption) ?_)
  refine S_op (W_sub (q := (n : Int) - 1) (by rfl) (by rfl) (IntWalk.i64_in _ (by omega)) ?_)
  (refine S_op ?_; refine W_assignInt (by first | rfl | assumption) ?_; refine S_nil ?_; refine CW_block ?_)
  refine CW_loopM [3, 7, 8, 9, 10, 11, 12, 13, 14, 15, 16, 17, 18] (fun m u w2 => ∃ (i : Nat) (X : Nat → Prop) (H2 : HF), u 3 = .int .i64 ((i : Int) - 1) ∧ i ≤ n ∧ i ≤ m ∧ HLe H0 H2 ∧ Its J X0 H0 w0 X (downTo n i) H2 w2)
    (m := n) ⟨n, X0, H0, rfl, Nat.le_refl _, Nat.le_refl _, HLe.refl _, by rw [downTo_top]; exact hI⟩ ?_
  clear hI hG hS hj
  rintro m u w ⟨i, X, H, h3, hi, hm, hle, hI⟩
  have hS := hI.sub
  have hG := Grow.refl hS
  replace ha := hle _ _ ha
  replace hl := hl.mono hle
  cases i with
  | zero =>
    replace h3 : u 3 = .int .i64 (-1) := h3
    (refine CW_seq ?_; refine CW_seq ?_; refine CW_region rfl ?_; refine S_op ?_; refine W_moveInt (by first | rfl | assumption) ?_; refine S_op ?_; refine W_geqF (by first | rfl | assumption) (by first | rfl | assumption) (by first | omega | rfl) ?_; refine S_nil ?_; refine CW_false (by first | rfl | assumption) ?_; refine CW_exit ?_; refine xblk_hit ?_)
    exact ⟨_, ResW_zero, Went.end (v := .bool true) (.inl ⟨rfl, X, H, hI⟩)⟩
  | succ i =>
    replace h3 : u 3 = .int .i64 (i : Int) := by rw [h3]; congr 1; omega
    have hlt : i < n := by omega
    obtain ⟨bb, off, hA, hrow⟩ := hl.some (show i < l.length by omega)
    have hlt2 : i < l.length := by omega
    (refine CW_seq ?_; refine CW_seq ?_; refine CW_region rfl ?_; refine S_op ?_; refine W_moveInt (by first | rfl | assumption) ?_; refine S_op ?_; refine W_geqT (by first | rfl | assumption) (by first | rfl | assumption) (by first | omega | rfl) ?_; refine S_nil ?_; refine CW_true (by first | rfl | assumption) ?_; refine CW_skip ?_; refine CW_seq ?_; refine CW_block ?_; refine CW_seq ?_; refine CW_region rfl ?_; refine S_op ?_; refine W_move rfl ?_; refine S_op ?_; refine W_moveInt (by first | rfl | assumption) ?_; refine S_op ?_; refine W_loadHL (by first | rfl | assumption) (by assumption) (by rfl) (by assumption) ?_; refine S_op ?_; refine W_moveInt (by first | rfl | assumption) ?_; refine S_op ?_; refine W_index (by first | rfl | assumption) (by first | rfl | assumption) (by first | assumption | omega | decide) (by first | rfl | assumption) ?_; refine S_op ?_; refine W_loadEnt (by first | rfl | assumption) (by assumption) (by first | assumption | omega) (by assumption) ?_)
    skip
    refine S_op ?_
    refine W_callVal (by rfl) (by rfl) ((hy.at (x := i) (r := downN i) (downN_split hlt) (Its.start hS hI.has)).mono ?_)
    clear hG hS
    rintro v w (⟨rfl, X2, H3, hK⟩ | ⟨rfl, X2, H3, p, r, he, hK⟩)
    · (refine S_op ?_; refine W_not (by first | rfl | assumption) ?_; refine S_nil ?_; refine CW_false (by first | rfl | assumption) ?_; refine CW_skip ?_; refine CW_region rfl ?_; refine S_op ?_; refine W_moveInt (by first | rfl | assumption) ?_)
      refine S_op (W_sub (q := (i : Int) - 1) (by rfl) (by rfl) (IntWalk.i64_in _ (by omega)) ?_)
      (refine S_op ?_; refine W_assignInt (by first | rfl | assumption) ?_; refine S_nil ?_)
      exact ⟨(by repeat (first | exact AgreeOff.over | refine AgreeOff.upd rfl ?_ | refine AgreeOff.over2 rfl ?_)), m - 1, by omega, i, X2, H3, rfl, by omega, by omega, hle.trans hK.le, by rw [downTo_step hlt]; exact hI.trans hK⟩
    · (refine S_op ?_; refine W_not (by first | rfl | assumption) ?_; refine S_nil ?_; refine CW_true (by first | rfl | assumption) ?_; refine CW_ret ?_)
      exact ⟨_, ResW_zero, Went.end (v := .bool false) (.inr ⟨rfl, _, _, p, r, he, hI.trans hK⟩)⟩
theorem back1V_it {H : HF} {w : World} {vs : List Value} {A : Option Addr} {n c a : Nat} {T : TypeId} (hn : n = vs.length) (hb : n ≤ 1000000) (hl : SlAt H A vs) (ha : H a = some (.cells #[.slice A n c] T (0, 0))) :
    IterAt Try.prog 86 [.pointer (some ⟨a, 0, none⟩)] (encBV vs) (downN n) (fun _ => False) H w := by
  skip
  intro y J Jx X0 hyc _ hX0 hJ hJx hy hS hj
  obtain ⟨H0, rfl⟩ : ∃ H0, H0 = H := ⟨_, rfl⟩
  obtain ⟨w0, rfl⟩ : ∃ w0, w0 = w := ⟨_, rfl⟩
  refine CallW_of_CW Try.func86 rfl Try.ntmps86 Try.results86 rfl ?_
  have hG := Grow.refl hS
  have hI := Its.start hS hj
  (refine CW_seq ?_; refine CW_region rfl ?_; refine S_op ?_; refine W_loadHL (by first | rfl | assumption) (by assumption) (by rfl) (by assumption) ?_; refine S_op ?_; refine W_len (by first | rfl | assumption) ?_)
  refine S_op (W_sub (q := (n : Int) - 1) (by rfl) (by rfl) (IntWalk.i64_in _ (by omega)) ?_)
  (refine S_op ?_; refine W_assignInt (by first | rfl | assumption) ?_; refine S_nil ?_; refine CW_block ?_)
  refine CW_loopM [3, 7, 8, 9, 10, 11, 12, 13, 14, 15, 16, 17, 18] (fun m u w2 => ∃ (i : Nat) (X : Nat → Prop) (H2 : HF), u 3 = .int .i64 ((i : Int) - 1) ∧ i ≤ n ∧ i ≤ m ∧ HLe H0 H2 ∧ Its J X0 H0 w0 X (downTo n i) H2 w2)
    (m := n) ⟨n, X0, H0, rfl, Nat.le_refl _, Nat.le_refl _, HLe.refl _, by rw [downTo_top]; exact hI⟩ ?_
  clear hI hG hS hj
  rintro m u w ⟨i, X, H, h3, hi, hm, hle, hI⟩
  have hS := hI.sub
  have hG := Grow.refl hS
  replace ha := hle _ _ ha
  replace hl := hl.mono hle
  cases i with
  | zero =>
    replace h3 : u 3 = .int .i64 (-1) := h3
    (refine CW_seq ?_; refine CW_seq ?_; refine CW_region rfl ?_; refine S_op ?_; refine W_moveInt (by first | rfl | assumption) ?_; refine S_op ?_; refine W_geqF (by first | rfl | assumption) (by first | rfl | assumption) (by first | omega | rfl) ?_; refine S_nil ?_; refine CW_false (by first | rfl | assumption) ?_; refine CW_exit ?_; refine xblk_hit ?_)
    exact ⟨_, ResW_zero, Went.end (v := .bool true) (.inl ⟨rfl, X, H, hI⟩)⟩
  | succ i =>
    replace h3 : u 3 = .int .i64 (i : Int) := by rw [h3]; congr 1; omega
    have hlt : i < n := by omega
    have hlt2 : i < vs.length := by omega
    obtain ⟨bb, off, hA, hrow⟩ : ∃ b off, A = some ⟨b, off, none⟩ ∧ Row H b off vs := by
      rcases hl with h | h
      · subst h; simp at hlt2
      · exact h
    have hget : vs[i * 1]? = some (vs.getD i (.pointer none)) := by simp [hlt2]
    (refine CW_seq ?_; refine CW_seq ?_; refine CW_region rfl ?_; refine S_op ?_; refine W_moveInt (by first | rfl | assumption) ?_; refine S_op ?_; refine W_geqT (by first | rfl | assumption) (by first | rfl | assumption) (by first | omega | rfl) ?_; refine S_nil ?_; refine CW_true (by first | rfl | assumption) ?_; refine CW_skip ?_; refine CW_seq ?_; refine CW_block ?_; refine CW_seq ?_; refine CW_region rfl ?_; refine S_op ?_; refine W_move rfl ?_; refine S_op ?_; refine W_moveInt (by first | rfl | assumption) ?_; refine S_op ?_; refine W_loadHL (by first | rfl | assumption) (by assumption) (by rfl) (by assumption) ?_; refine S_op ?_; refine W_moveInt (by first | rfl | assumption) ?_; refine S_op ?_; refine W_index (by first | rfl | assumption) (by first | rfl | assumption) (by first | assumption | omega | decide) (by first | rfl | assumption) ?_)
    refine S_op (W_loadRow (by rfl) hrow hget hS ?_)
    skip
    refine S_op ?_
    refine W_callVal (by rfl) (by rfl) ((hy.at (x := i) (r := downN i) (downN_split hlt) (Its.start hS hI.has)).mono ?_)
    clear hG hS
    rintro v w (⟨rfl, X2, H3, hK⟩ | ⟨rfl, X2, H3, p, r, he, hK⟩)
    · (refine S_op ?_; refine W_not (by first | rfl | assumption) ?_; refine S_nil ?_; refine CW_false (by first | rfl | assumption) ?_; refine CW_skip ?_; refine CW_region rfl ?_; refine S_op ?_; refine W_moveInt (by first | rfl | assumption) ?_)
      refine S_op (W_sub (q := (i : Int) - 1) (by rfl) (by rfl) (IntWalk.i64_in _ (by omega)) ?_)
      (refine S_op ?_; refine W_assignInt (by first | rfl | assumption) ?_; refine S_nil ?_)
      exact ⟨(by repeat (first | exact AgreeOff.over | refine AgreeOff.upd rfl ?_ | refine AgreeOff.over2 rfl ?_)), m - 1, by omega, i, X2, H3, rfl, by omega, by omega, hle.trans hK.le, by rw [downTo_step hlt]; exact hI.trans hK⟩
    · (refine S_op ?_; refine W_not (by first | rfl | assumption) ?_; refine S_nil ?_; refine CW_true (by first | rfl | assumption) ?_; refine CW_ret ?_)
      exact ⟨_, ResW_zero, Went.end (v := .bool false) (.inr ⟨rfl, _, _, p, r, he, hI.trans hK⟩)⟩
theorem backE_c (H : HF) (l : List Ent) (A : Option Addr) (c : Nat) (hb : l.length ≤ 1000000) (hl : EntsAt H A l) :
    Fn Try.prog 67 [.slice A l.length c] H fun v H' => IterV Try.prog (encBE l) (downN l.length) v H' := by
  refine Fn_of_CW Try.func67 rfl Try.ntmps67 Try.results67 rfl fun w hS => ?_; have hG := Grow.refl hS; have hS0 := hS
  (refine CW_seq ?_; refine CW_region rfl ?_)
  (refine S_op (W_box1 hS (by rfl) (by first | rfl | assumption) ?_)); intro H w _ hG' h1; replace hG := hG.trans hG'; replace hS := hG'.sub; replace hl := hl.mono hG'.le; clear hG'
  (refine S_op ?_; refine W_assign rfl ?_; refine S_nil ?_; refine CW_seq ?_; refine CW_region rfl ?_)
  refine S_op (W_makeFunc rfl rfl ?_)
  (refine S_op ?_; refine W_assignFun (by first | rfl | assumption) ?_; refine S_nil ?_; refine CW_ret ?_)
  exact ⟨_, ResW_one (v := .func _ _ _) rfl, H, hG, _, _, inferInstance, rfl, fun H1 w1 hle => back1E_it rfl hb (hl.mono hle) (hle _ _ h1)⟩
theorem backV_c (H : HF) (vs : List Value) (A : Option Addr) (n c : Nat) (hn : n = vs.length) (hb : n ≤ 1000000) (hl : SlAt H A vs) :
    Fn Try.prog 68 [.slice A n c] H fun v H' => IterV Try.prog (encBV vs) (downN n) v H' := by
  refine Fn_of_CW Try.func68 rfl Try.ntmps68 Try.results68 rfl fun w hS => ?_; have hG := Grow.refl hS; have hS0 := hS
  (refine CW_seq ?_; refine CW_region rfl ?_)
  (refine S_op (W_box1 hS (by rfl) (by first | rfl | assumption) ?_)); intro H w _ hG' h1; replace hG := hG.trans hG'; replace hS := hG'.sub; replace hl := hl.mono hG'.le; clear hG'
  (refine S_op ?_; refine W_assign rfl ?_; refine S_nil ?_; refine CW_seq ?_; refine CW_region rfl ?_)
  refine S_op (W_makeFunc rfl rfl ?_)
  (refine S_op ?_; refine W_assignFun (by first | rfl | assumption) ?_; refine S_nil ?_; refine CW_ret ?_)
  exact ⟨_, ResW_one (v := .func _ _ _) rfl, H, hG, _, _, inferInstance, rfl, fun H1 w1 hle => back1V_it hn hb (hl.mono hle) (hle _ _ h1)⟩
end Go.Proofs.Ytgaabmoknpifnaa
/- Results that lie in cells of the call's own; struct variables that are written once. Conditions: each law's own premises. -/
namespace Go.Proofs.Ytgaabmoknpifnaa
open Go.RowKit
set_option linter.unusedVariables false
/-- What a result variable yields. -/
def RV (P : Program) (f : Fr) (w : World) : ResultVar → Value → Prop
  | .tmp t, v => f t = v
  | .cell a T, v => ∃ b, f a = .pointer (some ⟨b, 0, none⟩) ∧ (loadVar T ⟨b, 0, none⟩).run P w = .ok v w
section
variable {P : Program} {f : Fr} {w : World} {H : HF}
theorem Rep.at' {n : Nat} {a : Act} (ha : Rep n a f) (t : Nat) : a.tmps[t]?.getD undef = f t := by
  have := ha.at_ t
  rwa [Array.getD_eq_getD_getElem?] at this
theorem RV_cell {s a b : Nat} {T : TypeId} {vs : List Value} [TyAgg P T] [TySize P T s] (hx : f a = .pointer (some ⟨b, 0, none⟩)) (hm : Mut H w b vs) (hl : vs.length = s) : RV P f w (.cell a T) (.agg vs.toArray) := by
  refine ⟨b, hx, ?_⟩
  have := run_loadCells_list (P := P) w ⟨b, 0, none⟩ vs (fun j v hj => by rw [add_lit']; exact Sub.mut_or hm (by simpa using hj))
  rw [hl] at this
  simp [loadVar, TyAgg.agg (P := P) (T := T), TySize.size (P := P) (T := T), this]
theorem RV_cellH {s a b : Nat} {T E : TypeId} {fr : Nat × Nat} {vs : List Value} [TyAgg P T] [TySize P T s] (hx : f a = .pointer (some ⟨b, 0, none⟩)) (hb : H b = some (.cells vs.toArray E fr)) (hS : Sub H w) (hl : vs.length = s) : RV P f w (.cell a T) (.agg vs.toArray) := by
  refine ⟨b, hx, ?_⟩
  have := run_loadCells_list (P := P) w ⟨b, 0, none⟩ vs (fun j v hj => by rw [add_lit', Nat.zero_add]; exact hS.cell hb (by simpa using hj))
  rw [hl] at this
  simp [loadVar, TyAgg.agg (P := P) (T := T), TySize.size (P := P) (T := T), this]
theorem ResW_v1 {r1 : ResultVar} {v1 : Value} (h1 : RV P f w r1 v1) : ResW P #[r1] f w v1 := by
  intro n a fn ha hr
  cases r1 with
  | tmp t => simp only [RV] at h1; simp [results, hr, ha.at', h1]
  | cell x t => obtain ⟨b, h1, k1⟩ := h1; simp [results, hr, ha.at', h1, k1, asAddr]
theorem ResW_v2 {r1 r2 : ResultVar} {v1 v2 : Value} (h1 : RV P f w r1 v1) (h2 : RV P f w r2 v2) : ResW P #[r1, r2] f w (.tuple #[v1, v2]) := by
  intro n a fn ha hr
  cases r1 with
  | tmp t =>
    simp only [RV] at h1
    cases r2 with
    | tmp t => simp only [RV] at h2; simp [results, hr, ha.at', h1, h2]
    | cell x t => obtain ⟨b2, h2, k2⟩ := h2; simp [results, hr, ha.at', h1, h2, k2, asAddr]
  | cell x t =>
    obtain ⟨b, h1, k1⟩ := h1
    cases r2 with
    | tmp t => simp only [RV] at h2; simp [results, hr, ha.at', h1, k1, h2, asAddr]
    | cell x t => obtain ⟨b2, h2, k2⟩ := h2; simp [results, hr, ha.at', h1, k1, h2, k2, asAddr]
theorem ResW_v3 {r1 r2 r3 : ResultVar} {v1 v2 v3 : Value} (h1 : RV P f w r1 v1) (h2 : RV P f w r2 v2) (h3 : RV P f w r3 v3) : ResW P #[r1, r2, r3] f w (.tuple #[v1, v2, v3]) := by
  intro n a fn ha hr
  cases r1 with
  | tmp t =>
    simp only [RV] at h1
    cases r2 with
    | tmp t =>
      simp only [RV] at h2
      cases r3 with
      | tmp t => simp only [RV] at h3; simp [results, hr, ha.at', h1, h2, h3]
      | cell x t => obtain ⟨b3, h3, k3⟩ := h3; simp [results, hr, ha.at', h1, h2, h3, k3, asAddr]
    | cell x t =>
      obtain ⟨b2, h2, k2⟩ := h2
      cases r3 with
      | tmp t => simp only [RV] at h3; simp [results, hr, ha.at', h1, h2, k2, h3, asAddr]
      | cell x t => obtain ⟨b3, h3, k3⟩ := h3; simp [results, hr, ha.at', h1, h2, k2, h3, k3, asAddr]
  | cell x t =>
    obtain ⟨b, h1, k1⟩ := h1
    cases r2 with
    | tmp t =>
      simp only [RV] at h2
      cases r3 with
      | tmp t => simp only [RV] at h3; simp [results, hr, ha.at', h1, k1, h2, h3, asAddr]
      | cell x t => obtain ⟨b3, h3, k3⟩ := h3; simp [results, hr, ha.at', h1, k1, h2, h3, k3, asAddr]
    | cell x t =>
      obtain ⟨b2, h2, k2⟩ := h2
      cases r3 with
      | tmp t => simp only [RV] at h3; simp [results, hr, ha.at', h1, k1, h2, k2, h3, asAddr]
      | cell x t => obtain ⟨b3, h3, k3⟩ := h3; simp [results, hr, ha.at', h1, k1, h2, k2, h3, k3, asAddr]
end
end Go.Proofs.Ytgaabmoknpifnaa
/- walk.down, walked: it gives a tree's entries from above, while keep takes their keys. Conditions: none but the tree's. -/
namespace Go.Proofs.Ytgaabmoknpifnaa
open Go.Proofs Go.RowKit
set_option linter.unusedVariables false
attribute [local irreducible] CW CWD SeqW OpW CallV
set_option maxHeartbeats 4000000
theorem RV_cell1 {P : Program} {f : Fr} {H : HF} {w : World} {a b : Nat} {T : TypeId} {v : Value} [TyOne P T] (hx : f a = .pointer (some ⟨b, 0, none⟩)) (hm : Mut H w b [v]) : RV P f w (.cell a T) v := by
  exact ⟨b, hx, by simp [loadVar, TyOne.agg (P := P) (T := T), Sub.mut_or hm (j := 0) rfl]⟩
def downL (kf : ByteArray → Bool) (l : List Ent) : List Ent := (l.filter fun e => kf e.key).reverse
theorem downL_append (kf : ByteArray → Bool) (l m : List Ent) : downL kf (l ++ m) = downL kf m ++ downL kf l := by simp [downL, List.filter_append]
/-- What the bodies have given behind the numbers of pre. -/
def gaveE (kf : ByteArray → Bool) (l : List Ent) (pre : List Nat) : List Ent := pre.flatMap fun i => downL kf [ent l i]
def gaveV (kf : ByteArray → Bool) (K : List (List Ent)) (pre : List Nat) : List Ent := pre.flatMap fun i => downL kf (K.getD i [])
theorem gaveE_all (kf : ByteArray → Bool) (l : List Ent) : gaveE kf l (downN l.length) = downL kf l := by
  suffices h : ∀ n, n ≤ l.length → gaveE kf l (downN n) = downL kf (l.take n) by
    have := h l.length (Nat.le_refl _); rwa [List.take_length] at this
  intro n
  induction n with
  | zero => intro _; simp [gaveE, downN, downL]
  | succ n ih =>
    intro hn
    have e : downN (n + 1) = n :: downN n := by simp [downN, List.range_succ]
    have e2 : l.take (n + 1) = l.take n ++ [ent l n] := by rw [take_succ' (by omega)]; simp [ent, show n < l.length by omega]
    rw [e, e2, downL_append, ← ih (by omega)]
    simp [gaveE]
theorem gaveV_all (kf : ByteArray → Bool) (K : List (List Ent)) : gaveV kf K (downN K.length) = downL kf K.flatten := by
  suffices h : ∀ n, n ≤ K.length → gaveV kf K (downN n) = downL kf (K.take n).flatten by
    have := h K.length (Nat.le_refl _); rwa [List.take_length] at this
  intro n
  induction n with
  | zero => intro _; simp [gaveV, downN, downL]
  | succ n ih =>
    intro hn
    have e : downN (n + 1) = n :: downN n := by simp [downN, List.range_succ]
    have e2 : K.take (n + 1) = K.take n ++ [K.getD n []] := by rw [take_succ' (by omega)]; simp [show n < K.length by omega]
    rw [e, e2, List.flatten_append, downL_append, ← ih (by omega)]
    simp [gaveV]
theorem gaveE_next (kf : ByteArray → Bool) (l : List Ent) (pre : List Nat) (i : Nat) : gaveE kf l (pre ++ [i]) = gaveE kf l pre ++ (if kf (ent l i).key then [ent l i] else []) := by
  simp only [gaveE, List.flatMap_append, List.flatMap_singleton, downL]
  congr 1
  cases h : kf (ent l i).key <;> simp [h]
theorem gaveV_next (kf : ByteArray → Bool) (K : List (List Ent)) (pre : List Nat) (i : Nat) : gaveV kf K (pre ++ [i]) = gaveV kf K pre ++ downL kf (K.getD i []) := by
  simp [gaveV]
/-- keep's value. -/
def KeepV (kv : Value) (kf : ByteArray → Bool) (H : HF) : Prop := ∀ H1 w1 s, HLe H H1 → Sub H1 w1 → CallV Try.prog kv [.string s] w1 fun v w' => ∃ H2, Grow H1 w1 H2 w' ∧ v = .bool (kf s)
theorem KeepV.mono {kv : Value} {kf : ByteArray → Bool} {H H' : HF} (h : KeepV kv kf H) (hle : HLe H H') : KeepV kv kf H' := fun H1 w1 s h1 => h H1 w1 s (hle.trans h1)
section
variable {xs : List Ent} {y kv : Value} {J Jx : Inv Ent} {kf : ByteArray → Bool}
theorem down_node (hJ : Stable J) (hJx : Stable Jx) (hy : Yields Try.prog y encP xs J Jx) (hyc : y.cells = #[y]) (hkc : kv.cells = #[kv]) {H0 : HF} {w0 : World} {X0 : Nat → Prop} {pre0 rest0 : List Ent} {p : Option Addr} {es : List Ent} {vs : List Value} {K : List (List Ent)} {lo hi : ByteArray}
    (hX0 : ∀ k, X0 k → k < w0.heap.size) (hkv : KeepV kv kf H0) (hp : p ≠ none) (hes : es.length ≤ 1000) (hvs : vs.length ≤ 1000) (hKl : K.length = vs.length) (h0 : es = [] ∨ K.flatten = [])
    (hEnds : ∀ H1, HLe H0 H1 → Fn Try.prog 64 [.pointer p] H1 fun v _ => v = .tuple #[.string lo, .string hi])
    (hEnt : ∀ H1, HLe H0 H1 → Fn Try.prog 65 [.pointer p] H1 fun v H' => IsEnts v es H')
    (hKids : ∀ H1, HLe H0 H1 → Fn Try.prog 66 [.pointer p] H1 fun v H' => IsSl 1 v vs.length vs H')
    (hlo : kf lo = false → ∀ e ∈ es ++ K.flatten, kf e.key = false)
    (hrec : ∀ i, i < vs.length → ∀ H1 w1 X pre rest, HLe H0 H1 → (∀ k, X k → k < w1.heap.size) → Sub H1 w1 → xs = pre ++ downL kf (K.getD i []) ++ rest → J X pre H1 w1 →
      CallW Try.prog 50 [vs.getD i (.pointer none), kv, y].toArray w1 (Went xs J Jx X H1 w1 (pre ++ downL kf (K.getD i []))))
    (hS : Sub H0 w0) (hxs : xs = pre0 ++ downL kf (es ++ K.flatten) ++ rest0) (hj : J X0 pre0 H0 w0) :
    CallW Try.prog 50 [.pointer p, kv, y].toArray w0 (Went xs J Jx X0 H0 w0 (pre0 ++ downL kf (es ++ K.flatten))) := by
  obtain ⟨a, rfl⟩ : ∃ a, p = some a := by cases p with | none => exact absurd rfl hp | some a => exact ⟨a, rfl⟩
  refine CallW_of_CWD Try.func50 rfl Try.ntmps50 Try.results50 rfl ?_
  have hG := Grow.refl hS
  have hI0 := Its.start hS hj
  (refine CWD_seq ?_; refine CWD_region rfl ?_)
  (refine S_op (W_box1 hS (by rfl) (by first | rfl | assumption) ?_)); intro H w _ hG' h4; replace hG := hG.trans hG'; replace hS := hG'.sub; clear hG'
  skip
  (refine S_op (W_box1 hS (by rfl) (by first | rfl | assumption) ?_)); intro H w _ hG' h5; replace hG := hG.trans hG'; replace hS := hG'.sub; replace h4 := hG'.le _ _ h4; clear hG'
  skip
  (refine S_op (W_alloc hS ?_)); intro w c6b hG' c6h c6; replace c6h := Nat.le_trans hG.below.size (Nat.le_of_eq c6h); replace hG := hG.trans hG'; replace hS := hG'.sub; clear hG'
  (refine S_nil ?_; refine CWD_seq ?_; refine CWD_seq ?_; refine CWD_region rfl ?_; refine S_op ?_; refine W_movePtr (by first | rfl | assumption) ?_)
  (refine S_op ?_; refine W_call hS (by rfl) (hEnds _ hG.le) ?_); rintro v H w hG' rfl; replace hG := hG.trans hG'; replace hS := hG'.sub; replace h4 := hG'.le _ _ h4; replace h5 := hG'.le _ _ h5; replace c6 := c6.grow hG'; clear hG'
  (refine S_op ?_; refine W_moveTup (by first | rfl | assumption) ?_; refine S_op ?_; refine W_extract (by first | rfl | assumption) (by rfl) ?_; refine S_op ?_; refine W_extract (by first | rfl | assumption) (by rfl) ?_; refine S_op ?_; refine W_assignStr (by first | rfl | assumption) ?_; refine S_op ?_; refine W_assignStr (by first | rfl | assumption) ?_; refine S_nil ?_; refine CWD_seq ?_; refine CWD_region rfl ?_; refine S_op ?_; refine W_movePtr (by first | rfl | assumption) ?_; refine S_op ?_; refine W_peqnil (by first | rfl | assumption) (by first | rfl | assumption) ?_; refine S_op ?_; refine W_moveBool (by first | rfl | assumption) ?_; refine S_want (by rfl) ?_; refine W_loadHL (by first | rfl | assumption) (by assumption) (by rfl) (by assumption) ?_; refine S_want (by rfl) ?_; refine W_moveStr (by first | rfl | assumption) ?_)
  refine S_want (by rfl) ?_
  refine W_callVal (by rfl) (by rfl) ((hkv H w lo hG.le hS).mono ?_)
  rintro v w ⟨H, hG', rfl⟩
  replace hG := hG.trans hG'
  replace hS := hG'.sub
  replace h4 := hG'.le _ _ h4
  replace h5 := hG'.le _ _ h5
  replace c6 := c6.grow hG'
  clear hG'
  have hfin : downL kf (es ++ K.flatten) = downL kf es ++ downL kf K.flatten := by
    rcases h0 with h | h
    · rw [h]; simp [downL]
    · rw [h]; simp [downL]
  cases hkl : kf lo with
  | false =>
    have e : downL kf (es ++ K.flatten) = [] := by
      have : (es ++ K.flatten).filter (fun e => kf e.key) = [] := by
        rw [List.filter_eq_nil_iff]
        intro x hx
        simp [hlo hkl x hx]
      simp only [downL, this, List.reverse_nil]
    rw [e, List.append_nil]
    (refine S_want (by rfl) ?_; refine W_not (by first | rfl | assumption) ?_; refine S_op ?_; refine W_pickF (by first | rfl | assumption) (by first | rfl | assumption) ?_; refine S_nil ?_; refine CWD_true (by first | rfl | assumption) ?_; refine CWD_seq ?_; refine CWD_region rfl ?_)
    (refine S_op0 (W_storeM (o := 0) (vs := [.bool true]) (by rfl) (by rfl) c6 (by rfl) (OneCells.of_all (by rfl)) (by rfl) (Nat.le_of_ble_eq_true (by rfl)) ?_)); intro w hgb' hm'; replace hG := hG.grownBy hgb' (fun g h => by cases h; exact ⟨c6.out, c6h⟩); replace hS := hG.sub; replace c6 : Mut _ w c6b ([.bool true]) := hm'; clear hm'; clear hgb'
    (refine S_nil ?_; refine CWD_ret ?_)
    exact FinD_nil ⟨_, ResW_v1 (RV_cell1 rfl c6), .inl ⟨rfl, _, _, hI0.step hJ hG⟩⟩
  | true =>
    rw [hfin] at hxs ⊢
    (refine S_want (by rfl) ?_; refine W_not (by first | rfl | assumption) ?_; refine S_op ?_; refine W_pickF (by first | rfl | assumption) (by first | rfl | assumption) ?_; refine S_nil ?_; refine CWD_false (by first | rfl | assumption) ?_; refine CWD_skip ?_; refine CWD_seq ?_; refine CWD_seq ?_; refine CWD_region rfl ?_; refine S_op ?_; refine W_movePtr (by first | rfl | assumption) ?_)
    (refine S_op ?_; refine W_call hS (by rfl) (hEnt _ hG.le) ?_); rintro v H w hG' hv; replace hG := hG.trans hG'; replace hS := hG'.sub; replace h4 := hG'.le _ _ h4; replace h5 := hG'.le _ _ h5; replace c6 := c6.grow hG'; clear hG'
    obtain ⟨A, c, rfl, hc, hl⟩ := hv
    skip
    (refine S_op ?_; refine W_call hS (by rfl) (backE_c H es A c (by omega) hl) ?_); rintro v H w hG' hv; replace hG := hG.trans hG'; replace hS := hG'.sub; replace hl := hl.mono hG'.le; replace h4 := hG'.le _ _ h4; replace h5 := hG'.le _ _ h5; replace c6 := c6.grow hG'; clear hG'
    obtain ⟨gf, lb, hfc, rfl, hit⟩ := hv
    (refine S_nil ?_; refine CWD_block ?_)
    have hI : Its J X0 H0 w0 (orNew X0 w0 w) (pre0 ++ gaveE kf es []) H w := by simpa [gaveE] using hI0.step hJ hG
    refine CWD_rangeBox (S := fun _ => False) (Inn J X0 H0 w0 [c6b] (fun pre => pre0 ++ gaveE kf es pre) (fun _ H2 w2 => HLe H H2 ∧ Mut H2 w2 c6b [.bool false])) (retI (InnX xs Jx X0 H0 w0 [c6b] (fun H2 w2 => Mut H2 w2 c6b [.bool false])))
      (Inn.good hJ hX0 ?_) (retI.stable (InnX.stable hJx hX0 ?_)) ⟨_, hI, fun _ h => h.elim, ?_, HLe.refl _, c6⟩ rfl hS (fun _ => rfl) (by decide) (fun w1 _ => hit H w1 (HLe.refl _)) (fun _ h => h.elim) ?_ ?_ ?_ ?_
    · rintro S pre H w H' w' hs hT ⟨h1, h2⟩
      exact ⟨h1.trans hT.le, h2.turn hT (hs _ (by simp))⟩
    · rintro S pre H w H' w' hs hT h2
      exact h2.turn hT (hs _ (by simp))
    · intro b hb
      simp at hb; subst hb
      exact ⟨fun h => h, .inr ⟨c6h, c6.lt⟩, c6h, c6.lt⟩
    · intro l x H1 W hS
      have hG := Grow.refl hS
      (refine CW_region rfl ?_)
      (refine S_op (W_alloc hS ?_)); intro w c10b hG' c10h c10; replace c10h := Nat.le_trans hG.below.size (Nat.le_of_eq c10h); replace hG := hG.trans hG'; replace hS := hG'.sub; clear hG'
      skip
      (refine S_op0 (W_storeM (o := 0) (vs := [.string (ent es x).key, .string (ent es x).val]) (by rfl) (by rfl) c10 (by rfl) (OneCells.of_all (by rfl)) (by rfl) (Nat.le_of_ble_eq_true (by rfl)) ?_)); intro w hgb' hm'; replace hG := hG.grownBy hgb' (fun g h => by cases h; exact ⟨c10.out, c10h⟩); replace hS := hG.sub; replace c10 : Mut _ w c10b ([.string (ent es x).key, .string (ent es x).val]) := hm'; clear hm'; clear hgb'
      (refine S_nil ?_)
      refine ⟨c10b, _, c10h, hG, c10, ?_⟩
      clear c10 hG hS c6
      rintro l X pre rest H W hx hS ⟨X1, hI, hXi, hbs, hle, c6⟩ ⟨hX10, c10⟩
      replace h4 := hle _ _ h4
      replace h5 := hle _ _ h5
      have hL := Its.start hS hI.has
      have hG := Grow.refl hS
      have h6 := hbs c6b (by simp)
      (refine CW_block ?_; refine CW_seq ?_; refine CW_region rfl ?_; refine S_op ?_; refine W_loadHL (by first | rfl | assumption) (by assumption) (by rfl) (by assumption) ?_; refine S_op ?_; refine W_field (by first | rfl | assumption) ?_; refine S_op ?_; refine W_loadM (by first | rfl | assumption) (by assumption) (by rfl) ?_)
      refine S_op ?_
      refine W_callVal (by rfl) (by rfl) ((hkv H W (ent es x).key hI.le hS).mono ?_)
      rintro v w ⟨H, hG', rfl⟩
      replace hG := hG.trans hG'
      replace hS := hG'.sub
      replace h4 := hG'.le _ _ h4
      replace h5 := hG'.le _ _ h5
      replace c6 := c6.grow hG'
      replace c10 := c10.grow hG'
      replace hle := hle.trans hG'.le
      have hL1 := hL.step hJ hG
      cases hk : kf (ent es x).key with
      | false =>
        have e : pre0 ++ gaveE kf es (pre ++ [x]) = pre0 ++ gaveE kf es pre := by rw [gaveE_next, hk]; simp
        (refine S_op ?_; refine W_moveBool (by first | rfl | assumption) ?_; refine S_pass (by rfl) ?_; refine S_pass (by rfl) ?_; refine S_pass (by rfl) ?_; refine S_pass (by rfl) ?_; refine S_pass (by rfl) ?_; refine S_pass (by rfl) ?_; refine S_pass (by rfl) ?_; refine S_op ?_; refine W_pickF (by first | rfl | assumption) (by first | rfl | assumption) ?_; refine S_nil ?_; refine CW_false (by first | rfl | assumption) ?_; refine CW_skip ?_)
        refine Inn.next (pre' := pre ++ [x]) (g := fun pre => pre0 ++ gaveE kf es pre) (X' := orNew X1 W w) (H' := H) hI hXi hbs ?_ ⟨hle, c6⟩
        show Its _ _ _ _ _ (pre0 ++ gaveE kf es (pre ++ [x])) _ _
        rw [e]; exact hL1
      | true =>
        have e : pre0 ++ gaveE kf es (pre ++ [x]) = pre0 ++ gaveE kf es pre ++ [ent es x] := by rw [gaveE_next, hk]; simp
        have hxs2 : xs = (pre0 ++ gaveE kf es pre) ++ ent es x :: (gaveE kf es rest ++ downL kf K.flatten ++ rest0) := by
          rw [hxs, ← gaveE_all, hx]
          simp [gaveE, downL, hk]
        (refine S_op ?_; refine W_moveBool (by first | rfl | assumption) ?_; refine S_want (by rfl) ?_; refine W_loadHL (by first | rfl | assumption) (by assumption) (by rfl) (by assumption) ?_; refine S_want (by rfl) ?_; refine W_field (by first | rfl | assumption) ?_; refine S_want (by rfl) ?_; refine W_loadM (by first | rfl | assumption) (by assumption) (by rfl) ?_; refine S_want (by rfl) ?_; refine W_field (by first | rfl | assumption) ?_; refine S_want (by rfl) ?_; refine W_loadM (by first | rfl | assumption) (by assumption) (by rfl) ?_)
        refine S_want (by rfl) ?_
        refine W_callVal (by rfl) (by rfl) ((hy.at hxs2 (Its.start hS hL1.has)).mono ?_)
        clear c10 hG hS
        rintro v w4 (⟨rfl, X2, H3, hK⟩ | ⟨rfl, X2, H3, p, r, he, hK⟩)
        · (refine S_want (by rfl) ?_; refine W_not (by first | rfl | assumption) ?_; refine S_op ?_; refine W_pickT (by first | rfl | assumption) (by first | rfl | assumption) ?_; refine S_nil ?_; refine CW_false (by first | rfl | assumption) ?_; refine CW_skip ?_)
          refine Inn.next (pre' := pre ++ [x]) (g := fun pre => pre0 ++ gaveE kf es pre) (X' := X2) (H' := H3) hI hXi hbs ?_ ⟨hle.trans hK.le, c6.turn hK.turn (fun h => h (.inl h6.2.1))⟩
          show Its _ _ _ _ _ (pre0 ++ gaveE kf es (pre ++ [x])) _ _
          rw [e]; exact hL1.trans hK
        · replace c6 := c6.turn hK.turn (fun h => h (.inl h6.2.1))
          have hS := hK.sub
          (refine S_want (by rfl) ?_; refine W_not (by first | rfl | assumption) ?_; refine S_op ?_; refine W_pickT (by first | rfl | assumption) (by first | rfl | assumption) ?_; refine S_nil ?_; refine CW_true (by first | rfl | assumption) ?_; refine CW_seq ?_; refine CW_region rfl ?_)
          refine S_op0 (W_storeM (o := 0) (vs := [.bool false]) (by rfl) (by rfl) c6 (by rfl) (OneCells.of_all (by rfl)) (by rfl) (Nat.le_of_ble_eq_true (by rfl)) ?_)
          intro w5 hgb c7
          have hT5 : Turn (fun k => k = c6b) H3 w4 H3 w5 := (Turn.refl hS).grownBy hgb (fun g h => by cases h; exact ⟨c6.out, .inr rfl⟩)
          (refine S_nil ?_; refine CW_ret ?_)
          exact Inn.stopT (φx := fun H2 w2 => Mut H2 w2 c6b [.bool false]) (pre' := pre ++ [x]) hX0 hJx hI hXi hbs he (hL1.trans hK) hT5 (fun k hk => by simp [hk]) c7
    · rintro D X H w hD hM hS hle' hXs hXD ⟨X1, hI, hXi, hbs, hle, c6⟩
      have h6 := hbs c6b (by simp)
      have hD6 : c6b ≠ D := fun e => h6.1 (by rw [e]; exact hXD)
      have hDX := hXi D hXD
      replace h4 := hle _ _ h4
      replace h5 := hle _ _ h5
      replace hI : Its J X0 H0 w0 X1 (pre0 ++ downL kf es) H w := by
        have h := hI
        simp only [gaveE_all] at h
        exact h
      have hG := Grow.refl hS
      clear hit hle hle' hbs hXs hXi
      (refine CWD_seq ?_; refine CWD_seq ?_; refine CWD_region rfl ?_; refine S_op ?_; refine W_movePtr (by first | rfl | assumption) ?_)
      (refine S_op ?_; refine W_call hS (by rfl) (hKids _ hI.le) ?_); rintro v H w hG' hv; replace hG := hG.trans hG'; replace hS := hG'.sub; replace h4 := hG'.le _ _ h4; replace h5 := hG'.le _ _ h5; replace c6 := c6.grow hG'; replace hM := hM.grow hG'; clear hG'
      obtain ⟨B, d, rfl, hd, hsl, hvl⟩ := hv
      skip
      (refine S_op ?_; refine W_call hS (by rfl) (backV_c H vs B vs.length d rfl (by omega) hsl) ?_); rintro v H w hG' hv; replace hG := hG.trans hG'; replace hS := hG'.sub; replace hsl := hsl.mono hG'.le; replace h4 := hG'.le _ _ h4; replace h5 := hG'.le _ _ h5; replace c6 := c6.grow hG'; replace hM := hM.grow hG'; clear hG'
      obtain ⟨gf2, lb2, hfc2, rfl, hit2⟩ := hv
      (refine S_nil ?_; refine CWD_block ?_)
      replace hI := hI.step hJ hG
      refine CWD_range (S := fun _ => False) (Inn J X0 H0 w0 [c6b, D] (fun pre => pre0 ++ downL kf es ++ gaveV kf K pre) (fun _ H2 w2 => HLe H H2 ∧ Mut H2 w2 c6b [.bool false] ∧ MarkAt H2 w2 D)) (retI (InnX xs Jx X0 H0 w0 [c6b, D] (fun H2 w2 => Mut H2 w2 c6b [.bool false] ∧ MarkAt H2 w2 D)))
        (Inn.good hJ hX0 ?_) (retI.stable (InnX.stable hJx hX0 ?_)) ⟨_, by simpa [gaveV] using hI, fun _ h => h.elim, ?_, HLe.refl _, c6, hM⟩ rfl hS (fun _ => rfl) (by decide) (fun w1 _ => hit2 H w1 (HLe.refl _)) (fun _ h => h.elim) ?_ ?_ ?_ ?_
      · rintro S pre H w H' w' hs hT ⟨h1, h2, h3⟩
        exact ⟨h1.trans hT.le, h2.turn hT (hs _ (by simp)), h3.turn hT (hs _ (by simp))⟩
      · rintro S pre H w H' w' hs hT ⟨h2, h3⟩
        exact ⟨h2.turn hT (hs _ (by simp)), h3.turn hT (hs _ (by simp))⟩
      · intro b hb
        simp at hb
        rcases hb with rfl | rfl
        · exact ⟨fun h => h, .inl h6.2.1, h6.2.2.1, c6.lt⟩
        · exact ⟨fun h => h, .inl hDX.1, hDX.2, hM.lt⟩
      · intro l x W
        (refine CW_region rfl ?_; refine S_op ?_; refine W_assign rfl ?_; refine S_nil ?_)
        refine ⟨rfl, ?_⟩
        clear c6 hM hG hS hI h6
        rintro l X pre rest H W hx hS ⟨X2, hI, hXi, hbs, hle, c6, hM⟩ _
        replace h4 := hle _ _ h4
        replace h5 := hle _ _ h5
        have h6 := hbs c6b (by simp)
        have h7 := hbs D (by simp)
        have hlt : x < vs.length := by
          have : x ∈ downN vs.length := by rw [hx]; simp
          simpa [downN] using this
        have e : pre0 ++ downL kf es ++ gaveV kf K (pre ++ [x]) = pre0 ++ downL kf es ++ gaveV kf K pre ++ downL kf (K.getD x []) := by rw [gaveV_next]; simp
        have hxs2 : xs = (pre0 ++ downL kf es ++ gaveV kf K pre) ++ downL kf (K.getD x []) ++ (gaveV kf K rest ++ rest0) := by
          rw [hxs, ← gaveV_all, hKl, hx]
          simp [gaveV]
        (refine CW_block ?_; refine CW_seq ?_; refine CW_region rfl ?_; refine S_op ?_; refine W_move rfl ?_; refine S_op ?_; refine W_loadHL (by first | rfl | assumption) (by assumption) (by rfl) (by assumption) ?_; refine S_op ?_; refine W_loadHL (by first | rfl | assumption) (by assumption) (by rfl) (by assumption) ?_)
        refine S_op ?_
        refine W_callW (vs := [vs.getD x (.pointer none), kv, y]) (by rfl) ((hrec x hlt H W X2 _ _ hI.le (hI.bnd hX0) hS hxs2 hI.has).mono ?_)
        rintro v w4 (⟨rfl, X3, H3, hK⟩ | ⟨rfl, X3, H3, p, r, he, hK⟩)
        · (refine S_op ?_; refine W_not (by first | rfl | assumption) ?_; refine S_nil ?_; refine CW_false (by first | rfl | assumption) ?_; refine CW_skip ?_)
          refine Inn.next (pre' := pre ++ [x]) (g := fun pre => pre0 ++ downL kf es ++ gaveV kf K pre) (X' := X3) (H' := H3) hI hXi hbs ?_ ⟨hle.trans hK.le, c6.turn hK.turn (fun h => h h6.2.1), hM.turn hK.turn (fun h => h h7.2.1)⟩
          show Its _ _ _ _ _ (pre0 ++ downL kf es ++ gaveV kf K (pre ++ [x])) _ _
          rw [e]; exact hK
        · replace c6 := c6.turn hK.turn (fun h => h h6.2.1)
          replace hM := hM.turn hK.turn (fun h => h h7.2.1)
          have hS := hK.sub
          (refine S_op ?_; refine W_not (by first | rfl | assumption) ?_; refine S_nil ?_; refine CW_true (by first | rfl | assumption) ?_; refine CW_seq ?_; refine CW_region rfl ?_)
          refine S_op0 (W_storeM (o := 0) (vs := [.bool false]) (by rfl) (by rfl) c6 (by rfl) (OneCells.of_all (by rfl)) (by rfl) (Nat.le_of_ble_eq_true (by rfl)) ?_)
          intro w5 hgb c7
          have hT5 : Turn (fun k => k = c6b) H3 w4 H3 w5 := (Turn.refl hS).grownBy hgb (fun g h => by cases h; exact ⟨c6.out, .inr rfl⟩)
          replace hM := hM.other hgb (fun e => hD6 (Option.some.inj e))
          (refine S_nil ?_; refine CW_ret ?_)
          exact Inn.stopT (φx := fun H2 w2 => Mut H2 w2 c6b [.bool false] ∧ MarkAt H2 w2 D) (pre' := pre ++ [x]) hX0 hJx hI hXi hbs he hK hT5 (fun k hk => by simp [hk]) ⟨c7, hM⟩
      · clear c6 hM hG hS hI h6
        rintro E X H w hE hN hS hle' hXs hXE ⟨X3, hI, hXi, hbs, hle, c6, hM⟩
        have h6 := hbs c6b (by simp)
        have h7 := hbs D (by simp)
        have hE6 : c6b ≠ E := fun e => h6.1 (by rw [e]; exact hXE)
        have hne : E ≠ D := fun e => h7.1 (by rw [← e]; exact hXE)
        have hEX := hXi E hXE
        replace hI : Its J X0 H0 w0 X3 (pre0 ++ (downL kf es ++ downL kf K.flatten)) H w := by
          have h := hI
          simp only [← hKl, gaveV_all, List.append_assoc] at h
          exact h
        (refine CWD_seq ?_; refine CWD_region rfl ?_)
        refine S_op0 (W_storeM (o := 0) (vs := [.bool true]) (by rfl) (by rfl) c6 (by rfl) (OneCells.of_all (by rfl)) (by rfl) (Nat.le_of_ble_eq_true (by rfl)) ?_)
        intro w5 hgb c7
        have hT5 : Turn (fun k => k = c6b) H w H w5 := (Turn.refl hS).grownBy hgb (fun g h => by cases h; exact ⟨c6.out, .inr rfl⟩)
        have hI5 := hI.own hJ hT5 (fun k hk => by subst hk; exact ⟨h6.2.1, fun h => by have := hX0 _ h; have := h6.2.2.1; omega⟩)
        replace hM := hM.other hgb (fun e => hD6 (Option.some.inj e))
        replace hN := hN.other hgb (fun e => hE6 (Option.some.inj e))
        (refine S_nil ?_; refine CWD_ret ?_)
        refine FinD_two hM hN hne hT5.sub fun w' hT => ?_
        have hI6 := hI5.own hJ hT (fun k hk => by
          rcases hk with rfl | rfl
          · exact ⟨.inl h7.2.1, fun h => by have := hX0 _ h; have := h7.2.2.1; omega⟩
          · exact ⟨.inl hEX.1, fun h => by have := hX0 _ h; have := hEX.2; omega⟩)
        exact ⟨_, ResW_v1 (RV_cell1 rfl (c7.turn hT (by rintro (e | e); exact hD6 e; exact hE6 e))), .inl ⟨rfl, _, _, hI6⟩⟩
      · clear c6 hM hG hS hI h6
        rintro E X H w pre rest hx hE hN hS hle' hXs hXE ⟨X3, p, r, he, hI, hXi, hbs, c6, hM⟩
        have h6 := hbs c6b (by simp)
        have h7 := hbs D (by simp)
        have hE6 : c6b ≠ E := fun e => h6.1 (by rw [e]; exact hXE)
        have hne : E ≠ D := fun e => h7.1 (by rw [← e]; exact hXE)
        have hEX := hXi E hXE
        skip
        refine FinD_two hM hN hne hS fun w' hT => ?_
        have hI6 := hI.own hJx hT (fun k hk => by
          rcases hk with rfl | rfl
          · exact ⟨h7.2.1, fun h => by have := hX0 _ h; have := h7.2.2.1; omega⟩
          · exact ⟨hEX.1, fun h => by have := hX0 _ h; have := hEX.2; omega⟩)
        exact ⟨_, ResW_v1 (RV_cell1 rfl (c6.turn hT (by rintro (e | e); exact hD6 e; exact hE6 e))), .inr ⟨rfl, _, _, p, r, he, hI6⟩⟩
      · exact fun _ _ _ _ _ _ _ _ _ _ _ _ _ _ h => False.elim h
    · rintro D X H' W' pre rest hx hD hM hS' hle' hXs hXD ⟨X1, p, r, he, hI, hXi, hbs, c6⟩
      skip
      refine FinD_one hM hS' fun w' hT => ?_
      exact ⟨_, ResW_v1 (RV_cell1 rfl (c6.turn hT (fun e => (hbs c6b (by simp)).1 (by rw [e]; exact hXD)))), .inr ⟨rfl, _, _, p, r, he, hI.closed hX0 hJx (hXi D hXD).1 (hXi D hXD).2 hT⟩⟩
    · exact fun _ _ _ _ _ _ _ _ _ _ _ _ _ _ h => False.elim h
end
end Go.Proofs.Ytgaabmoknpifnaa
/- walk.Back and walk.BackFrom, walked. Conditions: none but the tree's. -/
namespace Go.Proofs.Ytgaabmoknpifnaa
open Go.Proofs Go.RowKit
set_option linter.unusedVariables false
attribute [local irreducible] CW CWD SeqW OpW CallV
set_option maxHeartbeats 4000000
section
variable {xs : List Ent} {y kv : Value} {J Jx : Inv Ent} {kf : ByteArray → Bool}
theorem down_nil (hJ : Stable J) (hyc : y.cells = #[y]) (hkc : kv.cells = #[kv]) {H0 : HF} {w0 : World} {X0 : Nat → Prop} {pre : List Ent} (hS : Sub H0 w0) (hj : J X0 pre H0 w0) :
    CallW Try.prog 50 [.pointer none, kv, y].toArray w0 (Went xs J Jx X0 H0 w0 pre) := by
  refine CallW_of_CWD Try.func50 rfl Try.ntmps50 Try.results50 rfl ?_
  have hG := Grow.refl hS
  have hI0 := Its.start hS hj
  (refine CWD_seq ?_; refine CWD_region rfl ?_)
  (refine S_op (W_box1 hS (by rfl) (by first | rfl | assumption) ?_)); intro H w _ hG' h4; replace hG := hG.trans hG'; replace hS := hG'.sub; clear hG'
  skip
  (refine S_op (W_box1 hS (by rfl) (by first | rfl | assumption) ?_)); intro H w _ hG' h5; replace hG := hG.trans hG'; replace hS := hG'.sub; replace h4 := hG'.le _ _ h4; clear hG'
  skip
  (refine S_op (W_alloc hS ?_)); intro w c6b hG' c6h c6; replace c6h := Nat.le_trans hG.below.size (Nat.le_of_eq c6h); replace hG := hG.trans hG'; replace hS := hG'.sub; clear hG'
  (refine S_nil ?_; refine CWD_seq ?_; refine CWD_seq ?_; refine CWD_region rfl ?_; refine S_op ?_; refine W_movePtr (by first | rfl | assumption) ?_)
  (refine S_op ?_; refine W_call hS (by rfl) (ends_nil (H := H)) ?_); rintro v H w hG' rfl; replace hG := hG.trans hG'; replace hS := hG'.sub; replace h4 := hG'.le _ _ h4; replace h5 := hG'.le _ _ h5; replace c6 := c6.grow hG'; clear hG'
  (refine S_op ?_; refine W_moveTup (by first | rfl | assumption) ?_; refine S_op ?_; refine W_extract (by first | rfl | assumption) (by rfl) ?_; refine S_op ?_; refine W_extract (by first | rfl | assumption) (by rfl) ?_; refine S_op ?_; refine W_assignStr (by first | rfl | assumption) ?_; refine S_op ?_; refine W_assignStr (by first | rfl | assumption) ?_; refine S_nil ?_; refine CWD_seq ?_; refine CWD_region rfl ?_; refine S_op ?_; refine W_movePtr (by first | rfl | assumption) ?_; refine S_op ?_; refine W_peqnil (by first | rfl | assumption) (by first | rfl | assumption) ?_; refine S_op ?_; refine W_moveBool (by first | rfl | assumption) ?_; refine S_pass (by rfl) ?_; refine S_pass (by rfl) ?_; refine S_pass (by rfl) ?_; refine S_pass (by rfl) ?_; refine S_op ?_; refine W_pickT (by first | rfl | assumption) (by first | rfl | assumption) ?_; refine S_nil ?_; refine CWD_true (by first | rfl | assumption) ?_; refine CWD_seq ?_; refine CWD_region rfl ?_)
  (refine S_op0 (W_storeM (o := 0) (vs := [.bool true]) (by rfl) (by rfl) c6 (by rfl) (OneCells.of_all (by rfl)) (by rfl) (Nat.le_of_ble_eq_true (by rfl)) ?_)); intro w hgb' hm'; replace hG := hG.grownBy hgb' (fun g h => by cases h; exact ⟨c6.out, c6h⟩); replace hS := hG.sub; replace c6 : Mut _ w c6b ([.bool true]) := hm'; clear hm'; clear hgb'
  (refine S_nil ?_; refine CWD_ret ?_)
  exact FinD_nil ⟨_, ResW_v1 (RV_cell1 rfl c6), .inl ⟨rfl, _, _, hI0.step hJ hG⟩⟩
theorem down_c (hJ : Stable J) (hJx : Stable Jx) (hy : Yields Try.prog y encP xs J Jx) (hyc : y.cells = #[y]) (hkc : kv.cells = #[kv]) (hkd : ∀ a b, slt b a = false → kf b = true → kf a = true) (h : Nat) :
    ∀ (H0 : HF) (w0 : World) (x : Nd h) (X0 : Nat → Prop) (pre rest : List Ent), NodeAt H0 h x → (∀ k, X0 k → k < w0.heap.size) → KeepV kv kf H0 → Sub H0 w0 → xs = pre ++ downL kf (Nd.items h x) ++ rest → J X0 pre H0 w0 →
    CallW Try.prog 50 [x.ptr, kv, y].toArray w0 (Went xs J Jx X0 H0 w0 (pre ++ downL kf (Nd.items h x))) := by
  induction h with
  | zero =>
    intro H0 w0 x X0 pre rest hx hX0 hkv hS hxs hj
    have hxl : x.ents.length ≤ 4 := by have := hx.ok; simp only [Nd.Ok, leafB, Bool.and_eq_true, decide_eq_true_eq] at this; omega
    have e : Nd.items 0 x = x.ents ++ ([] : List (List Ent)).flatten := by simp [Nd.items]
    rw [e] at hxs ⊢
    refine down_node (vs := []) (K := []) hJ hJx hy hyc hkc hX0 hkv (by simp) (by omega) (by simp) rfl (.inr rfl) (fun H1 hle => ends_c (hx.mono hle)) (fun H1 hle => entries_c (hx.mono hle))
      (fun H1 hle => (kids_leaf (hx.mono hle)).mono fun v H' _ hv => ⟨none, 0, hv, Nat.le_refl _, .inl rfl, rfl⟩) ?_ (fun i hi => absurd hi (by simp)) hS hxs hj
    intro hl e he
    cases hk : kf e.key with
    | false => rfl
    | true =>
      have h1 : e ∈ Nd.items 0 x := by simpa [Nd.items] using he
      rw [hkd x.lo e.key (Nd.lo_le hx.ok h1) hk] at hl; cases hl
  | succ h ih =>
    intro H0 w0 x X0 pre rest hx hX0 hkv hS hxs hj
    have hxl := hx.ok.2.1
    have e : Nd.items (h + 1) x = [] ++ (x.kids.map (Nd.items h)).flatten := by simp [Nd.items, List.flatMap]
    have e2 := e
    rw [e] at hxs ⊢
    refine down_node (es := []) (vs := x.kids.map Nd.ptr) (K := x.kids.map (Nd.items h)) hJ hJx hy hyc hkc hX0 hkv (by simp) (by simp) (by simp; omega) (by simp) (.inl rfl) (fun H1 hle => ends_c (hx.mono hle)) (fun H1 hle => entries_c (hx.mono hle))
      (fun H1 hle => (kids_c (hx.mono hle)).mono fun v H' _ hv => by simpa using hv) ?_ ?_ hS hxs hj
    · intro hl e he
      cases hk : kf e.key with
      | false => rfl
      | true =>
        have h1 : e ∈ Nd.items (h + 1) x := by rw [e2]; exact he
        rw [hkd x.lo e.key (Nd.lo_le hx.ok h1) hk] at hl; cases hl
    · intro i hi H1 w1 X pre' rest' hle hX hS1 hxs1 hj1
      have hi2 : i < x.kids.length := by simpa using hi
      have h1 : (x.kids.map Nd.ptr).getD i (.pointer none) = x.kids[i].ptr := by simp [hi2]
      have h2 : (x.kids.map (Nd.items h)).getD i [] = Nd.items h x.kids[i] := by simp [hi2]
      rw [h2] at hxs1 ⊢
      rw [h1]
      exact ih H1 w1 x.kids[i] X pre' rest' ((hx.kids x.kids[i] (List.getElem_mem _)).mono hle) hX (hkv.mono hle) hS1 hxs1 hj1
theorem down_t (hJ : Stable J) (hJx : Stable Jx) (hy : Yields Try.prog y encP xs J Jx) (hyc : y.cells = #[y]) (hkc : kv.cells = #[kv]) (hkd : ∀ a b, slt b a = false → kf b = true → kf a = true) {H0 : HF} {w0 : World} {t : Tr} {X0 : Nat → Prop} (ht : Tr.At H0 t)
    (hX0 : ∀ k, X0 k → k < w0.heap.size) (hkv : KeepV kv kf H0) (hS : Sub H0 w0) (hxs : xs = downL kf t.items) (hj : J X0 [] H0 w0) :
    CallW Try.prog 50 [t.val, kv, y].toArray w0 (Went xs J Jx X0 H0 w0 xs) := by
  cases t with
  | none =>
    have : xs = [] := by rw [hxs]; simp [downL, Tr.items]
    subst this
    exact down_nil hJ hyc hkc hS hj
  | some x =>
    subst hxs
    exact down_c (xs := downL kf (Nd.items x.1 x.2)) hJ hJx hy hyc hkc hkd x.1 H0 w0 x.2 X0 [] [] ht hX0 hkv hS (by simp) hj
end
theorem keepAll_c (H : HF) (s : ByteArray) : Fn Try.prog 54 [.string s] H fun v _ => v = .bool true := by
  refine Fn_of_CW Try.func54 rfl Try.ntmps54 Try.results54 rfl fun w hS => ?_; have hG := Grow.refl hS; have hS0 := hS
  (refine CW_seq ?_; refine CW_region rfl ?_; refine S_op ?_; refine W_assignBool (by first | rfl | assumption) ?_; refine S_nil ?_; refine CW_seq ?_; refine CW_region rfl ?_; refine S_op ?_; refine W_assignBool (by first | rfl | assumption) ?_; refine S_nil ?_; refine CW_ret ?_)
  exact ⟨_, ResW_one (v := .bool _) rfl, H, hG, rfl⟩
theorem sle_eq (s k : ByteArray) : (slt s k || decide (s = k)) = !slt k s := by
  cases h1 : slt k s with
  | true =>
    have h2 := slt_asymm h1
    have h3 := slt_ne h1
    simp [h2, Ne.symm h3]
  | false =>
    cases h2 : slt s k with
    | true => simp
    | false => simp [slt_total h2 h1]
theorem keepTo_c (H : HF) (s k : ByteArray) (b : Nat) (T : TypeId) (hb : H b = some (.cells #[.string k] T (0, 0))) : Fn Try.prog 51 [.string s, .pointer (some ⟨b, 0, none⟩)] H fun v _ => v = .bool (!slt k s) := by
  refine Fn_of_CW Try.func51 rfl Try.ntmps51 Try.results51 rfl fun w hS => ?_; have hG := Grow.refl hS; have hS0 := hS
  (refine CW_seq ?_; refine CW_region rfl ?_; refine S_op ?_; refine W_assignBool (by first | rfl | assumption) ?_; refine S_nil ?_; refine CW_seq ?_; refine CW_region rfl ?_; refine S_op ?_; refine W_moveStr (by first | rfl | assumption) ?_; refine S_op ?_; refine W_loadHL (by first | rfl | assumption) (by assumption) (by rfl) (by assumption) ?_; refine S_op ?_; refine W_sleq (by first | rfl | assumption) (by first | rfl | assumption) ?_; refine S_op ?_; refine W_assignBool (by first | rfl | assumption) ?_; refine S_nil ?_; refine CW_ret ?_)
  exact ⟨_, ResW_one (v := .bool _) rfl, H, hG, by rw [sle_eq]⟩
theorem keepAll_v (H : HF) : KeepV (.func (.func 54) #[] #[]) (fun _ => true) H := fun H1 w1 s _ hS => CallV_func (keepAll_c H1 s w1 hS)
theorem keepTo_v {H : HF} {k : ByteArray} {b : Nat} {T : TypeId} (hb : H b = some (.cells #[.string k] T (0, 0))) : KeepV (.func (.func 51) #[] #[.pointer (some ⟨b, 0, none⟩)]) (fun s => !slt k s) H :=
  fun H1 w1 s hle hS => CallV_func (keepTo_c H1 s k b T (hle _ _ hb) w1 hS)
def toL (k : ByteArray) (l : List Ent) : List Ent := downL (fun s => !slt k s) l
theorem downAll (l : List Ent) : downL (fun _ => true) l = l.reverse := by simp [downL]
theorem back1_it {H : HF} {w : World} {t : Tr} {a : Nat} {T : TypeId} (ht : Tr.At H t) (ha : H a = some (.cells #[t.val] T (0, 0))) :
    IterAt Try.prog 53 [.pointer (some ⟨a, 0, none⟩)] encP t.items.reverse (fun _ => False) H w := by
  intro y J Jx X0 hyc _ hX0 hJ hJx hy hS hj
  refine CallW_of_CW Try.func53 rfl Try.ntmps53 Try.results53 rfl ?_
  have hG := Grow.refl hS
  (refine CW_region rfl ?_; refine S_op ?_; refine W_loadHL (by first | rfl | assumption) (by assumption) (by rfl) (by assumption) ?_; refine S_op ?_; refine W_move rfl ?_)
  refine S_op ?_
  refine W_callW (vs := [t.val, .func (.func 54) #[] #[], y]) (by rfl) ((down_t (kf := fun _ => true) hJ hJx hy hyc rfl (fun _ _ _ _ => rfl) ht hX0 (keepAll_v H) hS (downAll _).symm hj).mono ?_)
  rintro v w' hw
  (refine S_nil ?_)
  exact ⟨_, ResW_zero, Went.end hw⟩
theorem backFrom1_it {H : HF} {w : World} {t : Tr} {k : ByteArray} {a b : Nat} {T U : TypeId} (ht : Tr.At H t) (ha : H a = some (.cells #[t.val] T (0, 0))) (hb : H b = some (.cells #[.string k] U (0, 0))) :
    IterAt Try.prog 49 [.pointer (some ⟨a, 0, none⟩), .pointer (some ⟨b, 0, none⟩)] encP (toL k t.items) (fun _ => False) H w := by
  intro y J Jx X0 hyc _ hX0 hJ hJx hy hS hj
  refine CallW_of_CW Try.func49 rfl Try.ntmps49 Try.results49 rfl ?_
  have hG := Grow.refl hS
  (refine CW_region rfl ?_; refine S_op ?_; refine W_loadHL (by first | rfl | assumption) (by assumption) (by rfl) (by assumption) ?_)
  refine S_op (W_makeFunc rfl rfl ?_)
  (refine S_op ?_; refine W_move rfl ?_)
  refine S_op ?_
  refine W_callW (vs := [t.val, .func (.func 51) #[] #[.pointer (some ⟨b, 0, none⟩)], y]) (by rfl) ((down_t hJ hJx hy hyc rfl ?_ ht hX0 (keepTo_v hb) hS rfl hj).mono ?_)
  · intro a b hab hkb
    cases hka : slt k a with
    | false => rfl
    | true =>
      simp only [Bool.not_eq_true'] at hkb
      have := slt_of_le_of_lt hkb hka
      rw [hab] at this; cases this
  · rintro v w' hw
    (refine S_nil ?_)
    exact ⟨_, ResW_zero, Went.end hw⟩
theorem back_c (H : HF) (t : Tr) (ht : Tr.At H t) : Fn Try.prog 27 [t.val] H fun v H' => IterV Try.prog encP t.items.reverse v H' := by
  have hc := Tr.val_cells t
  refine Fn_of_CW Try.func27 rfl Try.ntmps27 Try.results27 rfl fun w hS => ?_; have hG := Grow.refl hS; have hS0 := hS
  (refine CW_seq ?_; refine CW_region rfl ?_)
  (refine S_op (W_box1 hS (by rfl) (by first | rfl | assumption) ?_)); intro H w _ hG' h1; replace hG := hG.trans hG'; replace hS := hG'.sub; replace ht := ht.mono hG'.le; clear hG'
  (refine S_op ?_; refine W_assign rfl ?_; refine S_nil ?_; refine CW_seq ?_; refine CW_region rfl ?_)
  refine S_op (W_makeFunc rfl rfl ?_)
  (refine S_op ?_; refine W_assignFun (by first | rfl | assumption) ?_; refine S_nil ?_; refine CW_ret ?_)
  exact ⟨_, ResW_one (v := .func _ _ _) rfl, H, hG, _, _, inferInstance, rfl, fun H1 w1 hle => back1_it (ht.mono hle) (hle _ _ h1)⟩
theorem backFrom_c (H : HF) (t : Tr) (k : ByteArray) (ht : Tr.At H t) : Fn Try.prog 22 [t.val, .string k] H fun v H' => IterV Try.prog encP (toL k t.items) v H' := by
  have hc := Tr.val_cells t
  refine Fn_of_CW Try.func22 rfl Try.ntmps22 Try.results22 rfl fun w hS => ?_; have hG := Grow.refl hS; have hS0 := hS
  (refine CW_seq ?_; refine CW_region rfl ?_)
  (refine S_op (W_box1 hS (by rfl) (by first | rfl | assumption) ?_)); intro H w _ hG' h2; replace hG := hG.trans hG'; replace hS := hG'.sub; replace ht := ht.mono hG'.le; clear hG'
  skip
  (refine S_op (W_box1 hS (by rfl) (by first | rfl | assumption) ?_)); intro H w _ hG' h3; replace hG := hG.trans hG'; replace hS := hG'.sub; replace ht := ht.mono hG'.le; replace h2 := hG'.le _ _ h2; clear hG'
  (refine S_op ?_; refine W_assign rfl ?_; refine S_nil ?_; refine CW_seq ?_; refine CW_region rfl ?_)
  refine S_op (W_makeFunc rfl rfl ?_)
  (refine S_op ?_; refine W_assignFun (by first | rfl | assumption) ?_; refine S_nil ?_; refine CW_ret ?_)
  exact ⟨_, ResW_one (v := .func _ _ _) rfl, H, hG, _, _, inferInstance, rfl, fun H1 w1 hle => backFrom1_it (ht.mono hle) (hle _ _ h2) (hle _ _ h3)⟩
end Go.Proofs.Ytgaabmoknpifnaa
/- walk.Count and walk.Take, walked. Conditions: sizes. -/
namespace Go.Proofs.Ytgaabmoknpifnaa
open Go.Proofs Go.RowKit
set_option linter.unusedVariables false
attribute [local irreducible] CW CWD SeqW OpW CallV
set_option maxHeartbeats 4000000
/-- How many lie ahead of the first whose key is not below k. -/
def aheadOf (k : ByteArray) (l : List Ent) : Nat := (l.takeWhile fun e => slt e.key k).length
theorem ahead_all {k : ByteArray} {l : List Ent} (h : ∀ e ∈ l, slt e.key k = true) : aheadOf k l = l.length := by
  have := List.takeWhile_append_of_pos (p := fun e => slt e.key k) (l₁ := l) (l₂ := []) h
  simp only [List.append_nil, List.takeWhile_nil] at this
  rw [aheadOf, this]
theorem ahead_split {k : ByteArray} {l r : List Ent} {x : Ent} (h : ∀ e ∈ l, slt e.key k = true) (hx : slt x.key k = false) : aheadOf k (l ++ x :: r) = l.length := by
  rw [aheadOf, List.takeWhile_append_of_pos h]
  simp [hx]
theorem count_c (H : HF) (t : Tr) (k k2 : ByteArray) (ht : Tr.At H t) (hb : t.items.length ≤ 1000000) : Fn Try.prog 19 [t.val, .string k, .string k2] H fun v _ => v = .int .i64 (aheadOf k2 (fromL k t.items) : Nat) := by
  obtain ⟨H0, rfl⟩ : ∃ H0, H0 = H := ⟨_, rfl⟩
  have hlen : (fromL k t.items).length ≤ 1000000 := Nat.le_trans (List.length_filter_le _ _) hb
  refine Fn_of_CWD Try.func19 rfl Try.ntmps19 Try.results19 rfl fun w0 hS => ?_; have hS0 := hS; have hG := Grow.refl hS
  (refine CWD_seq ?_; refine CWD_region rfl ?_)
  (refine S_op (W_box1 hS (by rfl) (by first | rfl | assumption) ?_)); intro H w _ hG' h5; replace hG := hG.trans hG'; replace hS := hG'.sub; replace ht := ht.mono hG'.le; clear hG'
  (refine S_op ?_; refine W_assignInt (by first | rfl | assumption) ?_; refine S_nil ?_; refine CWD_scope ?_; refine CWD_seq ?_; refine CWD_region rfl ?_)
  (refine S_op (W_alloc hS ?_)); intro w c7b hG' c7h c7; replace c7h := Nat.le_trans hG.below.size (Nat.le_of_eq c7h); replace hG := hG.trans hG'; replace hS := hG'.sub; clear hG'
  skip
  (refine S_op0 (W_storeM (o := 0) (vs := [.int .i64 0]) (by rfl) (by rfl) c7 (by rfl) (OneCells.of_all (by rfl)) (by rfl) (Nat.le_of_ble_eq_true (by rfl)) ?_)); intro w hgb' hm'; replace hG := hG.grownBy hgb' (fun g h => by cases h; exact ⟨c7.out, c7h⟩); replace hS := hG.sub; replace c7 : Mut _ w c7b ([.int .i64 0]) := hm'; clear hm'; clear hgb'
  (refine S_nil ?_; refine CWD_seq ?_; refine CWD_label ?_; refine CWD_seq ?_; refine CWD_seq ?_; refine CWD_region rfl ?_; refine S_op ?_; refine W_movePtr (by first | rfl | assumption) ?_; refine S_op ?_; refine W_moveStr (by first | rfl | assumption) ?_)
  (refine S_op ?_; refine W_call hS (by rfl) (from_c _ t k ht) ?_); rintro v H w hG' hv; replace hG := hG.trans hG'; replace hS := hG'.sub; replace ht := ht.mono hG'.le; replace h5 := hG'.le _ _ h5; replace c7 := c7.grow hG'; clear hG'
  obtain ⟨gf, lb, hfc, rfl, hit⟩ := hv
  (refine S_nil ?_; refine CWD_block ?_)
  refine CWD_range (S := fun _ => False) (Hold H0 w0 [c7b] (fun pre H2 w2 => HLe H H2 ∧ Mut H2 w2 c7b [.int .i64 (pre.length : Nat)] ∧ ∀ e ∈ pre, slt e.key k2 = true))
    (exitI 0 (Hold H0 w0 [c7b] (fun pre H2 w2 => ∃ q x, pre = q ++ [x] ∧ Mut H2 w2 c7b [.int .i64 (q.length : Nat)] ∧ (∀ e ∈ q, slt e.key k2 = true) ∧ slt x.key k2 = false)))
    (Hold.good ?_) (exitI.stable (Hold.good ?_).stable) ⟨hG, fun _ h => h.elim, ?_, HLe.refl _, c7, fun _ h => by simp at h⟩
    rfl hS (fun _ => rfl) (by decide) (fun w1 _ => hit H w1 (HLe.refl _)) (fun _ h => h.elim) ?_ ?_ ?_ ?_
  · rintro S pre H w H' w' hs hT ⟨h1, h2, h3⟩
    exact ⟨h1.trans hT.le, h2.turn hT (hs _ (by simp)), h3⟩
  · rintro S pre H w H' w' hs hT ⟨q, x, h1, h2, h3⟩
    exact ⟨q, x, h1, h2.turn hT (hs _ (by simp)), h3⟩
  · intro b hb
    simp at hb; subst hb
    exact ⟨fun h => h, c7.lt⟩
  · intro l x W
    (refine CW_region rfl ?_; refine S_op ?_; refine W_assignStr (by first | rfl | assumption) ?_; refine S_nil ?_)
    refine ⟨rfl, ?_⟩
    intro l X pre rest H W hx hS ⟨hGw, hXs, hbs, hle, c7, hpre⟩ _
    replace h5 := hle _ _ h5
    have hpl : pre.length < 1000000 := by have := congrArg List.length hx; simp at this; omega
    have hG := hGw
    have hS0' := hS
    cases hk : slt x.key k2 with
    | true =>
      (refine CW_block ?_; refine CW_block ?_; refine CW_seq ?_; refine CW_region rfl ?_; refine S_op ?_; refine W_moveStr (by first | rfl | assumption) ?_; refine S_op ?_; refine W_loadHL (by first | rfl | assumption) (by assumption) (by rfl) (by assumption) ?_; refine S_op ?_; refine W_sgeqB (by first | rfl | assumption) (by first | rfl | assumption) (by assumption) ?_; refine S_op ?_; refine W_assignBool (by first | rfl | assumption) ?_; refine S_nil ?_; refine CW_false (by first | rfl | assumption) ?_; refine CW_region rfl ?_; refine S_op ?_; refine W_loadM (by first | rfl | assumption) (by assumption) (by rfl) ?_; refine S_op ?_; refine W_add1 (by first | rfl | assumption) (by omega) ?_)
      (refine S_op0 (W_storeM (o := 0) (vs := [.int .i64 ((pre.length + 1 : Nat) : Int)]) (by rfl) (by rfl) c7 (by rfl) (OneCells.of_all (by rfl)) (by rfl) (Nat.le_of_ble_eq_true (by rfl)) ?_)); intro w hgb' hm'; replace hG := hG.grownBy hgb' (fun g h => by cases h; exact ⟨c7.out, c7h⟩); replace hS := hG.sub; replace c7 : Mut _ w c7b ([.int .i64 ((pre.length + 1 : Nat) : Int)]) := hm'; clear hm'; skip
      have hT : Turn (notIn X) H W H w := (Turn.refl hS0').grownBy hgb' (fun g h => by cases h; exact ⟨c7.out, .inr (hbs c7b (by simp)).1⟩)
      (refine S_nil ?_)
      exact ⟨H, hT, hG, fun j hj => ⟨(hXs j hj).1, Nat.lt_of_lt_of_le (hXs j hj).2 hT.size⟩, fun b hb => ⟨(hbs b hb).1, Nat.lt_of_lt_of_le (hbs b hb).2 hT.size⟩, hle, by rw [List.length_append]; exact c7, by
        intro e he
        rcases List.mem_append.1 he with h | h
        · exact hpre e h
        · simp at h; subst h; exact hk⟩
    | false =>
      (refine CW_block ?_; refine CW_block ?_; refine CW_seq ?_; refine CW_region rfl ?_; refine S_op ?_; refine W_moveStr (by first | rfl | assumption) ?_; refine S_op ?_; refine W_loadHL (by first | rfl | assumption) (by assumption) (by rfl) (by assumption) ?_; refine S_op ?_; refine W_sgeqB (by first | rfl | assumption) (by first | rfl | assumption) (by assumption) ?_; refine S_op ?_; refine W_assignBool (by first | rfl | assumption) ?_; refine S_nil ?_; refine CW_true (by first | rfl | assumption) ?_; refine CW_exit ?_; refine xblk_miss rfl ?_; refine xblk_miss rfl ?_)
      exact ⟨H, Turn.refl hS, rfl, hGw, hXs, hbs, pre, x, rfl, c7, hpre, hk⟩
  · rintro D X H' W' hD hM hS' hle' hXs hXD ⟨hG, hXs2, hbs, hle, c7, hpre⟩
    (refine CWD_seq ?_; refine CWD_region rfl ?_; refine S_op ?_; refine W_loadM (by first | rfl | assumption) (by assumption) (by rfl) ?_; refine S_op ?_; refine W_assignInt (by first | rfl | assumption) ?_; refine S_nil ?_; refine CWD_ret ?_)
    refine FinD_one hM hS' fun w' hT => ?_
    exact ⟨_, ResW_one (v := .int _ _) rfl, H', Turn.grow hG hT (fun k e => by subst e; exact (hXs2 _ hXD).1), by rw [ahead_all hpre]⟩
  · exact fun _ _ _ _ _ _ _ _ _ _ _ _ _ h => False.elim h
  · rintro i D X H' W' pre rest hx hD hM hS' hle' hXs hXD ⟨rfl, hG, hXs2, hbs, q, x, rfl, c7, hq, hk⟩
    (refine CWD_seq ?_; refine CWD_region rfl ?_; refine S_op ?_; refine W_loadM (by first | rfl | assumption) (by assumption) (by rfl) ?_; refine S_op ?_; refine W_assignInt (by first | rfl | assumption) ?_; refine S_nil ?_; refine CWD_ret ?_)
    refine FinD_one hM hS' fun w' hT => ?_
    exact ⟨_, ResW_one (v := .int _ _) rfl, H', Turn.grow hG hT (fun k e => by subst e; exact (hXs2 _ hXD).1), by rw [hx, List.append_assoc, List.singleton_append, ahead_split hq hk]⟩
def keysL (l : List Ent) : List Value := l.map fun e => .string e.key
theorem keysL_len (l : List Ent) : (keysL l).length = l.length := by simp [keysL]
theorem take_c (H : HF) (t : Tr) (k : ByteArray) (m : Int) (ht : Tr.At H t) (hb : t.items.length ≤ 1000000) : Fn Try.prog 18 [t.val, .string k, .int .i64 m] H fun v H' => IsSl 1 v ((fromL k t.items).take m.toNat).length (keysL ((fromL k t.items).take m.toNat)) H' := by
  obtain ⟨H0, rfl⟩ : ∃ H0, H0 = H := ⟨_, rfl⟩
  have hlen : (fromL k t.items).length ≤ 1000000 := Nat.le_trans (List.length_filter_le _ _) hb
  refine Fn_of_CWD Try.func18 rfl Try.ntmps18 Try.results18 rfl fun w0 hS => ?_; have hS0 := hS; have hG := Grow.refl hS
  (refine CWD_seq ?_; refine CWD_region rfl ?_)
  (refine S_op (W_box1 hS (by rfl) (by first | rfl | assumption) ?_)); intro H w _ hG' h5; replace hG := hG.trans hG'; replace hS := hG'.sub; replace ht := ht.mono hG'.le; clear hG'
  (refine S_op ?_; refine W_assignSl (by first | rfl | assumption) ?_; refine S_nil ?_; refine CWD_seq ?_; refine CWD_region rfl ?_)
  (refine S_op (W_alloc hS ?_)); intro w c7b hG' c7h c7; replace c7h := Nat.le_trans hG.below.size (Nat.le_of_eq c7h); replace hG := hG.trans hG'; replace hS := hG'.sub; clear hG'
  (refine S_nil ?_; refine CWD_seq ?_; refine CWD_seq ?_; refine CWD_region rfl ?_; refine S_op ?_; refine W_movePtr (by first | rfl | assumption) ?_; refine S_op ?_; refine W_moveStr (by first | rfl | assumption) ?_)
  (refine S_op ?_; refine W_call hS (by rfl) (entriesI_c _ t k ht) ?_); rintro v H w hG' hv; replace hG := hG.trans hG'; replace hS := hG'.sub; replace ht := ht.mono hG'.le; replace h5 := hG'.le _ _ h5; replace c7 := c7.grow hG'; clear hG'
  obtain ⟨gf, lb, hfc, rfl, hit⟩ := hv
  (refine S_nil ?_; refine CWD_block ?_)
  refine CWD_rangeBox (S := fun _ => False) (HoldO H0 w0 [c7b] 9 1 keysL (fun A n c pre H2 w2 => HLe H H2 ∧ Mut H2 w2 c7b [.slice A n c] ∧ n = pre.length ∧ (∀ a, A = some a → a.block ≠ c7b) ∧ (pre.length : Int) ≤ max m 0))
    (exitI 0 (HoldO H0 w0 [c7b] 9 1 (fun pre => keysL pre.dropLast) (fun A n c pre H2 w2 => Mut H2 w2 c7b [.slice A n c] ∧ n = pre.dropLast.length ∧ pre ≠ [] ∧ (pre.dropLast.length : Int) ≤ max m 0 ∧ m ≤ (pre.dropLast.length : Int))))
    (HoldO.good ?_) (exitI.stable (HoldO.good ?_).stable) ⟨hG, fun _ h => h.elim, ?_, none, 0, 0, Own.nil _ _ _ _ _, (fun _ h => by cases h), HLe.refl _, c7, rfl, (fun _ h => by cases h), by simp; omega⟩
    rfl hS (fun _ => rfl) (by decide) (fun w1 _ => hit H w1 (HLe.refl _)) (fun _ h => h.elim) ?_ ?_ ?_ ?_
  · rintro A n c S pre H w H' w' hs hT ⟨h1, h2, h3⟩
    exact ⟨h1.trans hT.le, h2.turn hT (hs _ (by simp)), h3⟩
  · rintro A n c S pre H w H' w' hs hT ⟨h2, h3⟩
    exact ⟨h2.turn hT (hs _ (by simp)), h3⟩
  · intro b hb
    simp at hb; subst hb
    exact ⟨fun h => h, c7.lt⟩
  · intro l x H1 W hS
    have hG := Grow.refl hS
    (refine CW_region rfl ?_)
    (refine S_op (W_alloc hS ?_)); intro w c8b hG' c8h c8; replace c8h := Nat.le_trans hG.below.size (Nat.le_of_eq c8h); replace hG := hG.trans hG'; replace hS := hG'.sub; clear hG'
    skip
    (refine S_op0 (W_storeM (o := 0) (vs := [.string x.key, .string x.val]) (by rfl) (by rfl) c8 (by rfl) (OneCells.of_all (by rfl)) (by rfl) (Nat.le_of_ble_eq_true (by rfl)) ?_)); intro w hgb' hm'; replace hG := hG.grownBy hgb' (fun g h => by cases h; exact ⟨c8.out, c8h⟩); replace hS := hG.sub; replace c8 : Mut _ w c8b ([.string x.key, .string x.val]) := hm'; clear hm'; clear hgb'
    (refine S_nil ?_)
    refine ⟨c8b, _, c8h, hG, c8, ?_⟩
    clear c8 hG hS
    rintro l X pre rest H W hx hS ⟨hGw, hXs, hbs, A, n, c, hown, hXA, hle, c7, rfl, hA7, hpm⟩ ⟨hX8, c8⟩
    replace h5 := hle _ _ h5
    have hpl : pre.length < 1000000 := by have := congrArg List.length hx; simp at this; omega
    have hG := hGw
    have hS0' := hS
    by_cases hk : m ≤ (pre.length : Int)
    · (refine CW_block ?_; refine CW_seq ?_; refine CW_seq ?_; refine CW_region rfl ?_; refine S_op ?_; refine W_loadM (by first | rfl | assumption) (by assumption) (by rfl) ?_; refine S_op ?_; refine W_len (by first | rfl | assumption) ?_; refine S_op ?_; refine W_loadHL (by first | rfl | assumption) (by assumption) (by rfl) (by assumption) ?_; refine S_op ?_; refine W_geqT (by first | rfl | assumption) (by first | rfl | assumption) (by first | omega | rfl) ?_; refine S_nil ?_; refine CW_true (by first | rfl | assumption) ?_; refine CW_exit ?_; refine xblk_miss rfl ?_)
      exact ⟨H, Turn.refl hS, rfl, hGw, hXs, hbs, A, _, c, by show Own _ _ _ _ _ _ _ _ (keysL (pre ++ [x]).dropLast); rw [List.dropLast_concat]; exact hown, hXA, c7, by simp, by simp, by simpa using hpm, by simpa using hk⟩
    · (refine CW_block ?_; refine CW_seq ?_; refine CW_seq ?_; refine CW_region rfl ?_; refine S_op ?_; refine W_loadM (by first | rfl | assumption) (by assumption) (by rfl) ?_; refine S_op ?_; refine W_len (by first | rfl | assumption) ?_; refine S_op ?_; refine W_loadHL (by first | rfl | assumption) (by assumption) (by rfl) (by assumption) ?_; refine S_op ?_; refine W_geqF (by first | rfl | assumption) (by first | rfl | assumption) (by first | omega | rfl) ?_; refine S_nil ?_; refine CW_false (by first | rfl | assumption) ?_; refine CW_skip ?_; refine CW_region rfl ?_; refine S_op ?_; refine W_loadM (by first | rfl | assumption) (by assumption) (by rfl) ?_; refine S_op ?_; refine W_field (by first | rfl | assumption) ?_; refine S_op ?_; refine W_loadM (by first | rfl | assumption) (by assumption) (by rfl) ?_)
      refine S_op ?_
      refine W_build1 (sz := 1) (v := .string x.key) hS (by omega) (by rfl) (by rfl) ?_
      intro H2 w2 b hG' hb' _ _
      have hT := hG'.turn (S := notIn X)
      have hsz2 := hG'.below.size
      replace hG := hG.trans hG'
      replace hS := hG'.sub
      replace hown := hown.grow hG'
      replace c7 := c7.grow hG'
      replace hle := hle.trans hG'.le
      clear hG' c8
      refine S_op ?_
      refine W_append (news := [.string x.key]) (by rfl) (by rfl) hG hown ((SlAt.of_row hb').cells hS) (by rfl) (by intro u hu; simp at hu; subst hu; rfl) (by decide) (by omega) (by omega) ?_
      intro A2 c2 w3 hG2 hown2 hgb hA2
      have h7A : (Value.slice A pre.length c).ownBlock ≠ some c7b := by
        cases A with
        | none => simp [Value.ownBlock]
        | some a => simpa [Value.ownBlock] using hA7 a rfl
      replace c7 := c7.other hgb h7A
      replace hT := hT.grownBy hgb (fun g h => by
        cases A with
        | none => simp [Value.ownBlock] at h
        | some a => simp [Value.ownBlock] at h; subst h; exact ⟨hown.out a rfl, .inr (hXA a rfl)⟩)
      have hn2 : ∀ a, A2 = some a → a.block ≠ c7b := by
        intro a ha
        rcases hA2 with ⟨rfl, _⟩ | ⟨g, rfl, hg⟩
        · exact hA7 a ha
        · cases ha; have := (hbs c7b (by simp)).2; show g ≠ c7b; omega
      have hX2 : ∀ a, A2 = some a → ¬ X a.block := by
        intro a ha h
        rcases hA2 with ⟨rfl, _⟩ | ⟨g, rfl, hg⟩
        · exact hXA a ha h
        · cases ha; have := (hXs g h).2; have := hT.size; omega
      replace hG := hG2
      replace hS := hG2.sub
      skip
      (refine S_op0 (W_storeM (o := 0) (vs := [.slice A2 (pre.length + 1) c2]) (by rfl) (by rfl) c7 (by rfl) (OneCells.of_all (by rfl)) (by rfl) (Nat.le_of_ble_eq_true (by rfl)) ?_)); intro w hgb' hm'; replace hG := hG.grownBy hgb' (fun g h => by cases h; exact ⟨c7.out, c7h⟩); replace hS := hG.sub; replace c7 : Mut _ w c7b ([.slice A2 (pre.length + 1) c2]) := hm'; clear hm'; skip
      replace hT := hT.grownBy hgb' (fun g h => by cases h; exact ⟨c7.out, .inr (hbs c7b (by simp)).1⟩)
      replace hown2 := hown2.other hgb' (fun a ha e => hn2 a ha (Option.some.inj e))
      (refine S_nil ?_)
      exact ⟨H2, hT, hG, fun j hj => ⟨(hXs j hj).1, Nat.lt_of_lt_of_le (hXs j hj).2 hT.size⟩, fun b hb => ⟨(hbs b hb).1, Nat.lt_of_lt_of_le (hbs b hb).2 hT.size⟩, A2, _, c2, by simpa [keysL] using hown2, hX2, hle, c7, by simp, hn2, by simp; omega⟩
  · rintro D X H' W' hD hM hS' hle' hXs hXD ⟨hG, hXs2, hbs, A, n, c, hown, hXA, hle, c7, rfl, hA7, hpm⟩
    have e : (fromL k t.items).take m.toNat = fromL k t.items := List.take_of_length_le (by omega)
    rw [e]
    (refine CWD_seq ?_; refine CWD_region rfl ?_; refine S_op ?_; refine W_loadM (by first | rfl | assumption) (by assumption) (by rfl) ?_; refine S_op ?_; refine W_assignSl (by first | rfl | assumption) ?_; refine S_nil ?_; refine CWD_ret ?_)
    refine FinD_one hM hS' fun w' hT => ?_
    have hG2 := Turn.grow hG hT (fun k e => by subst e; exact (hXs2 _ hXD).1)
    replace hown := hown.turn hT (fun a ha e => hXA a ha (e ▸ hXD))
    obtain ⟨H3, hle3, hG3, hsl3, _⟩ := hown.freeze hG2
    exact ⟨_, ResW_one (v := .slice _ _ _) rfl, H3, hG3, A, c, rfl, hown.cap, hsl3, by rw [keysL_len]; omega⟩
  · exact fun _ _ _ _ _ _ _ _ _ _ _ _ _ h => False.elim h
  · rintro i D X H' W' pre rest hx hD hM hS' hle' hXs hXD ⟨rfl, hG, hXs2, hbs, A, n, c, hown, hXA, c7, rfl, hne, hpm, hmp⟩
    obtain ⟨q, x, rfl⟩ : ∃ q x, pre = q ++ [x] := ⟨pre.dropLast, pre.getLast hne, (List.dropLast_concat_getLast hne).symm⟩
    simp only [List.dropLast_concat] at *
    have e : (fromL k t.items).take m.toNat = q := by
      rw [hx, List.append_assoc, List.take_append_of_le_length (by omega)]
      exact List.take_of_length_le (by omega)
    rw [e]
    (refine CWD_seq ?_; refine CWD_region rfl ?_; refine S_op ?_; refine W_loadM (by first | rfl | assumption) (by assumption) (by rfl) ?_; refine S_op ?_; refine W_assignSl (by first | rfl | assumption) ?_; refine S_nil ?_; refine CWD_ret ?_)
    refine FinD_one hM hS' fun w' hT => ?_
    have hG2 := Turn.grow hG hT (fun k e => by subst e; exact (hXs2 _ hXD).1)
    replace hown := hown.turn hT (fun a ha e => hXA a ha (e ▸ hXD))
    obtain ⟨H3, hle3, hG3, hsl3, _⟩ := hown.freeze hG2
    exact ⟨_, ResW_one (v := .slice _ _ _) rfl, H3, hG3, A, c, rfl, hown.cap, hsl3, by rw [keysL_len]; omega⟩
end Go.Proofs.Ytgaabmoknpifnaa
/- Arguments that are entries, opened. Conditions: each law's own premises. -/
namespace Go.Proofs.Ytgaabmoknpifnaa
open Go.Proofs Go.RowKit
set_option linter.unusedVariables false
def SmallE (e : Ent) : Prop := e.key.size ≤ reachBytes ∧ e.val.size ≤ reachBytes
def Small (l : List Ent) : Prop := ∀ e ∈ l, SmallE e
def entCell (e : Ent) : List Value := [.string e.key, .string e.val]
theorem entCells_flat (l : List Ent) : (l.map entCell).flatten = entCells l := by
  induction l with
  | nil => rfl
  | cons e l ih => simp [entCells, entCell, ih]
section
variable {H : Type} {enc : TypeId × Value → H} {W : World}
theorem readEnt {cs : List Value} (h : Trd enc Try.prog W 32 cs) : ∃ e, cs = entCell e ∧ SmallE e := by
  obtain ⟨h1, h2, h3, _⟩ := h.struct
  match cs, h1 with
  | [a, b], _ =>
    obtain ⟨s, h4, h5⟩ := h2.str
    obtain ⟨u, h6, h7⟩ := h3.str
    simp at h4 h6
    subst h4 h6
    exact ⟨⟨s, u⟩, rfl, h5, h7⟩
theorem readEnts {v : Value} (h : Trd enc Try.prog W 22 [v]) : ∃ A c l, v = .slice A l.length c ∧ l.length ≤ c ∧ EntsAt (snap W) A l ∧ Small l ∧ l.length * 32 ≤ reachBytes ∧ (A = none → l.length = 0 ∧ c = 0) := by
  obtain ⟨A, n, c, css, hv, h2, h3, h4, h5, h6, h7⟩ := h.slice
  obtain ⟨l, rfl, hl⟩ := decode entCell SmallE css (fun x hx => readEnt (h4 x hx).1)
  simp at h3 hv
  subst h3
  rw [entCells_flat] at h5
  exact ⟨A, c, l, hv, h2, h5, hl, h6, h7⟩
theorem openEnts {v : Value} (h : Opn enc Try.prog W 22 v) : ∃ A c l, v = .slice A l.length c ∧ l.length ≤ c ∧ EntsAt (snap W) A l ∧ Small l ∧ l.length * 32 ≤ reachBytes ∧ (A = none → l.length = 0 ∧ c = 0) := by
  obtain ⟨A, n, c, css, rfl, _⟩ := h.slice
  exact readEnts h.2
theorem openEnt {v : Value} (h : Opn enc Try.prog W 32 v) : ∃ e, v = .agg #[.string e.key, .string e.val] ∧ SmallE e := by
  obtain ⟨cs, rfl, _, _⟩ := h.struct
  obtain ⟨e, h1, h2⟩ := readEnt h.2
  simp [Value.cells] at h1
  subst h1
  exact ⟨e, rfl, h2⟩
end
end Go.Proofs.Ytgaabmoknpifnaa
/- Helpers of the laws of layer 11: awake, built, first; the reference's From and Count. Conditions: sizes. -/
namespace Go.Proofs.Ytgaabmoknpifnaa
open Go.Proofs Go.RowKit
set_option linter.unusedVariables false
attribute [local irreducible] CW CWD SeqW OpW CallV
set_option maxHeartbeats 4000000
theorem first_c (H : HF) (A : Option Addr) (c : Nat) (l : List Ent) (n : Int) (hc : l.length ≤ c) (hb : l.length ≤ 1000000) :
    Fn Try.prog 16 [.slice A l.length c, .int .i64 n] H fun v _ => v = .slice A (l.take n.toNat).length c := by
  refine Fn_of_CW Try.func16 rfl Try.ntmps16 Try.results16 rfl fun w hS => ?_; have hG := Grow.refl hS; have hS0 := hS
  (refine CW_seq ?_; refine CW_region rfl ?_; refine S_op ?_; refine W_assignSl (by first | rfl | assumption) ?_; refine S_nil ?_; refine CW_seq ?_; refine CW_region rfl ?_; refine S_op ?_; refine W_moveSl (by first | rfl | assumption) ?_; refine S_op ?_; refine W_moveInt (by first | rfl | assumption) ?_; refine S_op ?_; refine W_moveSl (by first | rfl | assumption) ?_; refine S_op ?_; refine W_len (by first | rfl | assumption) ?_)
  refine S_op ?_
  refine W_min2 (by rfl) (by rfl) (q := min n l.length) rfl ?_
  skip
  refine S_op ?_
  refine W_max2 (by rfl) (by rfl) (q := ((l.take n.toNat).length : Int)) (by rw [List.length_take]; omega) ?_
  have h2 : (l.take n.toNat).length ≤ c := by rw [List.length_take]; omega
  (refine S_op ?_; refine W_sliceHi (by first | rfl | assumption) (by first | rfl | assumption) (by omega) ?_; refine S_op ?_; refine W_assignSl (by first | rfl | assumption) ?_; refine S_nil ?_; refine CW_ret ?_)
  exact ⟨_, ResW_one (v := .slice _ _ _) rfl, H, hG, rfl⟩
theorem rFrom_c (H0 : HF) (A : Option Addr) (c : Nat) (l : List Ent) (k : ByteArray) (hl : EntsAt H0 A l) (hb : l.length ≤ 1000000) :
    Fn Try.prog 17 [.slice A l.length c, .string k] H0 fun v H' => IsEnts v (fromL k l) H' := by
  refine Fn_of_CW Try.func17 rfl Try.ntmps17 Try.results17 rfl fun w0 hS => ?_; have hG := Grow.refl hS
  (refine CW_seq ?_; refine CW_region rfl ?_; refine S_op ?_; refine W_assignSl (by first | rfl | assumption) ?_; refine S_nil ?_; refine CW_seq ?_; refine CW_region rfl ?_; refine S_op ?_; refine W_assignSl (by first | rfl | assumption) ?_; refine S_nil ?_; refine CW_seq ?_; refine CW_seq ?_; refine CW_region rfl ?_; refine S_op ?_; refine W_moveSl (by first | rfl | assumption) ?_; refine S_op ?_; refine W_len (by first | rfl | assumption) ?_; refine S_op ?_; refine W_moveInt (by first | rfl | assumption) ?_; refine S_nil ?_; refine CW_block ?_)
  refine CW_loopM [5, 6, 9, 10, 11, 12, 13, 14, 15, 16, 17, 18, 19, 20, 21, 22, 23, 24, 25, 26]
    (fun m u w2 => ∃ (i : Nat) (A2 : Option Addr) (c2 : Nat) (H2 : HF), u 9 = .int .i64 (i : Int) ∧ u 5 = .slice A2 (fromL k (l.take i)).length c2 ∧ Grow H0 w0 H2 w2 ∧ Own H2 w2 w0.heap.size 32 2 A2 (fromL k (l.take i)).length c2 (entCells (fromL k (l.take i))) ∧ i ≤ l.length ∧ l.length - i ≤ m)
    (m := l.length) ⟨0, none, 0, H0, rfl, rfl, hG, Own.nil _ _ _ _ _, by omega, by omega⟩ ?_
  rintro m u w ⟨i, A2, c2, H, h9, h5, hG, hown, hi, hm⟩
  have hS := hG.sub
  replace hl := hl.mono hG.le
  have hfl : (fromL k (l.take i)).length ≤ 1000000 := Nat.le_trans (List.length_filter_le _ _) (by simp; omega)
  by_cases hlt : i < l.length
  · obtain ⟨b, off, hA, hrow⟩ := hl.some hlt
    have hft := fromL_take (k := k) hlt
    cases hk : slt (ent l i).key k with
    | true =>
      rw [hk] at hft
      have e : fromL k (l.take (i + 1)) = fromL k (l.take i) := by rw [hft]; simp
      (refine CW_seq ?_; refine CW_region rfl ?_; refine S_op ?_; refine W_lssT (by first | rfl | assumption) (by first | rfl | assumption) (by first | omega | rfl) ?_; refine S_nil ?_; refine CW_seq ?_; refine CW_true (by first | rfl | assumption) ?_; refine CW_skip ?_; refine CW_seq ?_; refine CW_block ?_; refine CW_seq ?_; refine CW_region rfl ?_; refine S_op ?_; refine W_moveInt (by first | rfl | assumption) ?_; refine S_op ?_; refine W_assignInt (by first | rfl | assumption) ?_; refine S_nil ?_; refine CW_seq ?_; refine CW_region rfl ?_; refine S_op ?_; refine W_moveSl (by first | rfl | assumption) ?_; refine S_op ?_; refine W_moveInt (by first | rfl | assumption) ?_; refine S_op ?_; refine W_index (by first | rfl | assumption) (by first | rfl | assumption) (by first | assumption | omega | decide) (by first | rfl | assumption) ?_; refine S_op ?_; refine W_field (by first | rfl | assumption) ?_; refine S_op ?_; refine W_loadKey (by first | rfl | assumption) (by assumption) (by first | assumption | omega) (by assumption) ?_; refine S_op ?_; refine W_moveStr (by first | rfl | assumption) ?_; refine S_op ?_; refine W_sgeqB (by first | rfl | assumption) (by first | rfl | assumption) (by assumption) ?_; refine S_nil ?_; refine CW_false (by first | rfl | assumption) ?_; refine CW_skip ?_; refine CW_region rfl ?_; refine S_op ?_; refine W_add1 (by first | rfl | assumption) (by omega) ?_; refine S_op ?_; refine W_moveInt (by first | rfl | assumption) ?_; refine S_nil ?_)
      exact ⟨(by repeat (first | exact AgreeOff.over | refine AgreeOff.upd rfl ?_ | refine AgreeOff.over2 rfl ?_)), m - 1, by omega, i + 1, A2, c2, H, rfl, by rw [e]; exact h5, hG, by rw [e]; exact hown, by omega, by omega⟩
    | false =>
      rw [hk] at hft
      have e : fromL k (l.take (i + 1)) = fromL k (l.take i) ++ [ent l i] := by rw [hft]; simp
      have e2 : (fromL k (l.take (i + 1))).length = (fromL k (l.take i)).length + 1 := by rw [e]; simp
      (refine CW_seq ?_; refine CW_region rfl ?_; refine S_op ?_; refine W_lssT (by first | rfl | assumption) (by first | rfl | assumption) (by first | omega | rfl) ?_; refine S_nil ?_; refine CW_seq ?_; refine CW_true (by first | rfl | assumption) ?_; refine CW_skip ?_; refine CW_seq ?_; refine CW_block ?_; refine CW_seq ?_; refine CW_region rfl ?_; refine S_op ?_; refine W_moveInt (by first | rfl | assumption) ?_; refine S_op ?_; refine W_assignInt (by first | rfl | assumption) ?_; refine S_nil ?_; refine CW_seq ?_; refine CW_region rfl ?_; refine S_op ?_; refine W_moveSl (by first | rfl | assumption) ?_; refine S_op ?_; refine W_moveInt (by first | rfl | assumption) ?_; refine S_op ?_; refine W_index (by first | rfl | assumption) (by first | rfl | assumption) (by first | assumption | omega | decide) (by first | rfl | assumption) ?_; refine S_op ?_; refine W_field (by first | rfl | assumption) ?_; refine S_op ?_; refine W_loadKey (by first | rfl | assumption) (by assumption) (by first | assumption | omega) (by assumption) ?_; refine S_op ?_; refine W_moveStr (by first | rfl | assumption) ?_; refine S_op ?_; refine W_sgeqB (by first | rfl | assumption) (by first | rfl | assumption) (by assumption) ?_; refine S_nil ?_; refine CW_true (by first | rfl | assumption) ?_; refine CW_region rfl ?_; refine S_op ?_; refine W_moveSl (by first | rfl | assumption) ?_; refine S_op ?_; refine W_moveSl (by first | rfl | assumption) ?_; refine S_op ?_; refine W_moveInt (by first | rfl | assumption) ?_; refine S_op ?_; refine W_index (by first | rfl | assumption) (by first | rfl | assumption) (by first | assumption | omega | decide) (by first | rfl | assumption) ?_; refine S_op ?_; refine W_loadEnt (by first | rfl | assumption) (by assumption) (by first | assumption | omega) (by assumption) ?_)
      refine S_op ?_
      refine W_build1 (sz := 2) (v := .agg #[.string (ent l i).key, .string (ent l i).val]) hS (by omega) (by rfl) (by rfl) ?_
      intro H w b hG' hb' _ _
      replace hG := hG.trans hG'
      replace hS := hG'.sub
      replace hl := hl.mono hG'.le
      replace hown := hown.grow hG'
      clear hG'
      refine S_op ?_
      refine W_append (news := entCells [ent l i]) (by rfl) (by rfl) hG hown ((SlAt.of_row hb').cells hS) (by rfl) (entCells_one _) (by decide) (by omega) (by omega) ?_
      intro A2 c2 w hG hown _ hA3
      clear hA3
      rw [← entCells_append] at hown
      replace hS := hG.sub
      rw [← e] at hown
      (refine S_op ?_; refine W_assignSl (by first | rfl | assumption) ?_; refine S_nil ?_; refine CW_region rfl ?_; refine S_op ?_; refine W_add1 (by first | rfl | assumption) (by omega) ?_; refine S_op ?_; refine W_moveInt (by first | rfl | assumption) ?_; refine S_nil ?_)
      exact ⟨(by repeat (first | exact AgreeOff.over | refine AgreeOff.upd rfl ?_ | refine AgreeOff.over2 rfl ?_)), m - 1, by omega, i + 1, A2, c2, H, rfl, by rw [e2]; rfl, hG, by rw [e2]; exact hown, by omega, by omega⟩
  · have hin : i = l.length := by omega
    subst hin
    rw [List.take_length] at h5 hown
    (refine CW_seq ?_; refine CW_region rfl ?_; refine S_op ?_; refine W_lssF (by first | rfl | assumption) (by first | rfl | assumption) (by first | omega | rfl) ?_; refine S_nil ?_; refine CW_seq ?_; refine CW_false (by first | rfl | assumption) ?_; refine CW_exit ?_; refine CW_seq ?_; refine CW_region rfl ?_; refine S_op ?_; refine W_moveSl (by first | rfl | assumption) ?_; refine S_op ?_; refine W_assignSl (by first | rfl | assumption) ?_; refine S_nil ?_; refine CW_ret ?_)
    obtain ⟨H3, hle3, hG3, hsl3, _⟩ := hown.freeze hG
    exact ⟨_, ResW_one (v := .slice _ _ _) rfl, H3, hG3, A2, c2, rfl, hown.cap, hsl3⟩
def countL (k k2 : ByteArray) (l : List Ent) : Nat := (l.filter fun e => !slt e.key k && slt e.key k2).length
theorem countL_take {k k2 : ByteArray} {l : List Ent} {i : Nat} (h : i < l.length) : countL k k2 (l.take (i + 1)) = countL k k2 (l.take i) + (if (!slt (ent l i).key k && slt (ent l i).key k2) = true then 1 else 0) := by
  have e : l[i] = ent l i := by simp [ent, h]
  rw [take_succ' h, countL, List.filter_append, List.length_append, e]
  congr 1
  cases hs : (!slt (ent l i).key k && slt (ent l i).key k2) <;> simp [hs]
theorem rCount_c (H : HF) (A : Option Addr) (c : Nat) (l : List Ent) (k k2 : ByteArray) (hl : EntsAt H A l) (hb : l.length ≤ 1000000) :
    Fn Try.prog 20 [.slice A l.length c, .string k, .string k2] H fun v _ => v = .int .i64 (countL k k2 l : Nat) := by
  refine Fn_of_CW Try.func20 rfl Try.ntmps20 Try.results20 rfl fun w hS => ?_; have hG := Grow.refl hS; have hS0 := hS
  (refine CW_seq ?_; refine CW_region rfl ?_; refine S_op ?_; refine W_assignInt (by first | rfl | assumption) ?_; refine S_nil ?_; refine CW_seq ?_; refine CW_region rfl ?_; refine S_op ?_; refine W_assignInt (by first | rfl | assumption) ?_; refine S_nil ?_; refine CW_seq ?_; refine CW_seq ?_; refine CW_region rfl ?_; refine S_op ?_; refine W_moveSl (by first | rfl | assumption) ?_; refine S_op ?_; refine W_len (by first | rfl | assumption) ?_; refine S_op ?_; refine W_moveInt (by first | rfl | assumption) ?_; refine S_nil ?_; refine CW_block ?_)
  refine CW_loopM [7, 8, 11, 12, 13, 14, 15, 16, 17, 18, 19, 20, 21, 22, 23, 24, 25, 26, 27, 28, 29, 30, 31, 32]
    (fun m u w2 => ∃ (i : Nat), u 11 = .int .i64 (i : Int) ∧ u 7 = .int .i64 (countL k k2 (l.take i) : Nat) ∧ w2 = w ∧ i ≤ l.length ∧ l.length - i ≤ m)
    (m := l.length) ⟨0, rfl, rfl, rfl, by omega, by omega⟩ ?_
  rintro m u w2 ⟨i, h11, h7, rfl, hi, hm⟩
  have hfl : countL k k2 (l.take i) ≤ 1000000 := Nat.le_trans (List.length_filter_le _ _) (by simp; omega)
  by_cases hlt : i < l.length
  · obtain ⟨b, off, hA, hrow⟩ := hl.some hlt
    have hft := countL_take (k := k) (k2 := k2) hlt
    cases hk : slt (ent l i).key k with
    | true =>
      rw [hk] at hft
      simp at hft
      (refine CW_seq ?_; refine CW_region rfl ?_; refine S_op ?_; refine W_lssT (by first | rfl | assumption) (by first | rfl | assumption) (by first | omega | rfl) ?_; refine S_nil ?_; refine CW_seq ?_; refine CW_true (by first | rfl | assumption) ?_; refine CW_skip ?_; refine CW_seq ?_; refine CW_block ?_; refine CW_seq ?_; refine CW_region rfl ?_; refine S_op ?_; refine W_moveInt (by first | rfl | assumption) ?_; refine S_op ?_; refine W_assignInt (by first | rfl | assumption) ?_; refine S_nil ?_; refine CW_seq ?_; refine CW_region rfl ?_; refine S_op ?_; refine W_moveSl (by first | rfl | assumption) ?_; refine S_op ?_; refine W_moveInt (by first | rfl | assumption) ?_; refine S_op ?_; refine W_index (by first | rfl | assumption) (by first | rfl | assumption) (by first | assumption | omega | decide) (by first | rfl | assumption) ?_; refine S_op ?_; refine W_field (by first | rfl | assumption) ?_; refine S_op ?_; refine W_loadKey (by first | rfl | assumption) (by assumption) (by first | assumption | omega) (by assumption) ?_; refine S_op ?_; refine W_moveStr (by first | rfl | assumption) ?_; refine S_op ?_; refine W_sgeqB (by first | rfl | assumption) (by first | rfl | assumption) (by assumption) ?_; refine S_op ?_; refine W_moveBool (by first | rfl | assumption) ?_; refine S_pass (by rfl) ?_; refine S_pass (by rfl) ?_; refine S_pass (by rfl) ?_; refine S_pass (by rfl) ?_; refine S_pass (by rfl) ?_; refine S_pass (by rfl) ?_; refine S_pass (by rfl) ?_; refine S_op ?_; refine W_pickF (by first | rfl | assumption) (by first | rfl | assumption) ?_; refine S_nil ?_; refine CW_false (by first | rfl | assumption) ?_; refine CW_skip ?_; refine CW_region rfl ?_; refine S_op ?_; refine W_add1 (by first | rfl | assumption) (by omega) ?_; refine S_op ?_; refine W_moveInt (by first | rfl | assumption) ?_; refine S_nil ?_)
      exact ⟨(by repeat (first | exact AgreeOff.over | refine AgreeOff.upd rfl ?_ | refine AgreeOff.over2 rfl ?_)), m - 1, by omega, i + 1, rfl, by rw [hft]; exact h7, rfl, by omega, by omega⟩
    | false =>
      cases hk2 : slt (ent l i).key k2 with
      | true =>
        rw [hk, hk2] at hft
        simp at hft
        (refine CW_seq ?_; refine CW_region rfl ?_; refine S_op ?_; refine W_lssT (by first | rfl | assumption) (by first | rfl | assumption) (by first | omega | rfl) ?_; refine S_nil ?_; refine CW_seq ?_; refine CW_true (by first | rfl | assumption) ?_; refine CW_skip ?_; refine CW_seq ?_; refine CW_block ?_; refine CW_seq ?_; refine CW_region rfl ?_; refine S_op ?_; refine W_moveInt (by first | rfl | assumption) ?_; refine S_op ?_; refine W_assignInt (by first | rfl | assumption) ?_; refine S_nil ?_; refine CW_seq ?_; refine CW_region rfl ?_; refine S_op ?_; refine W_moveSl (by first | rfl | assumption) ?_; refine S_op ?_; refine W_moveInt (by first | rfl | assumption) ?_; refine S_op ?_; refine W_index (by first | rfl | assumption) (by first | rfl | assumption) (by first | assumption | omega | decide) (by first | rfl | assumption) ?_; refine S_op ?_; refine W_field (by first | rfl | assumption) ?_; refine S_op ?_; refine W_loadKey (by first | rfl | assumption) (by assumption) (by first | assumption | omega) (by assumption) ?_; refine S_op ?_; refine W_moveStr (by first | rfl | assumption) ?_; refine S_op ?_; refine W_sgeqB (by first | rfl | assumption) (by first | rfl | assumption) (by assumption) ?_; refine S_op ?_; refine W_moveBool (by first | rfl | assumption) ?_; refine S_want (by rfl) ?_; refine W_moveSl (by first | rfl | assumption) ?_; refine S_want (by rfl) ?_; refine W_moveInt (by first | rfl | assumption) ?_; refine S_want (by rfl) ?_; refine W_index (by first | rfl | assumption) (by first | rfl | assumption) (by first | assumption | omega | decide) (by first | rfl | assumption) ?_; refine S_want (by rfl) ?_; refine W_field (by first | rfl | assumption) ?_; refine S_want (by rfl) ?_; refine W_loadKey (by first | rfl | assumption) (by assumption) (by first | assumption | omega) (by assumption) ?_; refine S_want (by rfl) ?_; refine W_moveStr (by first | rfl | assumption) ?_; refine S_want (by rfl) ?_; refine W_slssB (by first | rfl | assumption) (by first | rfl | assumption) (by assumption) ?_; refine S_op ?_; refine W_pickT (by first | rfl | assumption) (by first | rfl | assumption) ?_; refine S_nil ?_; refine CW_true (by first | rfl | assumption) ?_; refine CW_region rfl ?_; refine S_op ?_; refine W_moveInt (by first | rfl | assumption) ?_; refine S_op ?_; refine W_add1 (by first | rfl | assumption) (by omega) ?_; refine S_op ?_; refine W_assignInt (by first | rfl | assumption) ?_; refine S_nil ?_; refine CW_region rfl ?_; refine S_op ?_; refine W_add1 (by first | rfl | assumption) (by omega) ?_; refine S_op ?_; refine W_moveInt (by first | rfl | assumption) ?_; refine S_nil ?_)
        exact ⟨(by repeat (first | exact AgreeOff.over | refine AgreeOff.upd rfl ?_ | refine AgreeOff.over2 rfl ?_)), m - 1, by omega, i + 1, rfl, by rw [hft]; rfl, rfl, by omega, by omega⟩
      | false =>
        rw [hk, hk2] at hft
        simp at hft
        (refine CW_seq ?_; refine CW_region rfl ?_; refine S_op ?_; refine W_lssT (by first | rfl | assumption) (by first | rfl | assumption) (by first | omega | rfl) ?_; refine S_nil ?_; refine CW_seq ?_; refine CW_true (by first | rfl | assumption) ?_; refine CW_skip ?_; refine CW_seq ?_; refine CW_block ?_; refine CW_seq ?_; refine CW_region rfl ?_; refine S_op ?_; refine W_moveInt (by first | rfl | assumption) ?_; refine S_op ?_; refine W_assignInt (by first | rfl | assumption) ?_; refine S_nil ?_; refine CW_seq ?_; refine CW_region rfl ?_; refine S_op ?_; refine W_moveSl (by first | rfl | assumption) ?_; refine S_op ?_; refine W_moveInt (by first | rfl | assumption) ?_; refine S_op ?_; refine W_index (by first | rfl | assumption) (by first | rfl | assumption) (by first | assumption | omega | decide) (by first | rfl | assumption) ?_; refine S_op ?_; refine W_field (by first | rfl | assumption) ?_; refine S_op ?_; refine W_loadKey (by first | rfl | assumption) (by assumption) (by first | assumption | omega) (by assumption) ?_; refine S_op ?_; refine W_moveStr (by first | rfl | assumption) ?_; refine S_op ?_; refine W_sgeqB (by first | rfl | assumption) (by first | rfl | assumption) (by assumption) ?_; refine S_op ?_; refine W_moveBool (by first | rfl | assumption) ?_; refine S_want (by rfl) ?_; refine W_moveSl (by first | rfl | assumption) ?_; refine S_want (by rfl) ?_; refine W_moveInt (by first | rfl | assumption) ?_; refine S_want (by rfl) ?_; refine W_index (by first | rfl | assumption) (by first | rfl | assumption) (by first | assumption | omega | decide) (by first | rfl | assumption) ?_; refine S_want (by rfl) ?_; refine W_field (by first | rfl | assumption) ?_; refine S_want (by rfl) ?_; refine W_loadKey (by first | rfl | assumption) (by assumption) (by first | assumption | omega) (by assumption) ?_; refine S_want (by rfl) ?_; refine W_moveStr (by first | rfl | assumption) ?_; refine S_want (by rfl) ?_; refine W_slssB (by first | rfl | assumption) (by first | rfl | assumption) (by assumption) ?_; refine S_op ?_; refine W_pickT (by first | rfl | assumption) (by first | rfl | assumption) ?_; refine S_nil ?_; refine CW_false (by first | rfl | assumption) ?_; refine CW_skip ?_; refine CW_region rfl ?_; refine S_op ?_; refine W_add1 (by first | rfl | assumption) (by omega) ?_; refine S_op ?_; refine W_moveInt (by first | rfl | assumption) ?_; refine S_nil ?_)
        exact ⟨(by repeat (first | exact AgreeOff.over | refine AgreeOff.upd rfl ?_ | refine AgreeOff.over2 rfl ?_)), m - 1, by omega, i + 1, rfl, by rw [hft]; exact h7, rfl, by omega, by omega⟩
  · have hin : i = l.length := by omega
    subst hin
    rw [List.take_length] at h7
    (refine CW_seq ?_; refine CW_region rfl ?_; refine S_op ?_; refine W_lssF (by first | rfl | assumption) (by first | rfl | assumption) (by first | omega | rfl) ?_; refine S_nil ?_; refine CW_seq ?_; refine CW_false (by first | rfl | assumption) ?_; refine CW_exit ?_; refine CW_seq ?_; refine CW_region rfl ?_; refine S_op ?_; refine W_moveInt (by first | rfl | assumption) ?_; refine S_op ?_; refine W_assignInt (by first | rfl | assumption) ?_; refine S_nil ?_; refine CW_ret ?_)
    exact ⟨_, ResW_one (v := .int _ _) rfl, H, hG, rfl⟩
end Go.Proofs.Ytgaabmoknpifnaa
/- tree: halves, leaves, branches: walked. Conditions: sizes. -/
namespace Go.Proofs.Ytgaabmoknpifnaa
open Go.Proofs Go.RowKit
set_option linter.unusedVariables false
attribute [local irreducible] CW SeqW OpW
set_option maxHeartbeats 4000000
theorem halves_Ent (H : HF) (A : Option Addr) (n c : Nat) (hc : n ≤ c) (hb : n ≤ 1000000) :
    Fn Try.prog 90 [.slice A n c] H fun v _ => v = .tuple #[.slice A ((n + 1) / 2) c, .slice (slAddr A c ((n + 1) / 2) 2) (n - (n + 1) / 2) (c - (n + 1) / 2)] := by
  refine Fn_of_CW Try.func90 rfl Try.ntmps90 Try.results90 rfl fun w hS => ?_; have hG := Grow.refl hS; have hS0 := hS
  (refine CW_seq ?_; refine CW_region rfl ?_; refine S_op ?_; refine W_assignSl (by first | rfl | assumption) ?_; refine S_op ?_; refine W_assignSl (by first | rfl | assumption) ?_; refine S_nil ?_; refine CW_seq ?_; refine CW_region rfl ?_; refine S_op ?_; refine W_moveSl (by first | rfl | assumption) ?_; refine S_op ?_; refine W_len (by first | rfl | assumption) ?_; refine S_op ?_; refine W_add1 (by first | rfl | assumption) (by omega) ?_; refine S_op ?_; refine W_quo2 (by first | rfl | assumption) (by omega) ?_; refine S_op ?_; refine W_assignInt (by first | rfl | assumption) ?_; refine S_nil ?_; refine CW_seq ?_)
  apply CW_region_grow [_, _, _, _, _, _, _, _] [none, none, none, none, none, none, none, none] [some 9, some 10, some 11, some 12, some 13, some 14, some 2, some 3] [9, 10, 11, 12, 13, 14, 2, 3] mixed rfl rfl rfl rfl (by decide) rfl (by assumption)
  · ((apply steps_cons; case h1 => (apply A_pure; intro c u H' w' hG; have hS' := hG.sub; have hS2' := hG.subOld; (repeat (first | refine depGo_eq rfl rfl rfl ?_ | (refine depGo_fact rfl rfl rfl ?_; intro v hv) | refine depGo_skip rfl ?_ | refine depGo_none rfl ?_)); apply Pure1.mk; intro K hk; exact W_moveSl (by first | rfl | assumption) hk)); (apply steps_cons; case h1 => (apply A_pure; intro c u H' w' hG; have hS' := hG.sub; have hS2' := hG.subOld; (repeat (first | refine depGo_eq rfl rfl rfl ?_ | (refine depGo_fact rfl rfl rfl ?_; intro v hv) | refine depGo_skip rfl ?_ | refine depGo_none rfl ?_)); apply Pure1.mk; intro K hk; exact W_moveInt (by first | rfl | assumption) hk)); (apply steps_cons; case h1 => (apply A_pure; intro c u H' w' hG; have hS' := hG.sub; have hS2' := hG.subOld; (repeat (first | refine depGo_eq rfl rfl rfl ?_ | (refine depGo_fact rfl rfl rfl ?_; intro v hv) | refine depGo_skip rfl ?_ | refine depGo_none rfl ?_)); apply Pure1.mk; intro K hk; exact W_sliceHi (by first | rfl | assumption) (by first | rfl | assumption) (by omega) hk)); (apply steps_cons; case h1 => (apply A_pure; intro c u H' w' hG; have hS' := hG.sub; have hS2' := hG.subOld; (repeat (first | refine depGo_eq rfl rfl rfl ?_ | (refine depGo_fact rfl rfl rfl ?_; intro v hv) | refine depGo_skip rfl ?_ | refine depGo_none rfl ?_)); apply Pure1.mk; intro K hk; exact W_moveSl (by first | rfl | assumption) hk)); (apply steps_cons; case h1 => (apply A_pure; intro c u H' w' hG; have hS' := hG.sub; have hS2' := hG.subOld; (repeat (first | refine depGo_eq rfl rfl rfl ?_ | (refine depGo_fact rfl rfl rfl ?_; intro v hv) | refine depGo_skip rfl ?_ | refine depGo_none rfl ?_)); apply Pure1.mk; intro K hk; exact W_moveInt (by first | rfl | assumption) hk)); (apply steps_cons; case h1 => (apply A_pure; intro c u H' w' hG; have hS' := hG.sub; have hS2' := hG.subOld; (repeat (first | refine depGo_eq rfl rfl rfl ?_ | (refine depGo_fact rfl rfl rfl ?_; intro v hv) | refine depGo_skip rfl ?_ | refine depGo_none rfl ?_)); apply Pure1.mk; intro K hk; exact W_sliceLo (by first | rfl | assumption) (by first | rfl | assumption) (by omega) hk)); (apply steps_cons; case h1 => (apply A_pure; intro c u H' w' hG; have hS' := hG.sub; have hS2' := hG.subOld; (repeat (first | refine depGo_eq rfl rfl rfl ?_ | (refine depGo_fact rfl rfl rfl ?_; intro v hv) | refine depGo_skip rfl ?_ | refine depGo_none rfl ?_)); apply Pure1.mk; intro K hk; exact W_assignSl (by first | rfl | assumption) hk)); (apply steps_cons; case h1 => (apply A_pure; intro c u H' w' hG; have hS' := hG.sub; have hS2' := hG.subOld; (repeat (first | refine depGo_eq rfl rfl rfl ?_ | (refine depGo_fact rfl rfl rfl ?_; intro v hv) | refine depGo_skip rfl ?_ | refine depGo_none rfl ?_)); apply Pure1.mk; intro K hk; exact W_assignSl (by first | rfl | assumption) hk)); exact trivial)
  · (intro H' w' hG; (repeat (first | refine fin_eq rfl rfl ?_ | (refine fin_fact rfl ?_; intro v hv) | refine fin_none rfl ?_)); refine fin_nil ?_)
    (refine CW_ret ?_)
    exact ⟨_, ResW_two (v1 := .slice _ _ _) (v2 := .slice _ _ _) rfl rfl, _, by assumption, rfl⟩
theorem halves_Node (H : HF) (A : Option Addr) (n c : Nat) (hc : n ≤ c) (hb : n ≤ 1000000) :
    Fn Try.prog 81 [.slice A n c] H fun v _ => v = .tuple #[.slice A ((n + 1) / 2) c, .slice (slAddr A c ((n + 1) / 2) 1) (n - (n + 1) / 2) (c - (n + 1) / 2)] := by
  refine Fn_of_CW Try.func81 rfl Try.ntmps81 Try.results81 rfl fun w hS => ?_; have hG := Grow.refl hS; have hS0 := hS
  (refine CW_seq ?_; refine CW_region rfl ?_; refine S_op ?_; refine W_assignSl (by first | rfl | assumption) ?_; refine S_op ?_; refine W_assignSl (by first | rfl | assumption) ?_; refine S_nil ?_; refine CW_seq ?_; refine CW_region rfl ?_; refine S_op ?_; refine W_moveSl (by first | rfl | assumption) ?_; refine S_op ?_; refine W_len (by first | rfl | assumption) ?_; refine S_op ?_; refine W_add1 (by first | rfl | assumption) (by omega) ?_; refine S_op ?_; refine W_quo2 (by first | rfl | assumption) (by omega) ?_; refine S_op ?_; refine W_assignInt (by first | rfl | assumption) ?_; refine S_nil ?_; refine CW_seq ?_)
  apply CW_region_grow [_, _, _, _, _, _, _, _] [none, none, none, none, none, none, none, none] [some 9, some 10, some 11, some 12, some 13, some 14, some 2, some 3] [9, 10, 11, 12, 13, 14, 2, 3] mixed rfl rfl rfl rfl (by decide) rfl (by assumption)
  · ((apply steps_cons; case h1 => (apply A_pure; intro c u H' w' hG; have hS' := hG.sub; have hS2' := hG.subOld; (repeat (first | refine depGo_eq rfl rfl rfl ?_ | (refine depGo_fact rfl rfl rfl ?_; intro v hv) | refine depGo_skip rfl ?_ | refine depGo_none rfl ?_)); apply Pure1.mk; intro K hk; exact W_moveSl (by first | rfl | assumption) hk)); (apply steps_cons; case h1 => (apply A_pure; intro c u H' w' hG; have hS' := hG.sub; have hS2' := hG.subOld; (repeat (first | refine depGo_eq rfl rfl rfl ?_ | (refine depGo_fact rfl rfl rfl ?_; intro v hv) | refine depGo_skip rfl ?_ | refine depGo_none rfl ?_)); apply Pure1.mk; intro K hk; exact W_moveInt (by first | rfl | assumption) hk)); (apply steps_cons; case h1 => (apply A_pure; intro c u H' w' hG; have hS' := hG.sub; have hS2' := hG.subOld; (repeat (first | refine depGo_eq rfl rfl rfl ?_ | (refine depGo_fact rfl rfl rfl ?_; intro v hv) | refine depGo_skip rfl ?_ | refine depGo_none rfl ?_)); apply Pure1.mk; intro K hk; exact W_sliceHi (by first | rfl | assumption) (by first | rfl | assumption) (by omega) hk)); (apply steps_cons; case h1 => (apply A_pure; intro c u H' w' hG; have hS' := hG.sub; have hS2' := hG.subOld; (repeat (first | refine depGo_eq rfl rfl rfl ?_ | (refine depGo_fact rfl rfl rfl ?_; intro v hv) | refine depGo_skip rfl ?_ | refine depGo_none rfl ?_)); apply Pure1.mk; intro K hk; exact W_moveSl (by first | rfl | assumption) hk)); (apply steps_cons; case h1 => (apply A_pure; intro c u H' w' hG; have hS' := hG.sub; have hS2' := hG.subOld; (repeat (first | refine depGo_eq rfl rfl rfl ?_ | (refine depGo_fact rfl rfl rfl ?_; intro v hv) | refine depGo_skip rfl ?_ | refine depGo_none rfl ?_)); apply Pure1.mk; intro K hk; exact W_moveInt (by first | rfl | assumption) hk)); (apply steps_cons; case h1 => (apply A_pure; intro c u H' w' hG; have hS' := hG.sub; have hS2' := hG.subOld; (repeat (first | refine depGo_eq rfl rfl rfl ?_ | (refine depGo_fact rfl rfl rfl ?_; intro v hv) | refine depGo_skip rfl ?_ | refine depGo_none rfl ?_)); apply Pure1.mk; intro K hk; exact W_sliceLo (by first | rfl | assumption) (by first | rfl | assumption) (by omega) hk)); (apply steps_cons; case h1 => (apply A_pure; intro c u H' w' hG; have hS' := hG.sub; have hS2' := hG.subOld; (repeat (first | refine depGo_eq rfl rfl rfl ?_ | (refine depGo_fact rfl rfl rfl ?_; intro v hv) | refine depGo_skip rfl ?_ | refine depGo_none rfl ?_)); apply Pure1.mk; intro K hk; exact W_assignSl (by first | rfl | assumption) hk)); (apply steps_cons; case h1 => (apply A_pure; intro c u H' w' hG; have hS' := hG.sub; have hS2' := hG.subOld; (repeat (first | refine depGo_eq rfl rfl rfl ?_ | (refine depGo_fact rfl rfl rfl ?_; intro v hv) | refine depGo_skip rfl ?_ | refine depGo_none rfl ?_)); apply Pure1.mk; intro K hk; exact W_assignSl (by first | rfl | assumption) hk)); exact trivial)
  · (intro H' w' hG; (repeat (first | refine fin_eq rfl rfl ?_ | (refine fin_fact rfl ?_; intro v hv) | refine fin_none rfl ?_)); refine fin_nil ?_)
    (refine CW_ret ?_)
    exact ⟨_, ResW_two (v1 := .slice _ _ _) (v2 := .slice _ _ _) rfl rfl, _, by assumption, rfl⟩
theorem HLe.none {H H' : HF} (h : HLe H H') {b : Nat} (hb : H' b = none) : H b = none := by
  cases e : H b with
  | none => rfl
  | some o => rw [h b o e] at hb; cases hb
/-- A slice of nodes. -/
def NdsAt (H : HF) (h : Nat) (v : Value) (ks : List (Nd h)) : Prop := ∃ B d, v = .slice B ks.length d ∧ ks.length ≤ d ∧ SlAt H B (ks.map Nd.ptr) ∧ AllAt H h ks
theorem NdsAt.mono {H H' : HF} {h : Nat} {v : Value} {ks : List (Nd h)} (hk : NdsAt H h v ks) (hle : HLe H H') : NdsAt H' h v ks := by
  obtain ⟨B, d, h1, h2, h3, h4⟩ := hk
  exact ⟨B, d, h1, h2, h3.mono hle, h4.mono hle⟩
def half (n : Nat) : Nat := (n + 1) / 2
/-- One node, in a row without room. -/
def OneAt (H0 H : HF) (h : Nat) (v : Value) (x : Nd h) : Prop := ∃ g E, v = .slice (some ⟨g, 0, none⟩) 1 1 ∧ H g = some (.cells #[x.ptr] E (0, 0)) ∧ NodeAt H h x ∧ H0 x.blk = none
theorem OneAt.mono {H0 H H' : HF} {h : Nat} {v : Value} {x : Nd h} (hk : OneAt H0 H h v x) (hle : HLe H H') : OneAt H0 H' h v x := by
  obtain ⟨g, E, h1, h2, h3, h4⟩ := hk
  exact ⟨g, E, h1, hle _ _ h2, h3.mono hle, h4⟩
theorem OneAt.nds {H0 H : HF} {h : Nat} {v : Value} {x : Nd h} (hk : OneAt H0 H h v x) : NdsAt H h v [x] := by
  obtain ⟨g, E, rfl, h2, h3, h4⟩ := hk
  refine ⟨_, 1, rfl, Nat.le_refl _, SlAt.of_row h2, fun k hk => ?_⟩
  simp at hk
  subst hk; exact h3
/-- What leaves makes. -/
def leavesOut (l : List Ent) (out : List (Nd 0)) : Prop :=
  (l.length = 0 ∧ out = []) ∨ (1 ≤ l.length ∧ l.length ≤ 4 ∧ ∃ b, out = [.leaf b l]) ∨ (4 < l.length ∧ ∃ b1 b2, out = [.leaf b1 (l.take (half l.length)), .leaf b2 (l.drop (half l.length))])
theorem leaves1_c (H : HF) (A : Option Addr) (c : Nat) (l : List Ent) (hl : EntsAt H A l) (hc : l.length ≤ c) (hb : leafB l = true) :
    Fn Try.prog 79 [.slice A l.length c] H fun v H' => ∃ b, OneAt H H' 0 v (.leaf b l) := by
  have h1 : 1 ≤ l.length ∧ l.length ≤ 4 := by simp only [leafB, Bool.and_eq_true, decide_eq_true_eq] at hb; omega
  obtain ⟨h1, h4⟩ := h1
  refine Fn_of_CW Try.func79 rfl Try.ntmps79 Try.results79 rfl fun w hS => ?_; have hG := Grow.refl hS; have hS0 := hS
  (refine CW_seq ?_; refine CW_region rfl ?_; refine S_op ?_; refine W_assignSl (by first | rfl | assumption) ?_; refine S_nil ?_; refine CW_seq ?_; refine CW_seq ?_; refine CW_region rfl ?_; refine S_op ?_; refine W_moveSl (by first | rfl | assumption) ?_; refine S_op ?_; refine W_len (by first | rfl | assumption) ?_; refine S_op ?_; refine W_eqlF (by first | rfl | assumption) (by first | rfl | assumption) (by first | omega | rfl) ?_; refine S_nil ?_; refine CW_false (by first | rfl | assumption) ?_; refine CW_skip ?_; refine CW_seq ?_; refine CW_seq ?_; refine CW_region rfl ?_; refine S_op ?_; refine W_moveSl (by first | rfl | assumption) ?_; refine S_op ?_; refine W_len (by first | rfl | assumption) ?_; refine S_op ?_; refine W_leqT (by first | rfl | assumption) (by first | rfl | assumption) (by first | omega | rfl) ?_; refine S_nil ?_; refine CW_true (by first | rfl | assumption) ?_; refine CW_seq ?_; refine CW_region rfl ?_; refine S_op ?_; refine W_moveSl (by first | rfl | assumption) ?_)
  (refine S_op ?_; refine W_call hS (by rfl) (leaf_c H A c l hl hc (by omega)) ?_); rintro v H w hG' hv; replace hG := hG.trans hG'; replace hS := hG'.sub; clear hG'
  rcases hv with ⟨h5, _⟩ | ⟨_, b, hn, rfl, hx⟩
  · rw [hb] at h5; cases h5
  · (refine S_op ?_; refine W_moveTup (by first | rfl | assumption) ?_; refine S_op ?_; refine W_extract (by first | rfl | assumption) (by rfl) ?_; refine S_op ?_; refine W_extract (by first | rfl | assumption) (by rfl) ?_; refine S_op ?_; refine W_assignPtr (by first | rfl | assumption) ?_; refine S_op ?_; refine W_assignInt (by first | rfl | assumption) ?_; refine S_nil ?_; refine CW_seq ?_; refine CW_region rfl ?_; refine S_op ?_; refine W_movePtr (by first | rfl | assumption) ?_)
    refine S_op ?_
    refine W_build1 (sz := 1) (v := (Nd.leaf b l).ptr) hS (by omega) (by rfl) (by rfl) ?_
    intro H w g hG' hg _ _
    replace hG := hG.trans hG'
    replace hx := hx.mono hG'.le
    (refine S_op ?_; refine W_assignSl (by first | rfl | assumption) ?_; refine S_nil ?_; refine CW_ret ?_)
    exact ⟨_, ResW_one (v := .slice _ _ _) rfl, H, hG, b, g, _, rfl, hg, hx, hn⟩
theorem leaves_c (H : HF) (A : Option Addr) (c : Nat) (l : List Ent) (hl : EntsAt H A l) (hc : l.length ≤ c) (hr : riseB l = true) (ho : ∀ e ∈ l, entOk e = true) (h8 : l.length ≤ 8) :
    Fn Try.prog 79 [.slice A l.length c] H fun v H' => ∃ out, NdsAt H' 0 v out ∧ leavesOut l out ∧ ∀ k ∈ out, H k.blk = none := by
  have hleaf : ∀ m : List Ent, 1 ≤ m.length → m.length ≤ 4 → riseB m = true → (∀ e ∈ m, entOk e = true) → leafB m = true := by
    intro m h1 h2 h3 h4
    have : m.all entOk = true := List.all_eq_true.2 h4
    simp [leafB, h3, this]; omega
  by_cases h0 : l.length = 0
  · refine Fn_of_CW Try.func79 rfl Try.ntmps79 Try.results79 rfl fun w hS => ?_; have hG := Grow.refl hS; have hS0 := hS
    (refine CW_seq ?_; refine CW_region rfl ?_; refine S_op ?_; refine W_assignSl (by first | rfl | assumption) ?_; refine S_nil ?_; refine CW_seq ?_; refine CW_seq ?_; refine CW_region rfl ?_; refine S_op ?_; refine W_moveSl (by first | rfl | assumption) ?_; refine S_op ?_; refine W_len (by first | rfl | assumption) ?_; refine S_op ?_; refine W_eqlT (by first | rfl | assumption) (by first | rfl | assumption) (by first | omega | rfl) ?_; refine S_nil ?_; refine CW_true (by first | rfl | assumption) ?_; refine CW_seq ?_; refine CW_region rfl ?_; refine S_op ?_; refine W_assignSl (by first | rfl | assumption) ?_; refine S_nil ?_; refine CW_ret ?_)
    exact ⟨_, ResW_one (v := .slice _ _ _) rfl, H, hG, [], ⟨none, 0, rfl, Nat.le_refl _, .inl rfl, by intro k hk; cases hk⟩, .inl ⟨h0, rfl⟩, by intro k hk; cases hk⟩
  by_cases h4 : l.length ≤ 4
  · refine (leaves1_c H A c l hl hc (hleaf l (by omega) h4 hr ho)).mono ?_
    rintro v H' _ ⟨b, h1⟩
    refine ⟨_, h1.nds, .inr (.inl ⟨by omega, h4, b, rfl⟩), fun k hk => ?_⟩
    simp at hk
    subst hk
    obtain ⟨g, E, h1, h2, h3, h4⟩ := h1
    exact h4
  · have hkk : half l.length ≤ 4 ∧ 1 ≤ half l.length ∧ half l.length ≤ l.length ∧ l.length - half l.length ≤ 4 ∧ 1 ≤ l.length - half l.length := by unfold half; omega
    obtain ⟨k1, k2, k3, k4, k5⟩ := hkk
    have hsp := List.take_append_drop (half l.length) l
    have hr2 : riseB (l.take (half l.length)) = true ∧ riseB (l.drop (half l.length)) = true := by
      rw [← hsp, riseB_append] at hr
      exact ⟨hr.1, hr.2.1⟩
    have hlt : (l.take (half l.length)).length = half l.length := by simp; omega
    have hld : (l.drop (half l.length)).length = l.length - half l.length := by simp
    have hb1 := hleaf (l.take (half l.length)) (by omega) (by omega) hr2.1 (fun e he => ho e (List.mem_of_mem_take he))
    have hb2 := hleaf (l.drop (half l.length)) (by omega) (by omega) hr2.2 (fun e he => ho e (List.mem_of_mem_drop he))
    have ht : EntsAt H A (l.take (half l.length)) := by have := SlAt.take hl (half l.length * 2); rw [entCells_take] at this; exact this
    have hd : EntsAt H (slAddr A c (half l.length) 2) (l.drop (half l.length)) := by have := SlAt.drop (l := half l.length) hl (entCells_length l) hc; rw [entCells_drop] at this; exact this
    refine Fn_of_CW Try.func79 rfl Try.ntmps79 Try.results79 rfl fun w hS => ?_; have hG := Grow.refl hS; have hS0 := hS
    (refine CW_seq ?_; refine CW_region rfl ?_; refine S_op ?_; refine W_assignSl (by first | rfl | assumption) ?_; refine S_nil ?_; refine CW_seq ?_; refine CW_seq ?_; refine CW_region rfl ?_; refine S_op ?_; refine W_moveSl (by first | rfl | assumption) ?_; refine S_op ?_; refine W_len (by first | rfl | assumption) ?_; refine S_op ?_; refine W_eqlF (by first | rfl | assumption) (by first | rfl | assumption) (by first | omega | rfl) ?_; refine S_nil ?_; refine CW_false (by first | rfl | assumption) ?_; refine CW_skip ?_; refine CW_seq ?_; refine CW_seq ?_; refine CW_region rfl ?_; refine S_op ?_; refine W_moveSl (by first | rfl | assumption) ?_; refine S_op ?_; refine W_len (by first | rfl | assumption) ?_; refine S_op ?_; refine W_leqF (by first | rfl | assumption) (by first | rfl | assumption) (by first | omega | rfl) ?_; refine S_nil ?_; refine CW_false (by first | rfl | assumption) ?_; refine CW_skip ?_; refine CW_seq ?_; refine CW_region rfl ?_; refine S_op ?_; refine W_moveSl (by first | rfl | assumption) ?_)
    (refine S_op ?_; refine W_call hS (by rfl) (halves_Ent H A l.length c hc (by omega)) ?_); rintro v H w hG' rfl; replace hG := hG.trans hG'; replace hS := hG'.sub; replace ht := ht.mono hG'.le; replace hd := hd.mono hG'.le; clear hG'
    rw [show (l.length + 1) / 2 = half l.length from rfl]
    have hlt' := hlt
    have hld' := hld
    rw [← hlt'] at hlt
    (refine S_op ?_; refine W_moveTup (by first | rfl | assumption) ?_; refine S_op ?_; refine W_extract (by first | rfl | assumption) (by rfl) ?_; refine S_op ?_; refine W_extract (by first | rfl | assumption) (by rfl) ?_; refine S_op ?_; refine W_assignSl (by first | rfl | assumption) ?_; refine S_op ?_; refine W_assignSl (by first | rfl | assumption) ?_; refine S_nil ?_; refine CW_seq ?_; refine CW_region rfl ?_; refine S_op ?_; refine W_moveSl (by first | rfl | assumption) ?_)
    have c1 := leaves1_c H A c (l.take (half l.length)) ht (by omega) hb1
    rw [hlt'] at c1
    have hle1 := hG.le
    (refine S_op ?_; refine W_call hS (by rfl) (c1) ?_); rintro v H w hG' ⟨b1, h1⟩; replace hG := hG.trans hG'; replace hS := hG'.sub; replace hd := hd.mono hG'.le; clear hG'
    clear c1
    (refine S_op ?_; refine W_moveSl (by first | rfl | assumption) ?_)
    have c2 := leaves1_c H (slAddr A c (half l.length) 2) (c - half l.length) (l.drop (half l.length)) hd (by omega) hb2
    rw [hld'] at c2
    have hle2 := hG.le
    (refine S_op ?_; refine W_call hS (by rfl) (c2) ?_); rintro v H w hG' ⟨b2, h2⟩; replace hG := hG.trans hG'; replace hS := hG'.sub; replace h1 := h1.mono hG'.le; clear hG'
    clear c2
    skip
    refine S_op ?_
    obtain ⟨g1, E1, rfl, hg1, hx1, hf1⟩ := h1
    obtain ⟨g2, E2, rfl, hg2, hx2, hf2⟩ := h2
    refine W_append_new (xs := [Nd.ptr _]) (news := [Nd.ptr _]) (by rfl) (by rfl) hG (by simp) ((SlAt.of_row hg1).cells hS) (by rfl) ((SlAt.of_row hg2).cells hS) (by rfl) (by intro u hu; simp at hu; subst hu; rfl) (by decide) (by decide) (by decide) (by decide) (by decide) ?_
    intro A3 c3 w hG _ hown hA3
    clear hA3
    (refine S_op ?_; refine W_assignSl (by first | rfl | assumption) ?_; refine S_nil ?_; refine CW_ret ?_)
    obtain ⟨H3, hle3, hG3, hsl3, _⟩ := hown.freeze hG
    refine ⟨_, ResW_one (v := .slice _ _ _) rfl, H3, hG3, [.leaf b1 (l.take (half l.length)), .leaf b2 (l.drop (half l.length))], ⟨A3, c3, rfl, by have := hown.cap; exact this, hsl3, fun k hk => ?_⟩, .inr (.inr ⟨by omega, b1, b2, rfl⟩), fun k hk => ?_⟩
    · simp at hk
      rcases hk with rfl | rfl
      · exact hx1.mono hle3
      · exact hx2.mono hle3
    · simp at hk
      rcases hk with rfl | rfl
      · exact hle1.none hf1
      · exact hle2.none hf2
/-! ### branches -/
theorem trOf_inj {h h' : Nat} {x : Nd h} {y : Nd h'} (e : trOf x = trOf y) : ∃ e : h = h', e ▸ x = y := by
  simp only [trOf, Option.some.injEq, Sigma.mk.injEq] at e
  obtain ⟨rfl, h2⟩ := e
  exact ⟨rfl, eq_of_heq h2⟩
theorem map_trOf_inj {h : Nat} : ∀ {l m : List (Nd h)}, l.map trOf = m.map trOf → l = m
  | [], [], _ => rfl
  | [], _ :: _, e => by simp at e
  | _ :: _, [], e => by simp at e
  | x :: l, y :: m, e => by
    simp only [List.map_cons, List.cons.injEq] at e
    obtain ⟨_, h1⟩ := trOf_inj e.1
    have h1 : x = y := h1
    rw [h1, map_trOf_inj e.2]
theorem branchU_c (H : HF) (A : Option Addr) (c h : Nat) (ks : List (Nd h)) (hl : SlAt H A (ks.map Nd.ptr)) (hk : AllAt H h ks) (hc : ks.length ≤ c) (h2 : 2 ≤ ks.length) (h6 : ks.length ≤ 6) (hch : Nd.chain ks = true) (hh : h ≤ 900000) :
    Fn Try.prog 80 [.slice A ks.length c] H fun v H' => ∃ b, v = .tuple #[(Nd.branch b ks).ptr, .int .i64 0] ∧ NodeAt H' (h + 1) (.branch b ks) ∧ H b = none := by
  have h1 := branch_c H A c (ks.map trOf) (by rw [val_map]; exact hl) (fun t ht => by
    obtain ⟨k, hk1, rfl⟩ := List.mem_map.1 ht
    exact hk k hk1) (by simpa using hc) (by simp; omega) (by
    rw [trs_map (by omega)]
    simp only [Tr.height, trOf]
    omega)
  rw [List.length_map] at h1
  refine h1.mono ?_
  rintro v H' _ (⟨h3, _⟩ | ⟨_, h', ks', b, h3, h4, rfl, h5⟩)
  · rw [branchB_of h2 h6 hch] at h3; cases h3
  · match ks, ks', h2, h3 with
    | x :: ks, y :: ks', _, h3 =>
      simp only [List.map_cons, List.cons.injEq] at h3
      obtain ⟨rfl, h6⟩ := trOf_inj h3.1
      have h6 : x = y := h6
      have h7 := map_trOf_inj h3.2
      subst h6 h7
      exact ⟨b, rfl, h5, h4⟩
theorem branches1_c (H : HF) (A : Option Addr) (c h : Nat) (ks : List (Nd h)) (hl : SlAt H A (ks.map Nd.ptr)) (hk : AllAt H h ks) (hc : ks.length ≤ c) (h2 : 2 ≤ ks.length) (h6 : ks.length ≤ 6) (hch : Nd.chain ks = true) (hh : h ≤ 900000) :
    Fn Try.prog 61 [.slice A ks.length c] H fun v H' => ∃ b, OneAt H H' (h + 1) v (.branch b ks) := by
  refine Fn_of_CW Try.func61 rfl Try.ntmps61 Try.results61 rfl fun w hS => ?_; have hG := Grow.refl hS; have hS0 := hS
  (refine CW_seq ?_; refine CW_region rfl ?_; refine S_op ?_; refine W_assignSl (by first | rfl | assumption) ?_; refine S_nil ?_; refine CW_seq ?_; refine CW_seq ?_; refine CW_region rfl ?_; refine S_op ?_; refine W_moveSl (by first | rfl | assumption) ?_; refine S_op ?_; refine W_len (by first | rfl | assumption) ?_; refine S_op ?_; refine W_leqF (by first | rfl | assumption) (by first | rfl | assumption) (by first | omega | rfl) ?_; refine S_nil ?_; refine CW_false (by first | rfl | assumption) ?_; refine CW_skip ?_; refine CW_seq ?_; refine CW_seq ?_; refine CW_region rfl ?_; refine S_op ?_; refine W_moveSl (by first | rfl | assumption) ?_; refine S_op ?_; refine W_len (by first | rfl | assumption) ?_; refine S_op ?_; refine W_leqT (by first | rfl | assumption) (by first | rfl | assumption) (by first | omega | rfl) ?_; refine S_nil ?_; refine CW_true (by first | rfl | assumption) ?_; refine CW_seq ?_; refine CW_region rfl ?_; refine S_op ?_; refine W_moveSl (by first | rfl | assumption) ?_)
  (refine S_op ?_; refine W_call hS (by rfl) (branchU_c H A c h ks hl hk hc h2 h6 hch hh) ?_); rintro v H w hG' ⟨b, rfl, hx, hn⟩; replace hG := hG.trans hG'; replace hS := hG'.sub; clear hG'
  (refine S_op ?_; refine W_moveTup (by first | rfl | assumption) ?_; refine S_op ?_; refine W_extract (by first | rfl | assumption) (by rfl) ?_; refine S_op ?_; refine W_extract (by first | rfl | assumption) (by rfl) ?_; refine S_op ?_; refine W_assignPtr (by first | rfl | assumption) ?_; refine S_op ?_; refine W_assignInt (by first | rfl | assumption) ?_; refine S_nil ?_; refine CW_seq ?_; refine CW_region rfl ?_; refine S_op ?_; refine W_movePtr (by first | rfl | assumption) ?_)
  refine S_op ?_
  refine W_build1 (sz := 1) (v := (Nd.branch b ks).ptr) hS (by omega) (by rfl) (by rfl) ?_
  intro H w g hG' hg _ _
  replace hG := hG.trans hG'
  replace hx := hx.mono hG'.le
  (refine S_op ?_; refine W_assignSl (by first | rfl | assumption) ?_; refine S_nil ?_; refine CW_ret ?_)
  exact ⟨_, ResW_one (v := .slice _ _ _) rfl, H, hG, b, g, _, rfl, hg, hx, hn⟩
theorem branches0_c (H : HF) (A : Option Addr) (n c : Nat) (h2 : n ≤ 1) :
    Fn Try.prog 61 [.slice A n c] H fun v _ => v = .slice A n c := by
  refine Fn_of_CW Try.func61 rfl Try.ntmps61 Try.results61 rfl fun w hS => ?_; have hG := Grow.refl hS; have hS0 := hS
  (refine CW_seq ?_; refine CW_region rfl ?_; refine S_op ?_; refine W_assignSl (by first | rfl | assumption) ?_; refine S_nil ?_; refine CW_seq ?_; refine CW_seq ?_; refine CW_region rfl ?_; refine S_op ?_; refine W_moveSl (by first | rfl | assumption) ?_; refine S_op ?_; refine W_len (by first | rfl | assumption) ?_; refine S_op ?_; refine W_leqT (by first | rfl | assumption) (by first | rfl | assumption) (by first | omega | rfl) ?_; refine S_nil ?_; refine CW_true (by first | rfl | assumption) ?_; refine CW_seq ?_; refine CW_region rfl ?_; refine S_op ?_; refine W_moveSl (by first | rfl | assumption) ?_; refine S_op ?_; refine W_assignSl (by first | rfl | assumption) ?_; refine S_nil ?_; refine CW_ret ?_)
  exact ⟨_, ResW_one (v := .slice _ _ _) rfl, H, hG, rfl⟩
/-- What branches makes of two or more. -/
def branchesOut {h : Nat} (ks : List (Nd h)) (out : List (Nd (h + 1))) : Prop :=
  (2 ≤ ks.length ∧ ks.length ≤ 6 ∧ ∃ b, out = [.branch b ks]) ∨ (6 < ks.length ∧ ∃ b1 b2, out = [.branch b1 (ks.take (half ks.length)), .branch b2 (ks.drop (half ks.length))])
theorem chain_parts {h : Nat} {a b : List (Nd h)} (ho : ∀ k ∈ a ++ b, Nd.Ok h k) (hc : Nd.chain (a ++ b) = true) : Nd.chain a = true ∧ Nd.chain b = true := by
  have hr := (Nd.chain_iff ho).1 hc
  rw [List.flatMap_append, riseB_append] at hr
  exact ⟨(Nd.chain_iff (fun k hk => ho k (List.mem_append_left _ hk))).2 hr.1, (Nd.chain_iff (fun k hk => ho k (List.mem_append_right _ hk))).2 hr.2.1⟩
theorem branches_c (H : HF) (A : Option Addr) (c h : Nat) (ks : List (Nd h)) (hl : SlAt H A (ks.map Nd.ptr)) (hk : AllAt H h ks) (hc : ks.length ≤ c) (h2 : 2 ≤ ks.length) (h8 : ks.length ≤ 12) (hch : Nd.chain ks = true) (hh : h ≤ 900000) :
    Fn Try.prog 61 [.slice A ks.length c] H fun v H' => ∃ out, NdsAt H' (h + 1) v out ∧ branchesOut ks out ∧ ∀ k ∈ out, H k.blk = none := by
  by_cases h4 : ks.length ≤ 6
  · refine (branches1_c H A c h ks hl hk hc h2 h4 hch hh).mono ?_
    rintro v H' _ ⟨b, h1⟩
    refine ⟨_, h1.nds, .inl ⟨by omega, h4, b, rfl⟩, fun k hk => ?_⟩
    simp at hk
    subst hk
    obtain ⟨g, E, h1, h2, h3, h4⟩ := h1
    exact h4
  · have hkk : half ks.length ≤ 6 ∧ 2 ≤ half ks.length ∧ half ks.length ≤ ks.length ∧ ks.length - half ks.length ≤ 6 ∧ 2 ≤ ks.length - half ks.length := by unfold half; omega
    obtain ⟨k1, k2, k3, k4, k5⟩ := hkk
    have hsp := List.take_append_drop (half ks.length) ks
    have hr2 : Nd.chain (ks.take (half ks.length)) = true ∧ Nd.chain (ks.drop (half ks.length)) = true :=
      chain_parts (by rw [hsp]; exact hk.ok) (by rw [hsp]; exact hch)
    have hlt : (ks.take (half ks.length)).length = half ks.length := by simp; omega
    have hld : (ks.drop (half ks.length)).length = ks.length - half ks.length := by simp
    have ht : SlAt H A ((ks.take (half ks.length)).map Nd.ptr) := by have := SlAt.take hl (half ks.length); rw [List.map_take]; exact this
    have hd : SlAt H (slAddr A c (half ks.length) 1) ((ks.drop (half ks.length)).map Nd.ptr) := by have := SlAt.drop (l := half ks.length) (sz := 1) hl (by simp) hc; rw [List.map_drop]; simpa using this
    have hk1 := hk.take (half ks.length)
    have hk2 := hk.drop (half ks.length)
    refine Fn_of_CW Try.func61 rfl Try.ntmps61 Try.results61 rfl fun w hS => ?_; have hG := Grow.refl hS; have hS0 := hS
    (refine CW_seq ?_; refine CW_region rfl ?_; refine S_op ?_; refine W_assignSl (by first | rfl | assumption) ?_; refine S_nil ?_; refine CW_seq ?_; refine CW_seq ?_; refine CW_region rfl ?_; refine S_op ?_; refine W_moveSl (by first | rfl | assumption) ?_; refine S_op ?_; refine W_len (by first | rfl | assumption) ?_; refine S_op ?_; refine W_leqF (by first | rfl | assumption) (by first | rfl | assumption) (by first | omega | rfl) ?_; refine S_nil ?_; refine CW_false (by first | rfl | assumption) ?_; refine CW_skip ?_; refine CW_seq ?_; refine CW_seq ?_; refine CW_region rfl ?_; refine S_op ?_; refine W_moveSl (by first | rfl | assumption) ?_; refine S_op ?_; refine W_len (by first | rfl | assumption) ?_; refine S_op ?_; refine W_leqF (by first | rfl | assumption) (by first | rfl | assumption) (by first | omega | rfl) ?_; refine S_nil ?_; refine CW_false (by first | rfl | assumption) ?_; refine CW_skip ?_; refine CW_seq ?_; refine CW_region rfl ?_; refine S_op ?_; refine W_moveSl (by first | rfl | assumption) ?_)
    (refine S_op ?_; refine W_call hS (by rfl) (halves_Node H A ks.length c hc (by omega)) ?_); rintro v H w hG' rfl; replace hG := hG.trans hG'; replace hS := hG'.sub; replace ht := ht.mono hG'.le; replace hd := hd.mono hG'.le; replace hk1 := hk1.mono hG'.le; replace hk2 := hk2.mono hG'.le; clear hG'
    rw [show (ks.length + 1) / 2 = half ks.length from rfl]
    have hlt' := hlt
    have hld' := hld
    (refine S_op ?_; refine W_moveTup (by first | rfl | assumption) ?_; refine S_op ?_; refine W_extract (by first | rfl | assumption) (by rfl) ?_; refine S_op ?_; refine W_extract (by first | rfl | assumption) (by rfl) ?_; refine S_op ?_; refine W_assignSl (by first | rfl | assumption) ?_; refine S_op ?_; refine W_assignSl (by first | rfl | assumption) ?_; refine S_nil ?_; refine CW_seq ?_; refine CW_region rfl ?_; refine S_op ?_; refine W_moveSl (by first | rfl | assumption) ?_)
    have c1 := branches1_c H A c h (ks.take (half ks.length)) ht hk1 (by omega) (by omega) (by omega) hr2.1 hh
    rw [hlt'] at c1
    have hle1 := hG.le
    (refine S_op ?_; refine W_call hS (by rfl) (c1) ?_); rintro v H w hG' ⟨b1, h1⟩; replace hG := hG.trans hG'; replace hS := hG'.sub; replace hd := hd.mono hG'.le; replace hk2 := hk2.mono hG'.le; clear hG'
    clear c1
    (refine S_op ?_; refine W_moveSl (by first | rfl | assumption) ?_)
    have c2 := branches1_c H (slAddr A c (half ks.length) 1) (c - half ks.length) h (ks.drop (half ks.length)) hd hk2 (by omega) (by omega) (by omega) hr2.2 hh
    rw [hld'] at c2
    have hle2 := hG.le
    (refine S_op ?_; refine W_call hS (by rfl) (c2) ?_); rintro v H w hG' ⟨b2, h2⟩; replace hG := hG.trans hG'; replace hS := hG'.sub; replace h1 := h1.mono hG'.le; clear hG'
    clear c2
    skip
    refine S_op ?_
    obtain ⟨g1, E1, rfl, hg1, hx1, hf1⟩ := h1
    obtain ⟨g2, E2, rfl, hg2, hx2, hf2⟩ := h2
    refine W_append_new (xs := [Nd.ptr _]) (news := [Nd.ptr _]) (by rfl) (by rfl) hG (by simp) ((SlAt.of_row hg1).cells hS) (by rfl) ((SlAt.of_row hg2).cells hS) (by rfl) (by intro u hu; simp at hu; subst hu; rfl) (by decide) (by decide) (by decide) (by decide) (by decide) ?_
    intro A3 c3 w hG _ hown hA3
    clear hA3
    (refine S_op ?_; refine W_assignSl (by first | rfl | assumption) ?_; refine S_nil ?_; refine CW_ret ?_)
    obtain ⟨H3, hle3, hG3, hsl3, _⟩ := hown.freeze hG
    refine ⟨_, ResW_one (v := .slice _ _ _) rfl, H3, hG3, [.branch b1 (ks.take (half ks.length)), .branch b2 (ks.drop (half ks.length))], ⟨A3, c3, rfl, by have := hown.cap; exact this, hsl3, fun k hk => ?_⟩, .inr ⟨by omega, b1, b2, rfl⟩, fun k hk => ?_⟩
    · simp at hk
      rcases hk with rfl | rfl
      · exact hx1.mono hle3
      · exact hx2.mono hle3
    · simp at hk
      rcases hk with rfl | rfl
      · exact hle1.none hf1
      · exact hle2.none hf2
end Go.Proofs.Ytgaabmoknpifnaa
