/- Scopes; ends of functions that bear marks; invariants of loops over iterators. Conditions: each law's own premises. -/
import Derived.Test.YtnjeoobcejlojaaRange
import Derived.Scope
namespace Go.Proofs.Ytnjeoobcejlojaa
open Go.Proofs Go.RowKit
set_option linter.unusedVariables false
set_option linter.unusedSimpArgs false

section
variable {F : Fence} {n : Nat} {P : Program} {b : Frame} {a : Act} {k : List Item} {cs : List Frame} {w : World} {Q : Exit → Act → World → Prop}
theorem stepR_scope {c : Code} : step P (lone (b.atR a (.code (.scope c) :: k)) cs w) = .next (lone (b.atR a (.code c :: .inScope c :: k)) cs w) :=
  step_lone_go (by simp [stepG, stepG.exec, Frame.atR])
theorem stepR_inScope {c : Code} : step P (lone (b.atR a (.inScope c :: k)) cs w) = .next (lone (b.atR a k) cs w) :=
  step_lone_go (by simp [stepG, stepG.exec, Frame.atR])
theorem wpIn_scope {c : Code} (h : c.wpIn F n P (Exit.noGoto Q) a w) : (Code.scope c).wpIn F n P Q a w := by
  intro b k cs hro hb hr
  have h0 : (lone (b.atR a (.code (.scope c) :: k)) cs w).fenced P F := fenced_calm hb hr rfl
  obtain ⟨e, a₁, w₁, hq, harr⟩ := h b (.inScope c :: k) cs hro hb hr
  cases e with
  | normal => exact ⟨.normal, a₁, w₁, hq, .head h0 stepR_scope (StepsIn.trans harr (.one (fenced_calm hb hr rfl) stepR_inScope))⟩
  | exit id =>
    have hx : exitTo id (.inScope c :: k) = exitTo id k := by simp [exitTo]
    exact ⟨.exit id, a₁, w₁, hq, fun k' hk => .head h0 stepR_scope (harr.1 k' (by rw [hx]; exact hk)),
      fun hr' hk => let ⟨k₁, h1, h2⟩ := harr.2 hr' (by rw [hx]; exact hk); ⟨k₁, h1, .head h0 stepR_scope h2⟩⟩
  | goto l => exact hq.elim
  | ret => exact ⟨_, a₁, w₁, hq, .of_steps (.one h0 stepR_scope) harr⟩
  | panic ch => exact ⟨_, a₁, w₁, hq, .of_steps (.one h0 stepR_scope) harr⟩
  | outgrown => exact ⟨_, a₁, w₁, hq, .of_steps (.one h0 stepR_scope) harr⟩
end
section
variable {P : Program} {r : Option Nat} {n : Nat} {f : Fr} {w : World}
section
variable {Qn Qr : List Nat → Fr → World → Prop} {Qx : Nat → List Nat → Fr → World → Prop} {ds : List Nat}
theorem CWD_scope {c : Code} (h : CWD P r n c Qn Qr Qx ds f w) : CWD P r n (.scope c) Qn Qr Qx ds f w := by
  intro a ha hd
  refine wpIn_scope (wpIn_mono (h a ha hd) ?_)
  rintro e a' w' ⟨f', ds', hr, hd', hq⟩
  cases e <;> simp only [Exit.noGoto] at hq ⊢
  all_goals exact ⟨f', ds', hr, hd', hq⟩
theorem CWD_label {l : Nat} (h : Qn ds f w) : CWD P r n (.label l) Qn Qr Qx ds f w := fun a ha hd => wpIn_label ⟨f, ds, ha, hd, h⟩
end
section
variable {Qn Qr : Fr → World → Prop} {Qx : Nat → Fr → World → Prop}
theorem CW_scope {c : Code} (h : CW P r n c Qn Qr Qx f w) : CW P r n (.scope c) Qn Qr Qx f w := CWD_scope h
theorem CW_label {l : Nat} (h : Qn f w) : CW P r n (.label l) Qn Qr Qx f w := CWD_label ⟨rfl, h⟩
end
/-- Code without a loop over an iterator, in code with marks. -/
theorem CWD_of_CW {c : Code} {Qn Qr : List Nat → Fr → World → Prop} {Qx : Nat → List Nat → Fr → World → Prop}
    (h : CW P r n c (Qn []) (Qr []) (fun i => Qx i []) f w) : CWD P r n c Qn Qr Qx [] f w :=
  CWD_mono h (fun ds f w ⟨e, h⟩ => by subst e; exact h) (fun ds f w ⟨e, h⟩ => by subst e; exact h) (fun i ds f w ⟨e, h⟩ => by subst e; exact h)

/-! ### A function's end -/
/-- The marks are taken one after the other. -/
def closeM (w : World) : List Nat → World
  | [] => w
  | D :: ds => closeM (w.putObj D (.deferred none)) ds
def MarksOk (w : World) (ds : List Nat) : Prop := ds.Nodup ∧ ∀ D ∈ ds, w.heap[D]? = some (.deferred (some []))
theorem leaves_close {fn : Func} {a : Act} {R : Ending → World → Prop} : ∀ (ds : List Nat) (w : World), MarksOk w ds → (∃ v, (results fn a.tmps).run P (closeM w ds) = .ok v (closeM w ds) ∧ R (.returned v) (closeM w ds)) →
    LeavesInM (FW none) 0 P fn a.tmps R (ds.map markOf) .returning w
  | [], w, _, h => by simpa only [List.map_nil, LeavesInM, LeavesIn, closeM] using h
  | D :: ds, w, hm, h => by
    simp only [List.map_cons, LeavesInM]
    obtain ⟨hn, hD⟩ := hm
    rw [List.nodup_cons] at hn
    refine ⟨by simp, .inl ⟨D, _, rfl, run_takeDeferred (hD D (by simp)), leaves_close ds _ ⟨hn.2, fun D' h' => ?_⟩ h⟩⟩
    rw [World.putObj_heap_other (by intro e; subst e; exact hn.1 h')]
    exact hD D' (by simp [h'])
theorem closeM_turn {H : HF} : ∀ (ds : List Nat) {w : World}, Sub H w → (∀ D ∈ ds, H D = none) → Turn (fun k => k ∈ ds) H w H (closeM w ds)
  | [], w, hS, _ => Turn.refl hS
  | D :: ds, w, hS, hD => by
    have h1 := Turn.put hS (hD D (by simp)) (.deferred none)
    exact (h1.wider fun k _ e => by simp [e]).trans ((closeM_turn ds h1.sub fun D' h' => hD D' (by simp [h'])).wider fun k _ h => by simp [h])
/-- A function's end with marks. -/
def FinD (P : Program) (rs : Array ResultVar) (R : Value → World → Prop) (ds : List Nat) (f : Fr) (w : World) : Prop :=
  MarksOk w ds ∧ Fin P rs R f (closeM w ds)
theorem FinD_nil {rs : Array ResultVar} {R : Value → World → Prop} (h : Fin P rs R f w) : FinD P rs R [] f w := ⟨⟨List.nodup_nil, fun _ h => by cases h⟩, h⟩
theorem CallW_of_CWD {k : FuncId} {fn : Func} {body : Code} {rs : Array ResultVar} {args : List Value} {R : Value → World → Prop} (hf : P.funcs[k]? = some fn) (hb : fn.body = some body) (hn : fn.ntmps = n) (hr : fn.results = rs) (hl : Nat.ble args.length n = true)
    (h : CWD P none n body (FinD P rs R) (FinD P rs R) (fun _ _ _ _ => False) [] (fr0 args) w) : CallW P k args.toArray w R := by
  refine callsIn_wide.1 (callsIn_of_wp_marks (F := Fence.wide) (n := 0) hf hb trivial ?_)
  have h1 := h _ (rep_fr0 args n (Nat.le_of_ble_eq_true hl)) rfl
  rw [hn]
  refine wpIn_mono h1 ?_
  rintro e a' w' ⟨f', ds', hr', hd', hq⟩
  cases e <;> simp only [bodyPostM] at hq ⊢
  · obtain ⟨hm, v, h2, h3⟩ := hq
    rw [hd']; exact leaves_close ds' w' hm ⟨v, h2 n a' fn hr' hr, v, rfl, h3⟩
  · obtain ⟨hm, v, h2, h3⟩ := hq
    rw [hd']; exact leaves_close ds' w' hm ⟨v, h2 n a' fn hr' hr, v, rfl, h3⟩
theorem Fn_of_CWD {k : FuncId} {fn : Func} {body : Code} {rs : Array ResultVar} {args : List Value} {H : HF} {R : Value → HF → Prop} (hf : P.funcs[k]? = some fn) (hb : fn.body = some body) (hn : fn.ntmps = n) (hr : fn.results = rs) (hl : Nat.ble args.length n = true)
    (h : ∀ w, Sub H w → CWD P none n body (FinD P rs fun v w' => ∃ H', Grow H w H' w' ∧ R v H') (FinD P rs fun v w' => ∃ H', Grow H w H' w' ∧ R v H') (fun _ _ _ _ => False) [] (fr0 args) w) : Fn P k args H R :=
  fun w hS => CallW_of_CWD hf hb hn hr hl (h w hS)
/-- One mark: what is known where it is taken. -/
theorem FinD_one {rs : Array ResultVar} {R : Value → World → Prop} {H : HF} {D : Nat} (hM : MarkAt H w D) (hS : Sub H w)
    (h : ∀ w', Turn (fun k => k = D) H w H w' → Fin P rs R f w') : FinD P rs R [D] f w :=
  ⟨⟨by simp, fun D' h' => by simp at h'; subst h'; exact hM.at_⟩, h _ (Turn.put hS hM.out _)⟩
theorem FinD_two {rs : Array ResultVar} {R : Value → World → Prop} {H : HF} {D E : Nat} (hM : MarkAt H w D) (hN : MarkAt H w E) (hne : E ≠ D) (hS : Sub H w)
    (h : ∀ w', Turn (fun k => k = D ∨ k = E) H w H w' → Fin P rs R f w') : FinD P rs R [E, D] f w := by
  refine ⟨⟨by simp [hne], fun D' h' => ?_⟩, h _ ?_⟩
  · simp at h'
    rcases h' with rfl | rfl
    · exact hN.at_
    · exact hM.at_
  · have h1 := Turn.put hS hN.out (.deferred none)
    exact (h1.wider fun k _ e => .inr e).trans ((Turn.put h1.sub hM.out _).wider fun k _ e => .inl e)
end

/-! ### The one who loops -/
section
variable {α : Type}
/-- An invariant over rows of the call's own: bs; the call began at w0. -/
def Hold (H0 : HF) (w0 : World) (bs : List Nat) (φ : List α → HF → World → Prop) : Inv α :=
  fun X pre H w => Grow H0 w0 H w ∧ (∀ k, X k → w0.heap.size ≤ k ∧ k < w.heap.size) ∧ (∀ b ∈ bs, ¬ X b ∧ b < w.heap.size) ∧ φ pre H w
/-- φ abides whatever turns beside bs. -/
def Abides (bs : List Nat) (φ : List α → HF → World → Prop) : Prop := ∀ S pre H w H' w', (∀ b ∈ bs, ¬ S b) → Turn S H w H' w' → φ pre H w → φ pre H' w'
theorem Hold.good {H0 : HF} {w0 : World} {bs : List Nat} {φ : List α → HF → World → Prop} (hφ : Abides bs φ) : Good (Hold H0 w0 bs φ) := by
  refine ⟨?_, ?_, fun X pre H w h k hk => (h.2.1 k hk).2⟩
  · rintro X pre H w H' w' ⟨hG, hX, hb, h⟩ hT
    refine ⟨Turn.grow hG hT fun k hk => (hX k hk).1, fun k hk => ?_, fun b h' => ⟨?_, Nat.lt_of_lt_of_le (hb b h').2 hT.size⟩, hφ X pre H w H' w' (fun b h' => (hb b h').1) hT h⟩
    · rcases hk with h1 | h1
      · exact ⟨(hX k h1).1, Nat.lt_of_lt_of_le (hX k h1).2 hT.size⟩
      · exact ⟨Nat.le_trans hG.below.size h1.1, h1.2⟩
    · rintro (h1 | h1)
      · exact (hb b h').1 h1
      · have := (hb b h').2; omega
  · rintro X X' pre H w hX ⟨h1, h2, h3, h4⟩
    exact ⟨h1, fun k hk => h2 k (hX k hk), fun b h' => ⟨fun h => (h3 b h').1 (hX b h), (h3 b h').2⟩, h4⟩
/-- Hold, with a slice of the call's own that grows. -/
def HoldO (H0 : HF) (w0 : World) (bs : List Nat) (E : TypeId) (sz : Nat) (cells : List α → List Value) (φ : Option Addr → Nat → Nat → List α → HF → World → Prop) : Inv α :=
  fun X pre H w => Grow H0 w0 H w ∧ (∀ k, X k → w0.heap.size ≤ k ∧ k < w.heap.size) ∧ (∀ b ∈ bs, ¬ X b ∧ b < w.heap.size) ∧
    ∃ A n c, Own H w w0.heap.size E sz A n c (cells pre) ∧ (∀ a, A = some a → ¬ X a.block) ∧ φ A n c pre H w
theorem HoldO.good {H0 : HF} {w0 : World} {bs : List Nat} {E : TypeId} {sz : Nat} {cells : List α → List Value} {φ : Option Addr → Nat → Nat → List α → HF → World → Prop} (hφ : ∀ A n c, Abides bs (φ A n c)) : Good (HoldO H0 w0 bs E sz cells φ) := by
  refine ⟨?_, ?_, fun X pre H w h k hk => (h.2.1 k hk).2⟩
  · rintro X pre H w H' w' ⟨hG, hX, hb, A, n, c, ho, hA, h⟩ hT
    refine ⟨Turn.grow hG hT fun k hk => (hX k hk).1, fun k hk => ?_, fun b h' => ⟨?_, Nat.lt_of_lt_of_le (hb b h').2 hT.size⟩, A, n, c, ho.turn hT hA, fun a ha => ?_, hφ A n c X pre H w H' w' (fun b h' => (hb b h').1) hT h⟩
    · rcases hk with h1 | h1
      · exact ⟨(hX k h1).1, Nat.lt_of_lt_of_le (hX k h1).2 hT.size⟩
      · exact ⟨Nat.le_trans hG.below.size h1.1, h1.2⟩
    · rintro (h1 | h1)
      · exact (hb b h').1 h1
      · have := (hb b h').2; omega
    · rintro (h1 | h1)
      · exact hA a ha h1
      · have := (ho.block ha).2; omega
  · rintro X X' pre H w hX ⟨h1, h2, h3, A, n, c, h4, h5, h6⟩
    exact ⟨h1, fun k hk => h2 k (hX k hk), fun b h' => ⟨fun h => (h3 b h').1 (hX b h), (h3 b h').2⟩, A, n, c, h4, fun a ha h => h5 a ha (hX _ h), h6⟩
end
end Go.Proofs.Ytnjeoobcejlojaa
