/- Calls of function values; iterators and loops over them. Conditions: each law's own premises. -/
import Derived.Test.YtnjeoobcejlojaaNew
import Derived.RangeFuncNested
namespace Go.Proofs.Ytnjeoobcejlojaa
open Go.Proofs Go.RowKit
set_option linter.unusedVariables false
set_option linter.unusedSimpArgs false

/-! ### A call of a function value -/
/-- The value v, called on these arguments, ends as K says. -/
def CallV (P : Program) (v : Value) (args : List Value) (w : World) (K : Value → World → Prop) : Prop :=
  ∀ (r : Option Nat) (f : Fr) (d : Option Nat) (fv : Operand) (as : Array Operand) (at_ : Array TypeId) (ty : TypeId) (pos : String) (af : Array Edge) (g : Option (Nat × Bool)),
    ev f fv = v → as.toList.map (ev f) = args → OpW P r ⟨d, .call { callee := .value fv, args := as, argTypes := at_ }, ty, pos, af, g⟩ f w K
theorem CallV.mono {P : Program} {v : Value} {args : List Value} {w : World} {K K' : Value → World → Prop} (h : CallV P v args w K) (hk : ∀ v w', K v w' → K' v w') : CallV P v args w K' :=
  fun r f d fv as at_ ty pos af g h1 h2 => (h r f d fv as at_ ty pos af g h1 h2).mono hk
theorem W_callVal {P : Program} {r : Option Nat} {f : Fr} {d : Option Nat} {fv : Operand} {as : Array Operand} {at_ : Array TypeId} {ty : TypeId} {pos : String} {af : Array Edge} {g : Option (Nat × Bool)} {v : Value} {args : List Value} {w : World} {K : Value → World → Prop}
    (h1 : ev f fv = v) (h2 : as.toList.map (ev f) = args) (h : CallV P v args w K) : OpW P r ⟨d, .call { callee := .value fv, args := as, argTypes := at_ }, ty, pos, af, g⟩ f w K :=
  h r f d fv as at_ ty pos af g h1 h2
theorem CallV_func {P : Program} {k : FuncId} [FnCall P k] {fi ca : Array Value} {args : List Value} {w : World} {K : Value → World → Prop} (h : CallW P k (fi.toList ++ args ++ ca.toList).toArray w K) : CallV P (.func (.func k) fi ca) args w K :=
  fun r f d fv as at_ ty pos af g h1 h2 => W_callV h1 (by rw [h2]) h
theorem roundIn_any {P : Program} {l : Nat} {fn : FuncId} {tmps : Array Value} {assign body : Code} {w : World} {R : Ending → World → Prop} (r : Option Nat) (h : RoundIn (FW none) 0 P l fn tmps assign body w R) :
    RoundIn (FW r) 0 P l fn tmps assign body w R := h
theorem CallV_yield {P : Program} {l : Nat} {args : List Value} {w : World} {K : Value → World → Prop} {fn : FuncId} {tmps : Array Value} {assign body : Code}
    (hy : (Instr.yield l args.toArray).run P w = .ok (.round l fn tmps assign body) w) (h : RoundIn (FW none) 0 P l fn tmps assign body w fun e w' => ∃ v, e = .returned v ∧ K v w') :
    CallV P (.func (.yield l) #[] #[]) args w K := by
  intro r f d fv as at_ ty pos af g h1 h2
  intro a n ha Q
  refine ⟨fun _ _ => trivial, ?_⟩
  have e : as.map (ev f) = args.toArray := by rw [← h2]; apply Array.ext'; simp
  have hx : (execOp (ev f) ⟨d, .call { callee := .value fv, args := as, argTypes := at_ }, ty, pos, af, g⟩).run P w = .ok (.round l fn tmps assign body) w := by
    simp [execOp, resolve, h1, Deferred.ofValue, invoke, e, Sem.run_bind, hy]
  rw [Oper.semAt_eq _ _ _ (by simp), ha.eval, hx]
  refine ⟨fun h => by simp [FW] at h, ?_⟩
  refine (roundIn_any r h).mono ?_
  rintro e w'' ⟨v, rfl, hK⟩
  exact ⟨v, rfl, hK⟩
/-- A round, from its code. -/
theorem roundIn_of_CW {P : Program} {n l : Nat} {fn : FuncId} {tmps : Array Value} {assign body : Code} {w : World} {K : Value → World → Prop} {f : Fr} (hr : Rep n { tmps := tmps, defers := [] } f)
    (h : CW P (some l) n assign (fun f1 W1 => ∃ W2, (Instr.beginRound l).run P W1 = .ok () W2 ∧
      CW P (some l) n body (fun _ W => ∃ v w', (Instr.endRound l none).run P W = .ok v w' ∧ K v w') (fun _ W => ∃ v w', (Instr.endRound l (some .ret)).run P W = .ok v w' ∧ K v w')
        (fun i _ W => ∃ v w', (Instr.endRound l (some (.exit i))).run P W = .ok v w' ∧ K v w') f1 W2) (fun _ _ => False) (fun _ _ _ => False) f w) :
    RoundIn (FW none) 0 P l fn tmps assign body w fun e w' => ∃ v, e = .returned v ∧ K v w' := by
  refine roundIn_of_wpIn (F := FW none) trivial ?_
  refine wpIn_mono (h _ hr rfl) ?_
  rintro e a' w' ⟨f', ds', hr', hd', hq⟩
  cases e <;> simp only [Exit.then] at hq ⊢
  · obtain ⟨rfl, W2, hb, hbody⟩ := hq
    refine ⟨W2, hb, wpIn_mono (hbody a' hr' hd') ?_⟩
    rintro e a3 w3 ⟨f3, ds3, hr3, hd3, hq3⟩
    cases e <;> simp only [roundPost] at hq3 ⊢
    · obtain ⟨_, v, w4, h1, h2⟩ := hq3; exact ⟨v, w4, h1, v, rfl, h2⟩
    · obtain ⟨_, v, w4, h1, h2⟩ := hq3; exact ⟨v, w4, h1, v, rfl, h2⟩
    · obtain ⟨_, v, w4, h1, h2⟩ := hq3; exact ⟨v, w4, h1, v, rfl, h2⟩
  · exact hq.2
  · exact hq.2

/-! ### Iterators -/
abbrev Inv (α : Type) := (Nat → Prop) → List α → HF → World → Prop
def orNew (X : Nat → Prop) (w w' : World) : Nat → Prop := fun k => X k ∨ (w.heap.size ≤ k ∧ k < w'.heap.size)
/-- X: what belongs to the one who calls: J abides whatever turns there. -/
def Stable {α : Type} (J : Inv α) : Prop := ∀ X pre H w H' w', J X pre H w → Turn X H w H' w' → J (orNew X w w') pre H' w'
def notIn (X : Nat → Prop) : Nat → Prop := fun k => ¬ X k
/-- What yield does, called on the x of xs in order. -/
def Yields {α : Type} (P : Program) (y : Value) (enc : α → List Value) (xs : List α) (J Jx : Inv α) : Prop :=
  ∀ X pre x rest H w, xs = pre ++ x :: rest → Sub H w → J X pre H w → CallV P y (enc x) w fun v w' => ∃ H', Turn (notIn X) H w H' w' ∧ ((v = .bool true ∧ J X (pre ++ [x]) H' w') ∨ (v = .bool false ∧ Jx X (pre ++ [x]) H' w'))
/-- Where an iteration ends. S: what the iterator itself turns. -/
def IterEnd {α : Type} (xs : List α) (J Jx : Inv α) (S X : Nat → Prop) (H : HF) (w w' : World) : Prop :=
  ∃ H' X', Turn (fun k => ¬ X k ∨ S k) H w H' w' ∧ (∀ k, X k → X' k) ∧ (∀ k, X' k → X k ∨ w.heap.size ≤ k) ∧ (J X' xs H' w' ∨ ∃ pre rest, xs = pre ++ rest ∧ Jx X' pre H' w')
/-- The closure of gf with lb gives xs. -/
def IterAt {α : Type} (P : Program) (gf : Nat) (lb : List Value) (enc : α → List Value) (xs : List α) (S : Nat → Prop) (H : HF) (w : World) : Prop :=
  ∀ (y : Value) (J Jx : Inv α) (X : Nat → Prop), y.cells = #[y] → (∀ k, S k → X k) → (∀ k, X k → k < w.heap.size) → Stable J → Stable Jx → Yields P y enc xs J Jx → Sub H w → J X [] H w → CallW P gf (y :: lb).toArray w fun _ w' => IterEnd xs J Jx S X H w w'

/-- What an invariant of a loop keeps beside. -/
structure Good {α : Type} (I : Inv α) : Prop where
  stable : Stable I
  anti : ∀ X X' pre H w, (∀ k, X k → X' k) → I X' pre H w → I X pre H w
  bnd : ∀ X pre H w, I X pre H w → ∀ k, X k → k < w.heap.size
/-! ### Marks and records -/
structure MarkAt (H : HF) (w : World) (D : Nat) : Prop where
  out : H D = none
  at_ : w.heap[D]? = some (.deferred (some []))
theorem MarkAt.lt {H : HF} {w : World} {D : Nat} (h : MarkAt H w D) : D < w.heap.size := (Array.getElem?_eq_some_iff.1 h.at_).1
theorem MarkAt.turn {S : Nat → Prop} {H H' : HF} {w w' : World} {D : Nat} (h : MarkAt H w D) (hT : Turn S H w H' w') (hs : ¬ S D) : MarkAt H' w' D :=
  ⟨(hT.old D h.lt).trans h.out, (hT.block D h.lt hs).trans h.at_⟩
theorem MarkAt.grow {H H' : HF} {w w' : World} {D : Nat} (h : MarkAt H w D) (hG : Grow H w H' w') : MarkAt H' w' D := h.turn (S := fun _ => False) hG.turn (fun h => h)
theorem MarkAt.other {H : HF} {w w' : World} {D : Nat} {row : Option Nat} (h : MarkAt H w D) (hg : w.grownBy w' row) (hr : row ≠ some D) : MarkAt H w' D :=
  ⟨h.out, (hg.block D h.lt (fun e => hr e.symm)).trans h.at_⟩
theorem Turn.put {H : HF} {w : World} {L : Nat} (hS : Sub H w) (hL : H L = none) (o : Obj) : Turn (fun k => k = L) H w H (w.putObj L o) := by
  refine ⟨rfl, rfl, rfl, Nat.le_of_eq World.putObj_size.symm, fun k _ hk => World.putObj_heap_other hk, ⟨fun b o' e => ?_⟩, HLe.refl _, fun _ _ => rfl⟩
  have : b ≠ L := by intro e2; subst e2; rw [hL] at e; cases e
  rw [World.putObj_heap_other this]; exact hS.out b o' e
theorem Turn.alloc {S : Nat → Prop} {H : HF} {w : World} (hS : Sub H w) (o : Obj) : Turn S H w H (w.alloc o) := (Grow.allocMut hS o).turn
theorem orNew_same {X : Nat → Prop} {w w' : World} (h : w'.heap.size = w.heap.size) : orNew X w w' = X := by
  funext k; apply propext
  constructor
  · rintro (h1 | h1)
    · exact h1
    · omega
  · exact .inl
def with2 (X : Nat → Prop) (D L : Nat) : Nat → Prop := fun k => X k ∨ k = D ∨ k = L
theorem with2_new (X : Nat → Prop) (D L : Nat) (w w' : World) : orNew (with2 X D L) w w' = with2 (orNew X w w') D L := by
  funext k; apply propext
  constructor
  · rintro ((h | h) | h)
    · exact .inl (.inl h)
    · exact .inr h
    · exact .inl (.inr h)
  · rintro ((h | h) | h)
    · exact .inl (.inl h)
    · exact .inr h
    · exact .inl (.inr h)
theorem Stable.put {α : Type} {J : Inv α} (hJ : Stable J) {X : Nat → Prop} {pre : List α} {H : HF} {w : World} {L : Nat} (hS : Sub H w) (hL : H L = none) (hX : X L) (o : Obj) (h : J X pre H w) : J X pre H (w.putObj L o) := by
  have := hJ _ _ _ _ _ _ h ((Turn.put hS hL o).wider (fun b _ e => by subst e; exact hX))
  rwa [orNew_same World.putObj_size] at this
def puts : List Tmp → List Value → Fr → Fr
  | p :: ps, v :: vs, f => puts ps vs (upd f p v)
  | _, _, f => f
theorem puts_rep {n : Nat} : ∀ (ps : List Tmp) (vs : List Value) (t : Array Value) (f : Fr), (∀ p ∈ ps, p < n) → Rep n { tmps := t, defers := [] } f →
    Rep n { tmps := (ps.zip vs).foldl (fun t (p, v) => t.setIfInBounds p v) t, defers := [] } (puts ps vs f)
  | [], _, t, f, _, h => h
  | p :: ps, [], t, f, _, h => h
  | p :: ps, v :: vs, t, f, hp, h => by
    have h1 := h.put (some p) (fun d e => by cases e; exact hp p (by simp)) v
    exact puts_rep ps vs _ _ (fun q hq => hp q (by simp [hq])) ⟨h1.size, h1.at_⟩
theorem zip_foldl_arr (ps : Array Tmp) (vs : List Value) (t : Array Value) : (ps.zip vs.toArray).foldl (fun tmps (t, a) => tmps.setIfInBounds t a) t = (ps.toList.zip vs).foldl (fun t (p, v) => t.setIfInBounds p v) t := by
  rw [← Array.foldl_toList]
  simp

/-! ### A loop over an iterator -/
theorem CWD_rangeFunc {P : Program} {α : Type} {n : Nat} {g : Operand} {ps : Array Tmp} {assign body : Code} {f : Fr} {ds : List Nat} {gf : Nat} {lb : List Value} [FnCall P gf] {enc : α → List Value} {xs : List α} {S : Nat → Prop} {H : HF} {w : World}
    {Qn Qr : List Nat → Fr → World → Prop} {Qx : Nat → List Nat → Fr → World → Prop}
    (hg : ev f g = .func (.func gf) #[] lb.toArray) (hS : Sub H w) (hps : ∀ x, (enc x).length = ps.size) (hpn : ∀ p ∈ ps.toList, p < n)
    (hIt : ∀ w1, Grow H w H w1 → IterAt P gf lb enc xs S H w1) (hSw : ∀ k, S k → k < w.heap.size)
    (I : Inv α) (Ix : Code → Inv α) (hI : Stable I) (hIx : ∀ c, Stable (Ix c)) (h0 : I S [] H w)
    (A : α → Fr → Inv α) (hA : ∀ x f, Stable (A x f))
    (hassign : ∀ l X pre x rest H1 W, xs = pre ++ x :: rest → Sub H1 W → I X pre H1 W →
      CW P (some l) n assign (fun f1 W1 => ∃ H2, Turn (notIn X) H1 W H2 W1 ∧ A x f1 X pre H2 W1) (fun _ _ => False) (fun _ _ _ => False) (puts ps.toList (enc x) f) W)
    (hbody : ∀ l X pre x rest f1 H1 W, xs = pre ++ x :: rest → Sub H1 W → A x f1 X pre H1 W →
      CW P (some l) n body (fun _ W' => ∃ H', Turn (notIn X) H1 W H' W' ∧ I X (pre ++ [x]) H' W') (fun _ W' => ∃ H', Turn (notIn X) H1 W H' W' ∧ Ix .ret X (pre ++ [x]) H' W')
        (fun i _ W' => ∃ H', Turn (notIn X) H1 W H' W' ∧ Ix (.exit i) X (pre ++ [x]) H' W') f1 W)
    (hdone : ∀ D X H' W', w.heap.size ≤ D → MarkAt H' W' D → Sub H' W' → HLe H H' → (∀ k, X k → S k ∨ w.heap.size ≤ k) → X D → I X xs H' W' → Qn (D :: ds) f W')
    (hret : ∀ D X H' W' pre rest, xs = pre ++ rest → w.heap.size ≤ D → MarkAt H' W' D → Sub H' W' → HLe H H' → (∀ k, X k → S k ∨ w.heap.size ≤ k) → X D → Ix .ret X pre H' W' → Qr (D :: ds) f W')
    (hexit : ∀ i D X H' W' pre rest, xs = pre ++ rest → w.heap.size ≤ D → MarkAt H' W' D → Sub H' W' → HLe H H' → (∀ k, X k → S k ∨ w.heap.size ≤ k) → X D → Ix (.exit i) X pre H' W' → Qx i (D :: ds) f W') :
    CWD P none n (.rangeFunc g ps assign body) Qn Qr Qx ds f w := by
  intro a ha hda
  refine wpIn_rangeFunc ?_
  intro fn _
  obtain ⟨rec, hrec⟩ : ∃ rec : LoopState → Option Code → Loop, rec = fun st pe => { state := st, pending := pe, fn, tmps := a.tmps, params := ps, assign, body, defers := w.heap.size } := ⟨_, rfl⟩
  obtain ⟨W1, hW1⟩ : ∃ W1, (w.alloc (.deferred (some []))).alloc (.loop (rec .ready none)) = W1 := ⟨_, rfl⟩
  obtain ⟨D, hD⟩ : ∃ D, w.heap.size = D := ⟨_, rfl⟩
  obtain ⟨L, hL⟩ : ∃ L, w.heap.size + 1 = L := ⟨_, rfl⟩
  have hDL : D ≠ L := by omega
  have hL1 : W1.heap[L]? = some (.loop (rec .ready none)) := by
    rw [← hW1, ← hL]; have := World.alloc_heap_new (w.alloc (.deferred (some []))) (.loop (rec .ready none)); rwa [World.size_alloc] at this
  have hD1 : W1.heap[D]? = some (.deferred (some [])) := by
    rw [← hW1, ← hD]; exact (Below.heap_alloc _ _ _ (by simp)).trans (World.alloc_heap_new w _)
  have hG1 : Grow H w H W1 := by
    rw [← hW1]
    exact (Grow.allocMut hS _).trans (Grow.allocMut (Grow.allocMut hS _).sub _)
  have hs1 : W1.heap.size = w.heap.size + 2 := by rw [← hW1]; simp
  have hHD : H D = none := hS.fresh (by omega)
  have hHL : H L = none := hS.fresh (by omega)
  have hSD : ¬ S D := fun h => by have := hSw D h; omega
  have hSL : ¬ S L := fun h => by have := hSw L h; omega
  have hI1 : I (with2 S D L) [] H W1 := by
    have := hI _ _ _ _ _ _ h0 hG1.turn
    have e : orNew S w W1 = with2 S D L := by
      funext k; apply propext; simp only [orNew, with2, hs1]; constructor <;> rintro (h | h)
      · exact .inl h
      · exact .inr (by omega)
      · exact .inl h
      · exact .inr (by omega)
    rwa [e] at this
  refine ⟨L, [markOf D], W1, { target := .fn (.func gf) lb.toArray, args := #[.func (.yield L) #[] #[]] }, W1, gf, (.func (.yield L) #[] #[] :: lb).toArray, W1, ?_, ?_, fun _ _ => trivial, ?_, fun h => by simp [FW] at h, ?_⟩
  · rw [← hW1, hrec, ← hL, ← hD]; exact run_enterLoop_outer _ _ _ _ _
  · simp only [resolve, ha.eval, hg]
    simp [go_sem, ev]
  · have := FnCall.out (P := P) (k := gf) (.func (.yield L) #[] #[] :: lb).toArray W1
    simp [invoke, go_sem] 
    simpa using this
  · have hJ0 : ∀ {X : Nat → Prop} {H1 : HF} {W : World} {o : Obj} {w' : World} {H' : HF} {B : Nat}, W.heap[B]? = some o → Turn X H1 W H' w' → ¬ X B → w'.heap[B]? = some o := by
      intro X H1 W o w' H' B h hT hX
      exact (hT.block B (Array.getElem?_eq_some_iff.1 h).1 hX).trans h
    let J : Inv α := fun X pre H1 W => I (with2 X D L) pre H1 W ∧ ¬ X D ∧ ¬ X L ∧ H1 D = none ∧ H1 L = none ∧ W.heap[L]? = some (.loop (rec .ready none)) ∧ W.heap[D]? = some (.deferred (some []))
    let Jx : Inv α := fun X pre H1 W => ∃ c, (c = .ret ∨ ∃ i, c = .exit i) ∧ Ix c (with2 X D L) pre H1 W ∧ ¬ X D ∧ ¬ X L ∧ H1 D = none ∧ H1 L = none ∧ W.heap[L]? = some (.loop (rec .done (some c))) ∧ W.heap[D]? = some (.deferred (some []))
    have hltB : ∀ {W : World} {B : Nat} {o : Obj}, W.heap[B]? = some o → B < W.heap.size := fun h => (Array.getElem?_eq_some_iff.1 h).1
    have hJst : Stable J := by
      rintro X pre H1 W H2 W2 ⟨h1, h2, h3, h4, h5, h6, h7⟩ hT
      refine ⟨?_, ?_, ?_, (hT.old D (hltB h7)).trans h4, (hT.old L (hltB h6)).trans h5, hJ0 h6 hT h3, hJ0 h7 hT h2⟩
      · rw [← with2_new]; exact hI _ _ _ _ _ _ h1 (hT.wider fun k _ h => .inl h)
      · rintro (h | h)
        · exact h2 h
        · have := hltB h7; omega
      · rintro (h | h)
        · exact h3 h
        · have := hltB h6; omega
    have hJxst : Stable Jx := by
      rintro X pre H1 W H2 W2 ⟨c, hc, h1, h2, h3, h4, h5, h6, h7⟩ hT
      refine ⟨c, hc, ?_, ?_, ?_, (hT.old D (hltB h7)).trans h4, (hT.old L (hltB h6)).trans h5, hJ0 h6 hT h3, hJ0 h7 hT h2⟩
      · rw [← with2_new]; exact hIx c _ _ _ _ _ _ h1 (hT.wider fun k _ h => .inl h)
      · rintro (h | h)
        · exact h2 h
        · have := hltB h7; omega
      · rintro (h | h)
        · exact h3 h
        · have := hltB h6; omega
    have hYi : Yields P (.func (.yield L) #[] #[]) enc xs J Jx := by
      rintro X pre x rest H1 W hx hSW ⟨hi, hXD, hXL, h4, h5, h6, h7⟩
      have hy := run_yield (P := P) (args := (enc x).toArray) h6 (by rw [hrec]; simp [hps])
      rw [hrec] at hy
      refine CallV_yield hy ?_
      simp only [zip_foldl_arr]
      refine roundIn_of_CW (n := n) (puts_rep _ _ _ _ hpn ⟨ha.size, ha.at_⟩) ?_
      have hnD : ¬ notIn (with2 X D L) D := fun h => h (.inr (.inl rfl))
      have hnL : ¬ notIn (with2 X D L) L := fun h => h (.inr (.inr rfl))
      have hnX : ∀ k, notIn (with2 X D L) k → notIn X k := fun k h h2 => h (.inl h2)
      have hnXL : ∀ k, k = L → notIn X k := fun k e h => hXL (by rwa [e] at h)
      refine CW_mono (hassign L (with2 X D L) pre x rest H1 W hx hSW hi) ?_ (fun _ _ h => h.elim) (fun _ _ _ h => h.elim)
      rintro f1 Wa ⟨H2, hTa, hax⟩
      have h6a := hJ0 h6 hTa hnL
      have h7a := hJ0 h7 hTa hnD
      have h4a := (hTa.old D (hltB h7)).trans h4
      have h5a := (hTa.old L (hltB h6)).trans h5
      refine ⟨_, run_beginRound h6a (by rw [hrec]), ?_⟩
      obtain ⟨Wb, hWb⟩ : ∃ Wb, Wa.putObj L (.loop { rec .ready none with state := .busy }) = Wb := ⟨_, rfl⟩
      rw [hWb]
      have hTb : Turn (fun k => k = L) H2 Wa H2 Wb := by rw [← hWb]; exact Turn.put hTa.sub h5a _
      have hab : A x f1 (with2 X D L) pre H2 Wb := by rw [← hWb]; exact (hA x f1).put hTa.sub h5a (.inr (.inr rfl)) _ hax
      have h6b : Wb.heap[L]? = some (.loop { rec .ready none with state := .busy }) := by rw [← hWb]; exact World.putObj_heap_same (hltB h6a)
      have h7b : Wb.heap[D]? = some (.deferred (some [])) := by rw [← hWb]; exact (World.putObj_heap_other hDL).trans h7a
      have fin : ∀ (jump : Option Code) (W3 : World) (H3 : HF), Turn (notIn (with2 X D L)) H2 Wb H3 W3 →
          ∃ W4, (Instr.endRound L jump).run P W3 = .ok (.bool jump.isNone) W4 ∧ W4 = W3.putObj L (.loop (rec (if jump.isNone then .ready else .done) jump)) ∧ H3 D = none ∧ H3 L = none ∧
            W4.heap[L]? = some (.loop (rec (if jump.isNone then .ready else .done) jump)) ∧ W4.heap[D]? = some (.deferred (some [])) ∧ Turn (notIn X) H1 W H3 W4 := by
        intro jump W3 H3 hT3
        have h6c := hJ0 h6b hT3 hnL
        have h7c := hJ0 h7b hT3 hnD
        have h5c := (hT3.old L (hltB h6b)).trans h5a
        have h4c := (hT3.old D (hltB h7b)).trans h4a
        have hr := run_endRound (P := P) jump h6c
        rw [hrec] at hr ⊢
        refine ⟨_, hr, rfl, h4c, h5c, World.putObj_heap_same (hltB h6c), (World.putObj_heap_other hDL).trans h7c, ?_⟩
        exact (((hTa.wider fun k _ => hnX k).trans (hTb.wider fun k _ => hnXL k)).trans (hT3.wider fun k _ => hnX k)).trans ((Turn.put hT3.sub h5c _).wider fun k _ => hnXL k)
      refine CW_mono (hbody L (with2 X D L) pre x rest f1 H2 Wb hx hTb.sub hab) ?_ ?_ ?_
      · rintro _ W3 ⟨H3, hT3, hi3⟩
        obtain ⟨W4, hr, rfl, h4d, h5d, h6d, h7d, hT⟩ := fin none W3 H3 hT3
        exact ⟨_, _, hr, H3, hT, .inl ⟨rfl, hI.put hT3.sub h5d (.inr (.inr rfl)) _ hi3, hXD, hXL, h4d, h5d, h6d, h7d⟩⟩
      · rintro _ W3 ⟨H3, hT3, hi3⟩
        obtain ⟨W4, hr, rfl, h4d, h5d, h6d, h7d, hT⟩ := fin (some .ret) W3 H3 hT3
        exact ⟨_, _, hr, H3, hT, .inr ⟨rfl, .ret, .inl rfl, (hIx _).put hT3.sub h5d (.inr (.inr rfl)) _ hi3, hXD, hXL, h4d, h5d, h6d, h7d⟩⟩
      · rintro i _ W3 ⟨H3, hT3, hi3⟩
        obtain ⟨W4, hr, rfl, h4d, h5d, h6d, h7d, hT⟩ := fin (some (.exit i)) W3 H3 hT3
        exact ⟨_, _, hr, H3, hT, .inr ⟨rfl, .exit i, .inr ⟨i, rfl⟩, (hIx _).put hT3.sub h5d (.inr (.inr rfl)) _ hi3, hXD, hXL, h4d, h5d, h6d, h7d⟩⟩
    have hcall := hIt W1 hG1 (.func (.yield L) #[] #[]) J Jx S rfl (fun _ h => h) (fun k hk => by have := hSw k hk; omega) hJst hJxst hYi hG1.sub ⟨hI1, hSD, hSL, hHD, hHL, hL1, hD1⟩
    refine (callsIn_of (r := none) hcall).mono ?_
    rintro e w' ⟨v, rfl, H', X', hT, hX1, hX2, hend⟩
    have hXw : ∀ k, with2 X' D L k → S k ∨ w.heap.size ≤ k := by
      rintro k (h | h)
      · rcases hX2 k h with h | h
        · exact .inl h
        · exact .inr (by omega)
      · exact .inr (by omega)
    rcases hend with ⟨hi, hXD, hXL, h4, h5, h6, h7⟩ | ⟨pre, rest, hx, c, hc, hi, hXD, hXL, h4, h5, h6, h7⟩
    · refine ⟨none, w'.putObj L (.loop { rec .ready none with state := .exhausted }), ?_, ?_⟩
      · have := run_endLoop (P := P) h6 (by rw [hrec]; simp)
        rw [hrec] at this ⊢; exact this
      · refine ⟨f, D :: ds, ⟨ha.size, ha.at_⟩, by simp [hda], ?_⟩
        exact hdone D _ H' _ (by omega) ⟨h4, (World.putObj_heap_other hDL).trans h7⟩ (Turn.put hT.sub h5 _).sub hT.le hXw (.inr (.inl rfl)) (hI.put hT.sub h5 (.inr (.inr rfl)) _ hi)
    · refine ⟨some c, w'.putObj L (.loop { rec .done (some c) with state := .exhausted }), ?_, ?_⟩
      · have := run_endLoop (P := P) h6 (by rw [hrec]; simp)
        rw [hrec] at this ⊢; exact this
      · have hq := (hIx c).put hT.sub h5 (.inr (.inr rfl)) (.loop { rec .done (some c) with state := .exhausted }) hi
        have hM : MarkAt H' (w'.putObj L (.loop { rec .done (some c) with state := .exhausted })) D := ⟨h4, (World.putObj_heap_other hDL).trans h7⟩
        rcases hc with rfl | ⟨i, rfl⟩
        · refine wpIn_ret ⟨f, D :: ds, ⟨ha.size, ha.at_⟩, by simp [hda], ?_⟩
          exact hret D _ H' _ pre rest hx (by omega) hM (Turn.put hT.sub h5 _).sub hT.le hXw (.inr (.inl rfl)) hq
        · refine wpIn_exit ⟨f, D :: ds, ⟨ha.size, ha.at_⟩, by simp [hda], ?_⟩
          exact hexit i D _ H' _ pre rest hx (by omega) hM (Turn.put hT.sub h5 _).sub hT.le hXw (.inr (.inl rfl)) hq
/-- The body's walk. -/
def RoundOk {α : Type} (P : Program) (n : Nat) (body : Code) (xs : List α) (I : Inv α) (Ix : Code → Inv α) (x : α) (f : Fr) (M : (Nat → Prop) → HF → World → Prop) : Prop :=
  ∀ l X pre rest H W, xs = pre ++ x :: rest → Sub H W → I X pre H W → M X H W →
      CW P (some l) n body (fun _ W' => ∃ H', Turn (notIn X) H W H' W' ∧ I X (pre ++ [x]) H' W') (fun _ W' => ∃ H', Turn (notIn X) H W H' W' ∧ Ix .ret X (pre ++ [x]) H' W')
        (fun i _ W' => ∃ H', Turn (notIn X) H W H' W' ∧ Ix (.exit i) X (pre ++ [x]) H' W') f W
/-- The loop variables lie in temporaries. -/
theorem CWD_range {P : Program} {α : Type} {n : Nat} {g : Operand} {ps : Array Tmp} {assign body : Code} {f : Fr} {ds : List Nat} {gf : Nat} {lb : List Value} [FnCall P gf] {enc : α → List Value} {xs : List α} {S : Nat → Prop} {H : HF} {w : World}
    {Qn Qr : List Nat → Fr → World → Prop} {Qx : Nat → List Nat → Fr → World → Prop}
    (I : Inv α) (Ix : Code → Inv α) (hI : Good I) (hIx : ∀ c, Stable (Ix c)) (h0 : I S [] H w)
    (hg : ev f g = .func (.func gf) #[] lb.toArray) (hS : Sub H w) (hps : ∀ x, (enc x).length = ps.size) (hpn : ∀ p ∈ ps.toList, p < n)
    (hIt : ∀ w1, Grow H w H w1 → IterAt P gf lb enc xs S H w1) (hSw : ∀ k, S k → k < w.heap.size)
    (hround : ∀ l x W, CW P (some l) n assign (fun f1 W1 => W1 = W ∧ RoundOk P n body xs I Ix x f1 (fun _ _ _ => True)) (fun _ _ => False) (fun _ _ _ => False) (puts ps.toList (enc x) f) W)
    (hdone : ∀ D X H' W', w.heap.size ≤ D → MarkAt H' W' D → Sub H' W' → HLe H H' → (∀ k, X k → S k ∨ w.heap.size ≤ k) → X D → I X xs H' W' → Qn (D :: ds) f W')
    (hret : ∀ D X H' W' pre rest, xs = pre ++ rest → w.heap.size ≤ D → MarkAt H' W' D → Sub H' W' → HLe H H' → (∀ k, X k → S k ∨ w.heap.size ≤ k) → X D → Ix .ret X pre H' W' → Qr (D :: ds) f W')
    (hexit : ∀ i D X H' W' pre rest, xs = pre ++ rest → w.heap.size ≤ D → MarkAt H' W' D → Sub H' W' → HLe H H' → (∀ k, X k → S k ∨ w.heap.size ≤ k) → X D → Ix (.exit i) X pre H' W' → Qx i (D :: ds) f W') :
    CWD P none n (.rangeFunc g ps assign body) Qn Qr Qx ds f w := by
  refine CWD_rangeFunc hg hS hps hpn hIt hSw I Ix hI.stable hIx h0 (fun x f1 X pre H W => I X pre H W ∧ RoundOk P n body xs I Ix x f1 (fun _ _ _ => True))
    (fun x f1 X pre H1 W H2 W2 h hT => ⟨hI.stable _ _ _ _ _ _ h.1 hT, h.2⟩) ?_ ?_ hdone hret hexit
  · intro l X pre x rest H1 W hx hS1 hi
    refine CW_mono (hround l x W) ?_ (fun _ _ h => h) (fun _ _ _ h => h)
    rintro f1 W1 ⟨rfl, hb⟩
    exact ⟨H1, Turn.refl hS1, hi, hb⟩
  · intro l X pre x rest f1 H1 W hx hS1 h
    exact h.2 l X pre rest H1 W hx hS1 h.1 trivial
/-- A loop variable lies in a row of its own. -/
theorem CWD_rangeBox {P : Program} {α : Type} {n : Nat} {g : Operand} {ps : Array Tmp} {assign body : Code} {f : Fr} {ds : List Nat} {gf : Nat} {lb : List Value} [FnCall P gf] {enc : α → List Value} {xs : List α} {S : Nat → Prop} {H : HF} {w : World}
    {Qn Qr : List Nat → Fr → World → Prop} {Qx : Nat → List Nat → Fr → World → Prop}
    (I : Inv α) (Ix : Code → Inv α) (hI : Good I) (hIx : ∀ c, Stable (Ix c)) (h0 : I S [] H w)
    (hg : ev f g = .func (.func gf) #[] lb.toArray) (hS : Sub H w) (hps : ∀ x, (enc x).length = ps.size) (hpn : ∀ p ∈ ps.toList, p < n)
    (hIt : ∀ w1, Grow H w H w1 → IterAt P gf lb enc xs S H w1) (hSw : ∀ k, S k → k < w.heap.size)
    (hround : ∀ l x H1 W, Sub H1 W → CW P (some l) n assign (fun f1 W1 => ∃ b cs, W.heap.size ≤ b ∧ Grow H1 W H1 W1 ∧ Mut H1 W1 b cs ∧ RoundOk P n body xs I Ix x f1 (fun X H W => ¬ X b ∧ Mut H W b cs)) (fun _ _ => False) (fun _ _ _ => False) (puts ps.toList (enc x) f) W)
    (hdone : ∀ D X H' W', w.heap.size ≤ D → MarkAt H' W' D → Sub H' W' → HLe H H' → (∀ k, X k → S k ∨ w.heap.size ≤ k) → X D → I X xs H' W' → Qn (D :: ds) f W')
    (hret : ∀ D X H' W' pre rest, xs = pre ++ rest → w.heap.size ≤ D → MarkAt H' W' D → Sub H' W' → HLe H H' → (∀ k, X k → S k ∨ w.heap.size ≤ k) → X D → Ix .ret X pre H' W' → Qr (D :: ds) f W')
    (hexit : ∀ i D X H' W' pre rest, xs = pre ++ rest → w.heap.size ≤ D → MarkAt H' W' D → Sub H' W' → HLe H H' → (∀ k, X k → S k ∨ w.heap.size ≤ k) → X D → Ix (.exit i) X pre H' W' → Qx i (D :: ds) f W') :
    CWD P none n (.rangeFunc g ps assign body) Qn Qr Qx ds f w := by
  refine CWD_rangeFunc hg hS hps hpn hIt hSw I Ix hI.stable hIx h0 (fun x f1 X pre H W => I X pre H W ∧ ∃ b cs, (¬ X b ∧ Mut H W b cs) ∧ RoundOk P n body xs I Ix x f1 (fun X H W => ¬ X b ∧ Mut H W b cs))
    ?_ ?_ ?_ hdone hret hexit
  · rintro x f1 X pre H1 W H2 W2 ⟨h, b, cs, ⟨hb, hm⟩, hr⟩ hT
    refine ⟨hI.stable _ _ _ _ _ _ h hT, b, cs, ⟨?_, hm.turn hT hb⟩, hr⟩
    rintro (h1 | h1)
    · exact hb h1
    · have := hm.lt; omega
  · intro l X pre x rest H1 W hx hS1 hi
    refine CW_mono (hround l x H1 W hS1) ?_ (fun _ _ h => h) (fun _ _ _ h => h)
    rintro f1 W1 ⟨b, cs, hb, hG, hm, hr⟩
    exact ⟨H1, hG.turn, hI.anti _ _ _ _ _ (fun k hk => .inl hk) (hI.stable _ _ _ _ _ _ hi hG.turn), b, cs, ⟨fun h => by have := hI.bnd _ _ _ _ hi b h; omega, hm⟩, hr⟩
  · rintro l X pre x rest f1 H1 W hx hS1 ⟨h, b, cs, hm, hr⟩
    exact hr l X pre rest H1 W hx hS1 h hm
end Go.Proofs.Ytnjeoobcejlojaa
