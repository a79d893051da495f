/- Loops over iterators that are left by an exit: one end; what such a loop gathers. Conditions: each law's own premises. -/
import Derived.Test.YtgaabmoknpifnaaWalkNil
namespace Go.Proofs.Ytgaabmoknpifnaa
open Go.Proofs Go.RowKit
set_option linter.unusedVariables false
theorem CWD_rangeExit {P : Program} {α : Type} {n id : Nat} {g : Operand} {ps : Array Tmp} {assign body : Code} {f : Fr} {ds : List Nat} {gf : Nat} {lb : List Value} [FnCall P gf] {enc : α → List Value} {xs : List α} {S : Nat → Prop} {H : HF} {w : World}
    {Qn Qr : List Nat → Fr → World → Prop} {Qx : Nat → List Nat → Fr → World → Prop}
    (I Ix : Inv α) (hI : Good I) (hIx : Stable Ix) (h0 : I S [] H w)
    (hg : ev f g = .func (.func gf) #[] lb.toArray) (hS : Sub H w) (hps : ∀ x, (enc x).length = ps.size) (hpn : ∀ p ∈ ps.toList, p < n)
    (hIt : ∀ w1, Grow H w H w1 → IterAt P gf lb enc xs S H w1) (hSw : ∀ k, S k → k < w.heap.size)
    (hround : ∀ l x W, CW P (some l) n assign (fun f1 W1 => W1 = W ∧ RoundOk P n body xs I (exitI id Ix) x f1 (fun _ _ _ => True)) (fun _ _ => False) (fun _ _ _ => False) (puts ps.toList (enc x) f) W)
    (hk : ∀ D X H' W', w.heap.size ≤ D → MarkAt H' W' D → Sub H' W' → HLe H H' → X D → (I X xs H' W' ∨ ∃ pre rest, xs = pre ++ rest ∧ Ix X pre H' W') → Qn (D :: ds) f W') :
    CWD P none n (.rangeFunc g ps assign body) Qn Qr (xblkD id Qn Qx) ds f w := by
  refine CWD_range I (exitI id Ix) hI (exitI.stable hIx) h0 hg hS hps hpn hIt hSw hround ?_ ?_ ?_
  · exact fun D X H' W' hD hM hS' hle _ hX h => hk D X H' W' hD hM hS' hle hX (.inl h)
  · exact fun _ _ _ _ _ _ _ _ _ _ _ _ _ h => False.elim h
  · rintro i D X H' W' pre rest hx hD hM hS' hle _ hX ⟨rfl, h⟩
    exact xblkD_hit (hk D X H' W' hD hM hS' hle hX (.inr ⟨pre, rest, hx, h⟩))
/-- A slice of entries that is gathered in a variable b until it has n; bs: other rows of the call's own. -/
def Gath (H0 : HF) (w0 : World) (Hs : HF) (E : TypeId) (b : Nat) (bs : List Nat) (n : Int) (full : Prop) (ψ : HF → World → Prop) : Inv Ent :=
  HoldO H0 w0 (b :: bs) E 2 entCells (fun A m c pre H2 w2 => HLe Hs H2 ∧ Mut H2 w2 b [.slice A m c] ∧ m = pre.length ∧ (∀ a, A = some a → a.block ∉ b :: bs) ∧ (pre.length : Int) ≤ n ∧ ((pre.length : Int) = n ↔ full) ∧ ψ H2 w2)
theorem Gath.good {H0 Hs : HF} {w0 : World} {E : TypeId} {b : Nat} {bs : List Nat} {n : Int} {full : Prop} {ψ : HF → World → Prop} (hψ : Abides (α := Unit) bs (fun _ => ψ)) : Good (Gath H0 w0 Hs E b bs n full ψ) := by
  refine HoldO.good ?_
  rintro A m c S pre H w H' w' hs hT ⟨h1, h2, h3, h4, h5, h6, h7⟩
  exact ⟨h1.trans hT.le, h2.turn hT (hs _ (by simp)), h3, h4, h5, h6, hψ S [] H w H' w' (fun b' hb => hs b' (by simp [hb])) hT h7⟩
/-- Where it ends: the first n, or all. -/
theorem Gath.end_ {H0 Hs H : HF} {w0 w : World} {E : TypeId} {b : Nat} {bs : List Nat} {n : Int} {ψ : HF → World → Prop} {X : Nat → Prop} {xs : List Ent} (hn : 0 ≤ n)
    (h : Gath H0 w0 Hs E b bs n False ψ X xs H w ∨ ∃ pre rest, xs = pre ++ rest ∧ Gath H0 w0 Hs E b bs n True ψ X pre H w) :
    ∃ A c, Grow H0 w0 H w ∧ (∀ k, X k → w0.heap.size ≤ k) ∧ (∀ b' ∈ b :: bs, ¬ X b') ∧ Own H w w0.heap.size E 2 A (xs.take n.toNat).length c (entCells (xs.take n.toNat)) ∧ HLe Hs H ∧ Mut H w b [.slice A (xs.take n.toNat).length c] ∧ (∀ a, A = some a → a.block ∉ b :: bs ∧ ¬ X a.block) ∧ ψ H w := by
  rcases h with ⟨hG, hX, hb, A, m, c, ho, hXA, hle, hm, rfl, hA, h5, h6, h7⟩ | ⟨pre, rest, rfl, hG, hX, hb, A, m, c, ho, hXA, hle, hm, rfl, hA, h5, h6, h7⟩
  · have e : xs.take n.toNat = xs := List.take_of_length_le (by omega)
    rw [e]
    exact ⟨A, c, hG, fun k hk => (hX k hk).1, fun b' h' => (hb b' h').1, ho, hle, hm, fun a ha => ⟨hA a ha, hXA a ha⟩, h7⟩
  · have e : (pre ++ rest).take n.toNat = pre := by
      have := h6.2 trivial
      rw [List.take_append_of_le_length (by omega)]
      exact List.take_of_length_le (by omega)
    rw [e]
    exact ⟨A, c, hG, fun k hk => (hX k hk).1, fun b' h' => (hb b' h').1, ho, hle, hm, fun a ha => ⟨hA a ha, hXA a ha⟩, h7⟩
end Go.Proofs.Ytgaabmoknpifnaa
