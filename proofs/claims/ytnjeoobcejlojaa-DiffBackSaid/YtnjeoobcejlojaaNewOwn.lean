/- A slice of the call's own, seen as a row that is written. Conditions: each law's own premises. -/
import Derived.Test.YtnjeoobcejlojaaNew
namespace Go.Proofs.Ytnjeoobcejlojaa
open Go.Proofs Go.RowKit
set_option linter.unusedVariables false
theorem Own.mut {H : HF} {w : World} {B : Nat} {E : TypeId} {sz : Nat} {A : Option Addr} {n cap : Nat} {xs : List Value} (h : Own H w B E sz A n cap xs) (h0 : 0 < n) :
    ∃ g cs, A = some ⟨g, 0, none⟩ ∧ B ≤ g ∧ Mut H w g cs ∧ cs.take (n * sz) = xs := by
  rcases h.row.2 with ⟨h1, h2⟩ | ⟨g, cap', cur, hv, hbg, hg, hnc, hcm, hcs, htake⟩
  · omega
  · have hA : A = some ⟨g, 0, none⟩ := by simp at hv; exact hv.1
    refine ⟨g, cur.toList, hA, hbg, ⟨h.out _ hA, E, ?_⟩, htake⟩
    simpa using hg
theorem Own.mutL {H : HF} {w : World} {B : Nat} {E : TypeId} {sz : Nat} {A : Option Addr} {n cap : Nat} {xs : List Value} (h : Own H w B E sz A n cap xs) (h0 : 0 < n) :
    ∃ g cs, A = some ⟨g, 0, none⟩ ∧ B ≤ g ∧ Mut H w g cs ∧ cs.take (n * sz) = xs ∧ cs.length = cap * sz := by
  rcases h.row.2 with ⟨h1, h2⟩ | ⟨g, cap', cur, hv, hbg, hg, hnc, hcm, hcs, htake⟩
  · omega
  · have hA : A = some ⟨g, 0, none⟩ ∧ cap = cap' := by simpa using hv
    exact ⟨g, cur.toList, hA.1, hbg, ⟨h.out _ hA.1, E, by simpa using hg⟩, htake, by simp [hcs, hA.2]⟩
/-- A call that has been lent a slice of the call's own. H1: with the row; H': the row taken back. -/
theorem CallW.lentOwn {P : Program} {k : FuncId} {args : List Value} {H : HF} {w : World} {B : Nat} {E : TypeId} {sz : Nat} {A : Option Addr} {n cap : Nat} {xs : List Value} {R : HF → Value → HF → Prop} (hS : Sub H w) (ho : Own H w B E sz A n cap xs)
    (hc : ∀ H1, HLe H H1 → SlAt H1 A xs → Fn P k args H1 (R H1)) : CallW P k args.toArray w fun v w' => ∃ H1 H3 H', HLe H H1 ∧ HLe H1 H3 ∧ HLe H' H3 ∧ Grow H w H' w' ∧ R H1 v H3 ∧ ∀ b, H1 b = none → H' b = H3 b := by
  rcases Nat.eq_zero_or_pos n with h0 | h0
  · subst h0
    have hx : xs = [] := List.eq_nil_of_length_eq_zero (by have := ho.len; simpa using this)
    subst hx
    refine (hc H (HLe.refl H) (.inl rfl) w hS).mono ?_
    rintro v w' ⟨H3, hg, hr⟩
    exact ⟨H, H3, H3, HLe.refl H, hg.le, HLe.refl _, hg, hr, fun _ _ => rfl⟩
  · obtain ⟨g, cs, rfl, hb, hm, ht⟩ := ho.mut h0
    refine (CallW.lent (R := fun o v H3 => R (ins H g o) v H3) hS hm (fun o _ h => hc (ins H g o) (HLe.ins hm.out) (by rw [← ht]; exact h.take _))).mono ?_
    rintro v w' ⟨o, H3, hle, hg, hr⟩
    refine ⟨ins H g o, H3, del H3 g, HLe.ins hm.out, hle, ?_, hg, hr, fun b hb => ?_⟩
    · intro b o' e
      by_cases hbg : b = g
      · subst hbg; rw [del_self] at e; cases e
      · rw [del_other hbg] at e; exact e
    · exact del_other (by intro e; subst e; rw [ins_self] at hb; cases hb)
theorem IsNew.lent {H H1 H3 H' : HF} {E : TypeId} {sz n : Nat} {v : Value} {cs : List Value} (h : IsNew H1 E sz v n cs H3) (hle : HLe H H1) (hb : ∀ b, H1 b = none → H' b = H3 b) : IsNew H E sz v n cs H' := by
  refine IsNew.old ?_ hle
  obtain ⟨A, c, h1, h2, h3⟩ := h
  refine ⟨A, c, h1, h2, ?_⟩
  rcases h3 with h3 | ⟨g, cur, h3, h4, h5, h6⟩
  · exact .inl h3
  · exact .inr ⟨g, cur, h3, (hb g h5).trans h4, h5, h6⟩
section
variable {P : Program} {r : Option Nat} {f : Fr} {H0 H : HF} {w0 w : World} {K : Value → World → Prop} {d : Option Nat} {ty : TypeId} {pos : String} {af : Array Edge} {g : Option (Nat × Bool)} {T E : TypeId}
/-- A slice literal that is the call's own. -/
theorem W_buildO [TySlice P T E] {sz : Nat} [TySize P E sz] {z : Value} [TyZero P E z] {len : Nat} {parts : Array (Nat × Operand)} {cs : Array Value} (hG : Grow H0 w0 H w) (hlen : len * sz ≤ 16777216) (hln : len ≤ maxLen)
    (hcs : Instr.fill (fun i => some (i * sz, sz)) ((Array.range (len * sz)).map (z.cells[· % z.cells.size]!)) (parts.toList.map fun p => (p.1, ev f p.2)) = some cs) (hsz : cs.size = len * sz)
    (hk : ∀ w' b, Grow H w H w' → Grow H0 w0 H w' → w.heap.size = b → Own H w' w0.heap.size E sz (some ⟨b, 0, none⟩) len len cs.toList → K (.slice (some ⟨b, 0, none⟩) len len) w') : OpW P r ⟨d, .buildSlice T len parts, ty, pos, af, g⟩ f w K := by
  refine W_buildSlice hG.sub hlen hcs ?_
  intro H' w' b _ _ hb hw
  subst hw
  have hg := Grow.allocMut hG.sub (.cells cs E (0, 0))
  refine hk _ b hg (hG.trans hg) hb ⟨⟨by simpa using hsz, .inr ⟨b, len, cs, rfl, ?_, ?_, Nat.le_refl _, hln, hsz, ?_⟩⟩, fun a ha => ?_⟩
  · rw [← hb]; exact hG.below.size
  · rw [← hb, heap_alloc_self]
  · rw [List.take_of_length_le (by simp [hsz])]
  · cases ha; exact hG.sub.fresh (Nat.le_of_eq hb)
theorem W_buildOnesO [TySlice P T E] [TySize P E 1] {z : Value} [TyZero P E z] {len : Nat} {parts : Array (Nat × Operand)} {vs : List Value} (hG : Grow H0 w0 H w) (hlen : len ≤ 16777216) (hp : partVals (parts.toList.map fun p => (p.1, ev f p.2)) 0 = some vs) (hl : vs.length = len)
    (hk : ∀ w' b, Grow H w H w' → Grow H0 w0 H w' → w.heap.size = b → Own H w' w0.heap.size E 1 (some ⟨b, 0, none⟩) len len vs → K (.slice (some ⟨b, 0, none⟩) len len) w') : OpW P r ⟨d, .buildSlice T len parts, ty, pos, af, g⟩ f w K :=
  W_buildO (sz := 1) (cs := vs.toArray) hG (by omega) (by unfold maxLen; omega) (by
    have := fill_ones _ 0 ((Array.range (len * 1)).map (z.cells[· % z.cells.size]!)) vs hp (by simp [hl])
    simpa using this) (by simp [hl]) (fun w' b h1 h2 h3 h4 => hk w' b h1 h2 h3 (by simpa using h4))
end
end Go.Proofs.Ytnjeoobcejlojaa
