/- What is new since a heap: results that lie in blocks of their own; a row of the call's own handed to a callee for a while. Conditions: each law's own premises. -/
import Derived.Test.YtnjeoobcejlojaaMut
namespace Go.Proofs.Ytnjeoobcejlojaa
open Go.Proofs Go.RowKit
set_option linter.unusedVariables false
/-- The address, if it is one, is of a block that H does not hold. -/
def New (H : HF) (A : Option Addr) : Prop := ∀ a, A = some a → H a.block = none
theorem New.old {H H' : HF} {A : Option Addr} (h : New H' A) (hle : HLe H H') : New H A := by
  intro a ha
  cases e : H a.block with
  | none => rfl
  | some o => have := hle _ _ e; rw [h a ha] at this; cases this
/-- H without a block. -/
def del (H : HF) (b : Nat) : HF := fun x => if x = b then none else H x
theorem del_self (H : HF) (b : Nat) : del H b b = none := by simp [del]
theorem del_other {H : HF} {b x : Nat} (h : x ≠ b) : del H b x = H x := by simp [del, h]
theorem HLe.to_del {H H' : HF} {b : Nat} (hle : HLe H H') (hb : H b = none) : HLe H (del H' b) := by
  intro x o e
  rw [del_other (by intro e2; subst e2; rw [hb] at e; cases e)]
  exact hle _ _ e
theorem HLe.ins {H : HF} {b : Nat} {o : Obj} (hb : H b = none) : HLe H (ins H b o) := by
  intro x o' e
  rw [ins_other (by intro e2; subst e2; rw [hb] at e; cases e)]
  exact e
theorem Sub.ins {H : HF} {w : World} {b : Nat} {o : Obj} (hS : Sub H w) (hb : w.heap[b]? = some o) : Sub (ins H b o) w := by
  refine ⟨fun x o' e => ?_⟩
  by_cases h : x = b
  · subst h; rw [ins_self] at e; cases e; exact hb
  · rw [ins_other h] at e; exact hS.out x o' e
/-- A call that has been lent a row of the caller's own: the row is taken back. -/
theorem Grow.lent {H H3 : HF} {w w3 : World} {b : Nat} {o : Obj} (hS : Sub H w) (hb : H b = none) (hlt : b < w.heap.size) (h : Grow (Go.Proofs.Ytnjeoobcejlojaa.ins H b o) w H3 w3) : Grow H w (del H3 b) w3 := by
  refine ⟨h.below, ⟨fun x o' e => ?_⟩, ?_, fun x hx => ?_⟩
  · by_cases hx : x = b
    · subst hx; rw [del_self] at e; cases e
    · rw [del_other hx] at e; exact h.sub.out x o' e
  · exact ((HLe.ins hb).trans h.le).to_del hb
  · by_cases hxb : x = b
    · subst hxb; rw [del_self, hb]
    · rw [del_other hxb, h.old x hx, ins_other hxb]
/-- What is new since the row was lent lies there still. -/
theorem SlAt.lent {H H3 : HF} {b : Nat} {o : Obj} {A : Option Addr} {vs : List Value} (h : SlAt H3 A vs) (hn : New (ins H b o) A) : SlAt (del H3 b) A vs := by
  rcases h with h | ⟨g, off, rfl, c, E, fr, h1, h2⟩
  · exact .inl h
  · refine .inr ⟨g, off, rfl, c, E, fr, ?_, h2⟩
    have := hn _ rfl
    rw [del_other (by intro e; subst e; simp only at this; rw [ins_self] at this; cases this)]
    exact h1
theorem Mut.lend {H : HF} {w : World} {b : Nat} {cs : List Value} (hm : Mut H w b cs) (hS : Sub H w) : ∃ T, w.heap[b]? = some (.cells cs.toArray T (0, 0)) ∧ Sub (ins H b (.cells cs.toArray T (0, 0))) w ∧ SlAt (ins H b (.cells cs.toArray T (0, 0))) (some ⟨b, 0, none⟩) cs := by
  obtain ⟨T, h⟩ := hm.at_
  refine ⟨T, h, hS.ins h, .inr ⟨b, 0, rfl, _, _, _, ins_self _ _ _, ?_⟩⟩
  intro i v hi
  simpa using hi
/-- A slice that lies in a block of its own (or is nil), which H does not hold. -/
def IsNew (H : HF) (E : TypeId) (sz : Nat) (v : Value) (n : Nat) (cs : List Value) (H' : HF) : Prop :=
  ∃ A c, v = .slice A n c ∧ cs.length = n * sz ∧ ((A = none ∧ n = 0 ∧ c = 0) ∨ ∃ g cur, A = some ⟨g, 0, none⟩ ∧ H' g = some (.cells cur E (0, 0)) ∧ H g = none ∧ n ≤ c ∧ c ≤ maxLen ∧ cur.size = c * sz ∧ cur.toList.take (n * sz) = cs)
section
variable {H0 H H' H'' : HF} {E : TypeId} {sz n : Nat} {v : Value} {cs : List Value} {w0 w : World}
theorem IsNew.mono (h : IsNew H E sz v n cs H') (hle : HLe H' H'') : IsNew H E sz v n cs H'' := by
  obtain ⟨A, c, h1, h2, h3⟩ := h
  refine ⟨A, c, h1, h2, ?_⟩
  rcases h3 with h3 | ⟨g, cur, h3, h4, h5⟩
  · exact .inl h3
  · exact .inr ⟨g, cur, h3, hle _ _ h4, h5⟩
theorem IsNew.old (h : IsNew H E sz v n cs H') (hle : HLe H0 H) : IsNew H0 E sz v n cs H' := by
  obtain ⟨A, c, h1, h2, h3⟩ := h
  refine ⟨A, c, h1, h2, ?_⟩
  rcases h3 with h3 | ⟨g, cur, h3, h4, h5, h6⟩
  · exact .inl h3
  · refine .inr ⟨g, cur, h3, h4, ?_, h6⟩
    cases e : H0 g with
    | none => rfl
    | some o => have := hle _ _ e; rw [h5] at this; cases this
theorem IsNew.sl (h : IsNew H E sz v n cs H') : IsSl sz v n cs H' := by
  obtain ⟨A, c, rfl, h2, h3⟩ := h
  rcases h3 with ⟨rfl, rfl, rfl⟩ | ⟨g, cur, rfl, h4, h5, h6, h7, h8, h9⟩
  · exact ⟨none, 0, rfl, Nat.le_refl _, .inl (List.eq_nil_of_length_eq_zero (by simpa using h2)), h2⟩
  · refine ⟨_, c, rfl, h6, .inr ⟨g, 0, rfl, cur, E, _, h4, fun i u hi => ?_⟩, h2⟩
    subst h9
    rw [List.getElem?_take] at hi
    split at hi
    · simpa using hi
    · cases hi
/-- A slice of the call's own is such a one, seen from the call's beginning. -/
theorem Own.freezeN {A : Option Addr} {cap : Nat} (h : Own H w w0.heap.size E sz A n cap cs) (hG : Grow H0 w0 H w) :
    ∃ H', HLe H H' ∧ Grow H0 w0 H' w ∧ IsNew H0 E sz (.slice A n cap) n cs H' := by
  rcases h.row.2 with ⟨h1, h2⟩ | ⟨g, cap', cur, hv, hbg, hg, hnc, hcm, hcs, htake⟩
  · simp at h1
    exact ⟨H, HLe.refl H, hG, A, cap, rfl, h.row.1, .inl ⟨h1.1, h2, h1.2.2⟩⟩
  · have hv' : A = some ⟨g, 0, none⟩ ∧ cap = cap' := by simpa using hv
    obtain ⟨rfl, rfl⟩ := hv'
    have hnone : H g = none := h.out _ rfl
    have hle : HLe H (ins H g (.cells cur E (0, 0))) := HLe.ins hnone
    refine ⟨ins H g (.cells cur E (0, 0)), hle, ⟨hG.below, hG.sub.ins hg, hG.le.trans hle, fun b hb => ?_⟩, _, cap, rfl, h.row.1, .inr ⟨g, cur, rfl, ins_self _ _ _, ?_, hnc, hcm, hcs, htake⟩⟩
    · rw [ins_other (by omega)]; exact hG.old b hb
    · cases e : H0 g with
      | none => rfl
      | some o => have := hG.le _ _ e; rw [hnone] at this; cases this
/-- It is taken out of the persistent part again, to be written. -/
theorem IsNew.thaw (h : IsNew H E sz v n cs H') (hG : Grow H w0 H' w) : ∃ H'' A c, HLe H'' H' ∧ Grow H w0 H'' w ∧ v = .slice A n c ∧ Own H'' w w0.heap.size E sz A n c cs := by
  obtain ⟨A, c, rfl, h2, h3⟩ := h
  rcases h3 with ⟨rfl, rfl, rfl⟩ | ⟨g, cur, rfl, h4, h5, h6, h7, h8, h9⟩
  · exact ⟨H', none, 0, HLe.refl _, hG, rfl, ⟨⟨h2, .inl ⟨rfl, rfl⟩⟩, fun a ha => by cases ha⟩⟩
  · have hg : w0.heap.size ≤ g := by
      rcases Nat.lt_or_ge g w0.heap.size with h | h
      · have := hG.old g h; rw [h4, h5] at this; cases this
      · exact h
    refine ⟨del H' g, _, c, ?_, ⟨hG.below, ⟨fun b o e => ?_⟩, hG.le.to_del h5, fun b hb => ?_⟩, rfl, ⟨⟨h2, .inr ⟨g, c, cur, rfl, hg, hG.sub.out _ _ h4, h6, h7, h8, h9⟩⟩, fun a ha => by cases ha; exact del_self _ _⟩⟩
    · intro b o e
      by_cases hb : b = g
      · subst hb; rw [del_self] at e; cases e
      · rw [del_other hb] at e; exact e
    · by_cases hb : b = g
      · subst hb; rw [del_self] at e; cases e
      · rw [del_other hb] at e; exact hG.sub.out _ _ e
    · rw [del_other (by omega)]; exact hG.old b hb
theorem Own.base {A : Option Addr} {cap B B' : Nat} (h : Own H w B E sz A n cap cs) (hb : B' ≤ B) : Own H w B' E sz A n cap cs := by
  refine ⟨⟨h.row.1, ?_⟩, h.out⟩
  rcases h.row.2 with h1 | ⟨g, cap', cur, hv, hbg, h3⟩
  · exact .inl h1
  · exact .inr ⟨g, cap', cur, hv, Nat.le_trans hb hbg, h3⟩
/-- A call that has been lent a row. -/
theorem CallW.lent {P : Program} {k : FuncId} {args : List Value} {g : Nat} {xs : List Value} {R : Obj → Value → HF → Prop} (hS : Sub H w) (hm : Mut H w g xs)
    (hc : ∀ o, w.heap[g]? = some o → SlAt (ins H g o) (some ⟨g, 0, none⟩) xs → Fn P k args (ins H g o) (R o)) : CallW P k args.toArray w fun v w' => ∃ o H3, HLe (ins H g o) H3 ∧ Grow H w (del H3 g) w' ∧ R o v H3 := by
  obtain ⟨T, h1, h2, h3⟩ := hm.lend hS
  refine (hc _ h1 h3 w h2).mono ?_
  rintro v w' ⟨H3, hg, hr⟩
  exact ⟨_, H3, hg.le, Grow.lent hS hm.out hm.lt hg, hr⟩
end
end Go.Proofs.Ytnjeoobcejlojaa
