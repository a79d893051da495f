/- A slice variable of the call's own, appended to in a region that draws. Conditions: each law's own premises. -/
import Derived.Test.YtnjeoobcejlojaaRegU
namespace Go.Proofs.Ytnjeoobcejlojaa
open Go.RowKit
set_option linter.unusedVariables false
/-- tv: the variable's slot; ta: the append's. Effect 0 is the append, effect 1 the assignment. -/
def AppM (B : Nat) (E : TypeId) (sz : Nat) (A1 : Option Addr) (k c1 : Nat) (xs news : List Value) (ta tv : Nat) (q : Nat) (u : Fr) (H : HF) (w : World) : Prop :=
  (q ≤ 1 → u tv = .slice A1 k c1) ∧ (q = 0 → Own H w B E sz A1 k c1 xs) ∧ (1 ≤ q → ∃ A c, u ta = .slice A (k + 1) c ∧ Own H w B E sz A (k + 1) c (xs ++ news)) ∧ (2 ≤ q → u tv = u ta)
section
variable {B : Nat} {E : TypeId} {sz : Nat} {A1 : Option Addr} {k c1 : Nat} {xs news : List Value} {ta tv : Nat} {f u : Fr} {H : HF} {w : World}
theorem AppM.begin (h : f tv = .slice A1 k c1) (ho : Own H w B E sz A1 k c1 xs) : AppM B E sz A1 k c1 xs news ta tv 0 f H w :=
  ⟨fun _ => h, fun _ => ho, fun h => by omega, fun h => by omega⟩
theorem AppM.cl {L : List Nat} (h1 : memb ta L = true) (h2 : memb tv L = true) : ∀ c u u' H w H' w', (∀ t, memb t L = true → u' t = u t) → AppM B E sz A1 k c1 xs news ta tv c u H w → Grow H w H' w' → AppM B E sz A1 k c1 xs news ta tv c u' H' w' := by
  rintro c u u' H w H' w' hu ⟨p1, p2, p3, p4⟩ hg
  refine ⟨fun h => (hu _ h2).trans (p1 h), fun h => (p2 h).grow hg, fun h => ?_, fun h => by rw [hu _ h1, hu _ h2]; exact p4 h⟩
  obtain ⟨A, c, e, o⟩ := p3 h
  exact ⟨A, c, (hu _ h1).trans e, o.grow hg⟩
theorem AppM.old {c : Nat} (h : AppM B E sz A1 k c1 xs news ta tv c u H w) (hb : bOk (some 1) c) : u tv = .slice A1 k c1 := h.1 hb
theorem AppM.app {A : Option Addr} {c : Nat} {H' : HF} {w' : World} (h : AppM B E sz A1 k c1 xs news ta tv 0 u H w) (hne : Nat.beq tv ta = false) (ho : Own H' w' B E sz A (k + 1) c (xs ++ news)) : AppM B E sz A1 k c1 xs news ta tv (0 + 1) (updO u (some ta) (.slice A (k + 1) c)) H' w' := by
  refine ⟨fun _ => ?_, fun h => by omega, fun _ => ⟨A, c, ?_, ho⟩, fun h => by omega⟩
  · simp only [updO, upd, hne, cond_false]; exact h.1 (by omega)
  · simp [updO, upd]
theorem AppM.asg {v : Value} (h : AppM B E sz A1 k c1 xs news ta tv 1 u H w) (hne : Nat.beq ta tv = false) (hv : u ta = v) : AppM B E sz A1 k c1 xs news ta tv (1 + 1) (updO u (some tv) v) H w := by
  obtain ⟨A, c, e, o⟩ := h.2.2.1 (by omega)
  refine ⟨fun h => by omega, fun h => by omega, fun _ => ⟨A, c, ?_, o⟩, fun _ => ?_⟩
  · simp only [updO, upd, hne, cond_false]; exact e
  · simp only [updO, upd, hne, cond_false]; simp [hv]
theorem AppM.fin {c : Nat} (h : AppM B E sz A1 k c1 xs news ta tv c u H w) (hc : 1 < c) : ∃ A c, u tv = .slice A (k + 1) c ∧ Own H w B E sz A (k + 1) c (xs ++ news) := by
  obtain ⟨A, c, e, o⟩ := h.2.2.1 (by omega)
  exact ⟨A, c, (h.2.2.2 (by omega)).trans e, o⟩
end
end Go.Proofs.Ytnjeoobcejlojaa
