/- Results that lie in cells of the call's own; struct variables that are written once. Conditions: each law's own premises. -/
import Derived.Test.YtnjeoobcejlojaaNew
namespace Go.Proofs.Ytnjeoobcejlojaa
open Go.RowKit
set_option linter.unusedVariables false
/-- What a result variable yields. -/
def RV (P : Program) (f : Fr) (w : World) : ResultVar → Value → Prop
  | .tmp t, v => f t = v
  | .cell a T, v => ∃ b, f a = .pointer (some ⟨b, 0, none⟩) ∧ (loadVar T ⟨b, 0, none⟩).run P w = .ok v w
section
variable {P : Program} {f : Fr} {w : World} {H : HF}
theorem Rep.at' {n : Nat} {a : Act} (ha : Rep n a f) (t : Nat) : a.tmps[t]?.getD undef = f t := by
  have := ha.at_ t
  rwa [Array.getD_eq_getD_getElem?] at this
theorem RV_cell {s a b : Nat} {T : TypeId} {vs : List Value} [TyAgg P T] [TySize P T s] (hx : f a = .pointer (some ⟨b, 0, none⟩)) (hm : Mut H w b vs) (hl : vs.length = s) : RV P f w (.cell a T) (.agg vs.toArray) := by
  refine ⟨b, hx, ?_⟩
  have := run_loadCells_list (P := P) w ⟨b, 0, none⟩ vs (fun j v hj => by rw [add_lit']; exact Sub.mut_or hm (by simpa using hj))
  rw [hl] at this
  simp [loadVar, TyAgg.agg (P := P) (T := T), TySize.size (P := P) (T := T), this]
theorem RV_cellH {s a b : Nat} {T E : TypeId} {fr : Nat × Nat} {vs : List Value} [TyAgg P T] [TySize P T s] (hx : f a = .pointer (some ⟨b, 0, none⟩)) (hb : H b = some (.cells vs.toArray E fr)) (hS : Sub H w) (hl : vs.length = s) : RV P f w (.cell a T) (.agg vs.toArray) := by
  refine ⟨b, hx, ?_⟩
  have := run_loadCells_list (P := P) w ⟨b, 0, none⟩ vs (fun j v hj => by rw [add_lit', Nat.zero_add]; exact hS.cell hb (by simpa using hj))
  rw [hl] at this
  simp [loadVar, TyAgg.agg (P := P) (T := T), TySize.size (P := P) (T := T), this]
theorem ResW_v1 {r1 : ResultVar} {v1 : Value} (h1 : RV P f w r1 v1) : ResW P #[r1] f w v1 := by
  intro n a fn ha hr
  cases r1 with
  | tmp t => simp only [RV] at h1; simp [results, hr, ha.at', h1]
  | cell x t => obtain ⟨b, h1, k1⟩ := h1; simp [results, hr, ha.at', h1, k1, asAddr]
theorem ResW_v2 {r1 r2 : ResultVar} {v1 v2 : Value} (h1 : RV P f w r1 v1) (h2 : RV P f w r2 v2) : ResW P #[r1, r2] f w (.tuple #[v1, v2]) := by
  intro n a fn ha hr
  cases r1 with
  | tmp t =>
    simp only [RV] at h1
    cases r2 with
    | tmp t => simp only [RV] at h2; simp [results, hr, ha.at', h1, h2]
    | cell x t => obtain ⟨b2, h2, k2⟩ := h2; simp [results, hr, ha.at', h1, h2, k2, asAddr]
  | cell x t =>
    obtain ⟨b, h1, k1⟩ := h1
    cases r2 with
    | tmp t => simp only [RV] at h2; simp [results, hr, ha.at', h1, k1, h2, asAddr]
    | cell x t => obtain ⟨b2, h2, k2⟩ := h2; simp [results, hr, ha.at', h1, k1, h2, k2, asAddr]
theorem ResW_v3 {r1 r2 r3 : ResultVar} {v1 v2 v3 : Value} (h1 : RV P f w r1 v1) (h2 : RV P f w r2 v2) (h3 : RV P f w r3 v3) : ResW P #[r1, r2, r3] f w (.tuple #[v1, v2, v3]) := by
  intro n a fn ha hr
  cases r1 with
  | tmp t =>
    simp only [RV] at h1
    cases r2 with
    | tmp t =>
      simp only [RV] at h2
      cases r3 with
      | tmp t => simp only [RV] at h3; simp [results, hr, ha.at', h1, h2, h3]
      | cell x t => obtain ⟨b3, h3, k3⟩ := h3; simp [results, hr, ha.at', h1, h2, h3, k3, asAddr]
    | cell x t =>
      obtain ⟨b2, h2, k2⟩ := h2
      cases r3 with
      | tmp t => simp only [RV] at h3; simp [results, hr, ha.at', h1, h2, k2, h3, asAddr]
      | cell x t => obtain ⟨b3, h3, k3⟩ := h3; simp [results, hr, ha.at', h1, h2, k2, h3, k3, asAddr]
  | cell x t =>
    obtain ⟨b, h1, k1⟩ := h1
    cases r2 with
    | tmp t =>
      simp only [RV] at h2
      cases r3 with
      | tmp t => simp only [RV] at h3; simp [results, hr, ha.at', h1, k1, h2, h3, asAddr]
      | cell x t => obtain ⟨b3, h3, k3⟩ := h3; simp [results, hr, ha.at', h1, k1, h2, h3, k3, asAddr]
    | cell x t =>
      obtain ⟨b2, h2, k2⟩ := h2
      cases r3 with
      | tmp t => simp only [RV] at h3; simp [results, hr, ha.at', h1, k1, h2, k2, h3, asAddr]
      | cell x t => obtain ⟨b3, h3, k3⟩ := h3; simp [results, hr, ha.at', h1, k1, h2, k2, h3, k3, asAddr]
end
end Go.Proofs.Ytnjeoobcejlojaa
