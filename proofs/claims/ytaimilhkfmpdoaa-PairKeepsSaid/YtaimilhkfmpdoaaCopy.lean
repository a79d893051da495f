/- copy into a row of the call's own; what make lays. Conditions: each law's own premises. -/
import Derived.Test.YtaimilhkfmpdoaaNewOwn
import Derived.Test.YtaimilhkfmpdoaaMemBase
namespace Go.Proofs.Ytaimilhkfmpdoaa
open Go.RowKit
set_option linter.unusedVariables false
section
variable {P : Program} {r : Option Nat} {f : Fr} {H : HF} {w : World} {K : Value → World → Prop} {d : Option Nat} {ty : TypeId} {pos : String} {af : Array Edge} {g : Option (Nat × Bool)} {T T' E : TypeId} {x y : Operand}
theorem W_copyM [TySlice P T E] {sz bs : Nat} [he : TyElem P E sz bs] {A : Option Addr} {m c n cap b : Nat} {vs cs : List Value} (hx : ev f x = .slice (some ⟨b, 0, none⟩) n cap) (hy : ev f y = .slice A m c) (hm : Mut H w b cs) (hsrc : Cells w A vs) (hl : vs.length = m * sz) (hA : A = none → m = 0) (hmn : m ≤ n) (hfit : vs.length ≤ cs.length) (h1 : OneCells vs)
    (hk : ∀ w', w.grownBy w' (some b) → Mut H w' b (splice cs 0 vs) → K (.int .i64 (m : Int)) w') :
    OpW P r ⟨d, .call { callee := .builtin .copy, args := #[x, y], argTypes := #[T, T'] }, ty, pos, af, g⟩ f w K := by
  obtain ⟨ti, z, hi, hz1, hz2, hsz, rfl⟩ := he.out
  obtain ⟨TT, hb⟩ := hm.at_
  have hst := run_storeCells_at P b 0 TT vs 0 cs.toArray w hb (by simpa using hfit) h1
  simp only [Nat.add_zero, Nat.zero_add] at hst
  have hmin : Nat.min m n = m := Nat.min_eq_left hmn
  have hmm : min m n = m := Nat.min_eq_left hmn
  have hload : (Builtin.firstCells ti.size m (.slice A m c)).run P w = .ok vs.toArray w := by
    cases A with
    | none =>
      have hv : vs = [] := List.eq_nil_of_length_eq_zero (by rw [hl, hA rfl]; simp)
      subst hv
      simp [Builtin.firstCells]
    | some a =>
      have hc : ∀ j v, vs[j]? = some v → w.cell? (a.add j) = some v := by
        intro j v hj
        rcases hsrc with h | ⟨b2, o2, h2, h3⟩
        · subst h; simp at hj
        · cases h2; rw [add_lit']; exact h3 j v hj
      have := run_loadCells_list (P := P) w a vs hc
      rw [hl] at this
      simp [Builtin.firstCells, hsz, this]
  have hrun : (Builtin.copy_ #[T, T'] ty #[.slice (some ⟨b, 0, none⟩) n cap, .slice A m c]).run P w = .ok (goInt m) (w.setRow b (splice cs 0 vs).toArray) := by
    have hso : ∀ w, (sizeOf E).run P w = .ok ti.size w := fun w => by simp [sizeOf, typeInfo, hi]
    cases A <;> simp [Builtin.copy_, run_underlying (TySlice.out (P := P) (T := T)), Builtin.lenOf, hso, hmin, hmm, hload, hst, splice]
  refine OpW_val (v := .int .i64 (m : Int)) (w' := w.setRow b (splice cs 0 vs).toArray) (by simp) (by
    simp [execOp, resolve, invoke, builtin, hx, hy, hrun, goInt]) (hk _ (setRow_grownBy _ _ _) ⟨hm.out, TT, setRow_heap w b _ _ TT _ hb⟩)
end
theorem madeCells_get (z : Array Value) (n i : Nat) (hi : i < n) : (madeCells z n).toList[i]? = some (z[i % z.size]!) := by
  simp [madeCells, hi]
theorem madeCells_len (z : Array Value) (n : Nat) : (madeCells z n).toList.length = n := by simp [madeCells]
end Go.Proofs.Ytaimilhkfmpdoaa
