/- Strings: min and max; how counts split. Conditions: none. -/
import Derived.Test.YtgaabmoknpifnaaWalkB3
import Derived.Test.YtgaabmoknpifnaaWalk4
namespace Go.Proofs.Ytgaabmoknpifnaa
open Go.Proofs Go.RowKit
set_option linter.unusedVariables false
def minB (a b : ByteArray) : ByteArray := if slt b a then b else a
def maxB (a b : ByteArray) : ByteArray := if slt a b then b else a
theorem minB_le_left (a b : ByteArray) : slt a (minB a b) = false := by
  unfold minB
  cases h : slt b a with
  | true => simp only [if_true]; exact slt_asymm h
  | false => simp [slt_irrefl]
theorem minB_le_right (a b : ByteArray) : slt b (minB a b) = false := by
  unfold minB
  cases h : slt b a with
  | true => simp [slt_irrefl]
  | false => simpa using h
theorem maxB_ge_left (a b : ByteArray) : slt (maxB a b) a = false := by
  unfold maxB
  cases h : slt a b with
  | true => simp only [if_true]; exact slt_asymm h
  | false => simp [slt_irrefl]
theorem maxB_ge_right (a b : ByteArray) : slt (maxB a b) b = false := by
  unfold maxB
  cases h : slt a b with
  | true => simp [slt_irrefl]
  | false => simpa using h
theorem sle_trans {a b c : ByteArray} (h : slt b a = false) (k : slt c b = false) : slt c a = false := by
  cases hca : slt c a with
  | false => rfl
  | true =>
    have := slt_of_lt_of_le hca h
    rw [k] at this; cases this
/-- What lies from a to b and from b to c lies from a to c. -/
theorem count_parts {a b c : ByteArray} (hab : slt b a = false) (hbc : slt c b = false) (l : List Ent) : countL a b l + countL b c l = countL a c l := by
  unfold countL
  induction l with
  | nil => rfl
  | cons e l ih =>
    simp only [List.filter_cons]
    cases h1 : slt e.key a with
    | true =>
      have h2 : slt e.key b = true := slt_of_lt_of_le h1 hab
      simp [h2, ih]
    | false =>
      cases h2 : slt e.key b with
      | true =>
        have h3 : slt e.key c = true := slt_of_lt_of_le h2 hbc
        simp [h3, ← ih]; omega
      | false =>
        cases h3 : slt e.key c with
        | true => simp [← ih]; omega
        | false => simp [ih]
theorem count_none {a c : ByteArray} (h : slt c a = false) (l : List Ent) : countL c a l = 0 := by
  unfold countL
  rw [List.length_eq_zero_iff, List.filter_eq_nil_iff]
  intro e _ he
  simp only [Bool.and_eq_true, Bool.not_eq_true'] at he
  have := slt_of_le_of_lt he.1 he.2
  rw [h] at this; cases this
/-- Each key lies from k on, or up to it; k itself both. -/
theorem both_ways {k : ByteArray} : ∀ {l : List Ent}, riseB l = true → (fromL k l).length + (toL k l).length = l.length + (if lookB l k = true then 1 else 0)
  | [], h => by simp [fromL, toL, downL, lookB, look_find h]
  | a :: l, h => by
    obtain ⟨h1, h2⟩ := riseB_cons.1 h
    have ih := both_ways (k := k) h2
    have e1 : lookB (a :: l) k = ((a :: l).find? fun x => decide (x.key = k)).isSome := by rw [lookB, look_find h]
    have e2 : lookB l k = (l.find? fun x => decide (x.key = k)).isSome := by rw [lookB, look_find h2]
    rw [e2] at ih
    rw [e1]
    simp only [fromL, toL, downL, List.length_reverse, List.filter_cons, List.find?_cons] at ih ⊢
    by_cases hk : a.key = k
    · subst hk
      have h3 : l.find? (fun x => decide (x.key = a.key)) = none := by
        rw [List.find?_eq_none]
        intro x hx
        have := slt_ne (h1 x hx)
        simpa using Ne.symm this
      rw [h3] at ih
      simp [slt_irrefl] at ih ⊢
      omega
    · have h0 : decide (a.key = k) = false := by simp [hk]
      cases h3 : slt a.key k with
      | true =>
        have h4 := slt_asymm h3
        simp only [h4, h0] at ih ⊢
        simp at ih ⊢
        omega
      | false =>
        have h4 : slt k a.key = true := by
          cases h5 : slt k a.key with
          | true => rfl
          | false => exact absurd (slt_total h3 h5) hk
        simp only [h4, h0] at ih ⊢
        simp at ih ⊢
        omega
section
variable {P : Program} {r : Option Nat} {f : Fr} {w : World} {K : Value → World → Prop} {d : Option Nat} {ty : TypeId} {pos : String} {af : Array Edge} {g : Option (Nat × Bool)} {x y z : Operand} {T1 T2 T3 : TypeId} {a b c : ByteArray}
theorem min2_run : (Builtin.min2 (.string a) (.string b)).run P w = .ok (.string (minB a b)) w := by
  have e : (if (slt a b || decide (a = b)) = true then a else b) = minB a b := by rw [sle_eq]; unfold minB; cases slt b a <;> simp
  have e2 : Op.stringOp .leq a b = pure (.bool (slt a b || decide (a = b))) := by simp [Op.stringOp, slt, toList_beq]
  simp [Builtin.min2, e2, asBool]
  simpa using e
theorem max2_run : (Builtin.max2 (.string a) (.string b)).run P w = .ok (.string (maxB a b)) w := by
  have e : (if (!slt a b) = true then a else b) = maxB a b := by unfold maxB; cases slt a b <;> simp
  have e2 : Op.stringOp .geq a b = pure (.bool (!slt a b)) := by simp [Op.stringOp, slt]
  simp [Builtin.max2, e2, asBool]
  simpa using e
theorem W_smin2 (hx : ev f x = .string a) (hy : ev f y = .string b) (hk : K (.string (minB a b)) w) : OpW P r ⟨d, .call { callee := .builtin .min, args := #[x, y], argTypes := #[T1, T2] }, ty, pos, af, g⟩ f w K :=
  OpW_val (by simp) (by simp [execOp, resolve, invoke, builtin, Builtin.min_, hx, hy, min2_run]) hk
theorem W_smax2 (hx : ev f x = .string a) (hy : ev f y = .string b) (hk : K (.string (maxB a b)) w) : OpW P r ⟨d, .call { callee := .builtin .max, args := #[x, y], argTypes := #[T1, T2] }, ty, pos, af, g⟩ f w K :=
  OpW_val (by simp) (by simp [execOp, resolve, invoke, builtin, Builtin.max_, hx, hy, max2_run]) hk
theorem W_smin3 (hx : ev f x = .string a) (hy : ev f y = .string b) (hz : ev f z = .string c) (hk : K (.string (minB (minB a b) c)) w) : OpW P r ⟨d, .call { callee := .builtin .min, args := #[x, y, z], argTypes := #[T1, T2, T3] }, ty, pos, af, g⟩ f w K :=
  OpW_val (by simp) (by simp [execOp, resolve, invoke, builtin, Builtin.min_, hx, hy, hz, min2_run]) hk
theorem W_smax3 (hx : ev f x = .string a) (hy : ev f y = .string b) (hz : ev f z = .string c) (hk : K (.string (maxB (maxB a b) c)) w) : OpW P r ⟨d, .call { callee := .builtin .max, args := #[x, y, z], argTypes := #[T1, T2, T3] }, ty, pos, af, g⟩ f w K :=
  OpW_val (by simp) (by simp [execOp, resolve, invoke, builtin, Builtin.max_, hx, hy, hz, max2_run]) hk
end
end Go.Proofs.Ytgaabmoknpifnaa
