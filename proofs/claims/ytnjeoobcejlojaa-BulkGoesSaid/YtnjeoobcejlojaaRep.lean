/- How lists of entries lie in memory; laws on numbers, lengths, elements, fields. Conditions: each law's own premises. -/
import Derived.Test.YtnjeoobcejlojaaHeap
import Derived.Laws.StructEq
namespace Go.Proofs.Ytnjeoobcejlojaa
open Go.RowKit
set_option linter.unusedVariables false
set_option linter.unusedSimpArgs false

/-- A struct's field: its number, its cell, its type. -/
class TyField (P : Program) (T : TypeId) (n : Nat) (off : outParam Nat) (FT : outParam TypeId) : Prop where
  out : ∃ fs fi, P.underlying T = some (.struct fs) ∧ fs[n]? = some fi ∧ fi.offset = off ∧ fi.type = FT ∧ (∀ w, ∃ s, (sizeOf FT).run P w = .ok (s + 1) w)
/-- A struct of numbers, bools and strings, a cell a field: what '==' asks of it. -/
def FlatL (P : Program) : Nat → List Field → Prop
  | _, [] => True
  | k, f :: fs => (f.name ≠ "_" ∧ f.offset = k ∧ (∀ w, (isAgg f.type).run P w = .ok false w) ∧ ((∃ q, P.underlying f.type = some (.int q)) ∨ P.underlying f.type = some .bool ∨ P.underlying f.type = some .string)) ∧ FlatL P (k + 1) fs
class TyFlat (P : Program) (T : TypeId) (ts : outParam (List TypeId)) : Prop where
  out : ∃ fs : Array Field, P.underlying T = some (.struct fs) ∧ P.stoodInHeld T = false ∧ P.eqGuardType P.depth T = false ∧ FlatL P 0 fs.toList ∧ fs.toList.map (·.type) = ts
/-- Equality of plain cells. -/
def eqCell : Value → Value → Bool
  | .int _ a, .int _ b => decide (a = b)
  | .bool a, .bool b => a == b
  | .string a, .string b => decide (a = b)
  | _, _ => false
def eqCells : List Value → List Value → Bool
  | [], _ => true
  | x :: xs, y :: ys => eqCell x y && eqCells xs ys
  | _, _ => false
/-- A cell's kind is that of its field. -/
def fitsCell (P : Program) (t : TypeId) (v : Value) : Prop := (∃ q n, P.underlying t = some (.int q) ∧ v = .int q n) ∨ (∃ b, P.underlying t = some .bool ∧ v = .bool b) ∨ (∃ s, P.underlying t = some .string ∧ v = .string s)
def fitsCells (P : Program) : List TypeId → List Value → Prop
  | [], _ => True
  | t :: ts, v :: vs => fitsCell P t v ∧ fitsCells P ts vs
  | _ :: _, [] => False
theorem run_eqFields {P : Program} (w : World) (d : Nat) (xs ys : Array Value) : ∀ (fs : List Field) (k : Nat), FlatL P k fs → fitsCells P (fs.map (·.type)) (xs.toList.drop k) → fitsCells P (fs.map (·.type)) (ys.toList.drop k) → (xs.toList.drop k).length = fs.length →
    (Op.eqFields (d + 1) xs ys fs).run P w = .ok (eqCells (xs.toList.drop k) (ys.toList.drop k)) w := by
  intro fs
  induction fs with
  | nil =>
    intro k _ _ _ hl
    have : xs.toList.drop k = [] := List.eq_nil_of_length_eq_zero (by simpa using hl)
    rw [this]; simp [Op.eqFields, eqCells]
  | cons f fs ih =>
    intro k h hx hy hl
    obtain ⟨⟨h1, h2, h3, h4⟩, h5⟩ := h
    have hkx : k < xs.toList.length := by simp at hl; simp; omega
    have hxe : xs.toList.drop k = xs.toList[k] :: xs.toList.drop (k + 1) := List.drop_eq_getElem_cons hkx
    have hky : k < ys.toList.length := by
      rcases Nat.lt_or_ge k ys.toList.length with h | h
      · exact h
      · rw [List.drop_eq_nil_of_le h] at hy; exact hy.elim
    have hye : ys.toList.drop k = ys.toList[k] :: ys.toList.drop (k + 1) := List.drop_eq_getElem_cons hky
    rw [hxe] at hx hl
    rw [hye] at hy
    have ih' := ih (k + 1) h5 hx.2 hy.2 (by simpa using hl)
    have px : (part f.type xs f.offset).run P w = .ok xs.toList[k] w := by
      simp [part, h3, h2, Array.getElem?_eq_getElem (show k < xs.size by simpa using hkx)]
    have py : (part f.type ys f.offset).run P w = .ok ys.toList[k] w := by
      simp [part, h3, h2, Array.getElem?_eq_getElem (show k < ys.size by simpa using hky)]
    have he : (Op.equalIn (d + 1) f.type xs.toList[k] ys.toList[k]).run P w = .ok (eqCell xs.toList[k] ys.toList[k]) w := by
      rcases hx.1 with ⟨q, n, e1, e2⟩ | ⟨b, e1, e2⟩ | ⟨s, e1, e2⟩ <;> rcases hy.1 with ⟨q', n', e1', e2'⟩ | ⟨b', e1', e2'⟩ | ⟨s', e1', e2'⟩ <;> rw [e1] at e1' <;> cases e1' <;> rw [e2, e2']
      · rw [run_equalIn_int w d f.type _ _ _ _ e1]; simp only [eqCell]; rfl
      · rw [run_equalIn_bool' w d f.type _ _ e1]; rfl
      · rw [run_equalIn_string w d f.type _ _ e1, toList_beq]; rfl
    simp only [Op.eqFields]
    rw [if_pos h1]
    simp only [Sem.run_bind, px, py, Result.andThen_ok, he, Sem.run_ite]
    rw [hxe, hye]
    simp only [eqCells]
    cases eqCell xs.toList[k] ys.toList[k] with
    | true => simp only [Bool.not_true, Bool.false_eq_true, if_false, Bool.true_and]; exact ih'
    | false => simp
structure Ent where
  key : ByteArray
  val : ByteArray
  deriving DecidableEq, Inhabited
def ent (l : List Ent) (i : Nat) : Ent := l.getD i default
theorem ent_at {l : List Ent} {i : Nat} (h : i < l.length) : l[i]? = some (ent l i) := by simp [ent, h]
def entCells : List Ent → List Value
  | [] => []
  | e :: l => .string e.key :: .string e.val :: entCells l
theorem entCells_length (l : List Ent) : (entCells l).length = l.length * 2 := by
  induction l with
  | nil => rfl
  | cons e l ih => simp [entCells, ih]; omega
theorem entCells_key {l : List Ent} : ∀ {i : Nat}, i < l.length → (entCells l)[i * 2]? = some (.string (ent l i).key) := by
  induction l with
  | nil => intro i h; simp at h
  | cons e l ih =>
    intro i h
    cases i with
    | zero => simp [entCells, ent]
    | succ i =>
      rw [show (i + 1) * 2 = i * 2 + 1 + 1 by omega]
      simp only [entCells, List.getElem?_cons_succ]
      rw [ih (by simpa using h)]
      simp [ent]
theorem entCells_val {l : List Ent} : ∀ {i : Nat}, i < l.length → (entCells l)[i * 2 + 1]? = some (.string (ent l i).val) := by
  induction l with
  | nil => intro i h; simp at h
  | cons e l ih =>
    intro i h
    cases i with
    | zero => simp [entCells, ent]
    | succ i =>
      rw [show (i + 1) * 2 + 1 = i * 2 + 1 + 1 + 1 by omega]
      simp only [entCells, List.getElem?_cons_succ]
      rw [ih (by simpa using h)]
      simp [ent]
theorem entCells_append (l m : List Ent) : entCells (l ++ m) = entCells l ++ entCells m := by
  induction l with
  | nil => rfl
  | cons e l ih => simp [entCells, ih]
/-- Cells lie in a row of the persistent heap. -/
def Row (H : HF) (b off : Nat) (vs : List Value) : Prop := ∃ c E fr, H b = some (.cells c E fr) ∧ ∀ (i : Nat) (v : Value), vs[i]? = some v → c[off + i]? = some v
theorem Row.mono {H H' : HF} {b off : Nat} {vs : List Value} (h : Row H b off vs) (hle : HLe H H') : Row H' b off vs := by
  obtain ⟨c, E, fr, h1, h2⟩ := h
  exact ⟨c, E, fr, hle _ _ h1, h2⟩
/-- A slice of so many elements, whose cells these are. -/
def SlAt (H : HF) (A : Option Addr) (vs : List Value) : Prop := vs = [] ∨ ∃ b off, A = some ⟨b, off, none⟩ ∧ Row H b off vs
theorem SlAt.mono {H H' : HF} {A : Option Addr} {vs : List Value} (h : SlAt H A vs) (hle : HLe H H') : SlAt H' A vs := by
  rcases h with h | ⟨b, off, h1, h2⟩
  · exact .inl h
  · exact .inr ⟨b, off, h1, h2.mono hle⟩
/-- A slice of entries. -/
def EntsAt (H : HF) (A : Option Addr) (l : List Ent) : Prop := SlAt H A (entCells l)
theorem EntsAt.mono {H H' : HF} {A : Option Addr} {l : List Ent} (h : EntsAt H A l) (hle : HLe H H') : EntsAt H' A l := SlAt.mono h hle
theorem EntsAt.some {H : HF} {A : Option Addr} {l : List Ent} (h : EntsAt H A l) {i : Nat} (hi : i < l.length) : ∃ b off, A = some ⟨b, off, none⟩ ∧ Row H b off (entCells l) := by
  rcases h with h | h
  · cases l with
    | nil => simp at hi
    | cons e l => simp [entCells] at h
  · exact h

theorem add_lit' (b o n : Nat) : Addr.add ⟨b, o, none⟩ n = ⟨b, o + n, none⟩ := Addr.add_lit b o n
section
variable {P : Program} {r : Option Nat} {n : Nat} {f : Fr} {H : HF} {w : World} {K : Value → World → Prop} {d : Option Nat} {ty : TypeId} {pos : String} {af : Array Edge} {g : Option (Nat × Bool)} {T T' E : TypeId} {x y i : Operand}
theorem W_moveInt {k : IntKind} [TyInt P ty k] {m : Int} (hx : ev f x = .int k m) (hk : K (.int k m) w) : OpW P r ⟨d, .move x, ty, pos, af, g⟩ f w K := W_move hx hk
theorem W_moveBool [TyBool P ty] {b : Bool} (hx : ev f x = .bool b) (hk : K (.bool b) w) : OpW P r ⟨d, .move x, ty, pos, af, g⟩ f w K := W_move hx hk
theorem W_moveStr [TyStr P ty] {s : ByteArray} (hx : ev f x = .string s) (hk : K (.string s) w) : OpW P r ⟨d, .move x, ty, pos, af, g⟩ f w K := W_move hx hk
theorem W_movePtr [TyPtr P ty E] {a : Option Addr} (hx : ev f x = .pointer a) (hk : K (.pointer a) w) : OpW P r ⟨d, .move x, ty, pos, af, g⟩ f w K := W_move hx hk
theorem W_moveSl [TySlice P ty E] {a : Option Addr} {m c : Nat} (hx : ev f x = .slice a m c) (hk : K (.slice a m c) w) : OpW P r ⟨d, .move x, ty, pos, af, g⟩ f w K := W_move hx hk
theorem W_moveAgg [TyAgg P ty] {cs : Array Value} (hx : ev f x = .agg cs) (hk : K (.agg cs) w) : OpW P r ⟨d, .move x, ty, pos, af, g⟩ f w K := W_move hx hk
theorem W_moveTup {cs : Array Value} (hx : ev f x = .tuple cs) (hk : K (.tuple cs) w) : OpW P r ⟨d, .move x, ty, pos, af, g⟩ f w K := W_move hx hk
theorem W_moveFun {k : Go.Fn} {a c : Array Value} (hx : ev f x = .func k a c) (hk : K (.func k a c) w) : OpW P r ⟨d, .move x, ty, pos, af, g⟩ f w K := W_move hx hk
theorem W_assignInt {k : IntKind} [TyInt P ty k] {m : Int} (hx : ev f x = .int k m) (hk : K (.int k m) w) : OpW P r ⟨d, .assign x, ty, pos, af, g⟩ f w K := W_assign hx hk
theorem W_assignBool [TyBool P ty] {b : Bool} (hx : ev f x = .bool b) (hk : K (.bool b) w) : OpW P r ⟨d, .assign x, ty, pos, af, g⟩ f w K := W_assign hx hk
theorem W_assignStr [TyStr P ty] {s : ByteArray} (hx : ev f x = .string s) (hk : K (.string s) w) : OpW P r ⟨d, .assign x, ty, pos, af, g⟩ f w K := W_assign hx hk
theorem W_assignPtr [TyPtr P ty E] {a : Option Addr} (hx : ev f x = .pointer a) (hk : K (.pointer a) w) : OpW P r ⟨d, .assign x, ty, pos, af, g⟩ f w K := W_assign hx hk
theorem W_assignSl [TySlice P ty E] {a : Option Addr} {m c : Nat} (hx : ev f x = .slice a m c) (hk : K (.slice a m c) w) : OpW P r ⟨d, .assign x, ty, pos, af, g⟩ f w K := W_assign hx hk
theorem W_assignAgg [TyAgg P ty] {cs : Array Value} (hx : ev f x = .agg cs) (hk : K (.agg cs) w) : OpW P r ⟨d, .assign x, ty, pos, af, g⟩ f w K := W_assign hx hk
theorem W_assignTup {cs : Array Value} (hx : ev f x = .tuple cs) (hk : K (.tuple cs) w) : OpW P r ⟨d, .assign x, ty, pos, af, g⟩ f w K := W_assign hx hk
theorem W_assignFun {k : Go.Fn} {a c : Array Value} (hx : ev f x = .func k a c) (hk : K (.func k a c) w) : OpW P r ⟨d, .assign x, ty, pos, af, g⟩ f w K := W_assign hx hk
theorem W_pickT {c : Operand} {v : Value} (hc : ev f c = .bool true) (hv : ev f x = v) (hk : K v w) : OpW P r ⟨d, .pick c x y, ty, pos, af, g⟩ f w K := W_pick hc hv hk
theorem W_pickF {c : Operand} {v : Value} (hc : ev f c = .bool false) (hv : ev f y = v) (hk : K v w) : OpW P r ⟨d, .pick c x y, ty, pos, af, g⟩ f w K := W_pick hc hv hk
/-! ### Numbers that are counts -/
theorem W_addN {a b : Nat} (hx : ev f x = .int .i64 (a : Int)) (hy : ev f y = .int .i64 (b : Int)) (hb : a + b < 9223372036854775808) (hk : K (.int .i64 ((a + b : Nat) : Int)) w) : OpW P r ⟨d, .binOp .add T x y T', ty, pos, af, g⟩ f w K :=
  W_add hx hy (by rw [IntWalk.i64_in _ (by omega)]; simp) hk
theorem W_subN {a b : Nat} (hx : ev f x = .int .i64 (a : Int)) (hy : ev f y = .int .i64 (b : Int)) (hle : b ≤ a) (hb : a < 9223372036854775808) (hk : K (.int .i64 ((a - b : Nat) : Int)) w) : OpW P r ⟨d, .binOp .sub T x y T', ty, pos, af, g⟩ f w K :=
  W_sub hx hy (by rw [IntWalk.i64_in _ (by omega)]; omega) hk
theorem W_quoN {a b : Nat} (hx : ev f x = .int .i64 (a : Int)) (hy : ev f y = .int .i64 (b : Int)) (h0 : 0 < b) (hb : a < 9223372036854775808) (hk : K (.int .i64 ((a / b : Nat) : Int)) w) : OpW P r ⟨d, .binOp .quo T x y T', ty, pos, af, g⟩ f w K :=
  W_quo hx hy (by omega) (by
    have h1 : (a : Int).tdiv (b : Int) = ((a / b : Nat) : Int) := by rw [Int.tdiv_eq_ediv_of_nonneg (by omega)]; simp
    have h2 : a / b ≤ a := Nat.div_le_self a b
    rw [h1]; generalize a / b = q at *; rw [IntWalk.i64_in _ (by omega)]) hk
theorem W_lssN {k : IntKind} [TyInt P T k] {a b : Nat} (hx : ev f x = .int k (a : Int)) (hy : ev f y = .int k (b : Int)) (hk : K (.bool (decide (a < b))) w) : OpW P r ⟨d, .binOp .lss T x y T', ty, pos, af, g⟩ f w K :=
  W_lss hx hy (by rw [show decide ((a : Int) < b) = decide (a < b) by rw [decide_eq_decide]; omega]; exact hk)
theorem W_leqN {k : IntKind} [TyInt P T k] {a b : Nat} (hx : ev f x = .int k (a : Int)) (hy : ev f y = .int k (b : Int)) (hk : K (.bool (decide (a ≤ b))) w) : OpW P r ⟨d, .binOp .leq T x y T', ty, pos, af, g⟩ f w K :=
  W_leq hx hy (by rw [show decide ((a : Int) ≤ b) = decide (a ≤ b) by rw [decide_eq_decide]; omega]; exact hk)
theorem W_gtrN {k : IntKind} [TyInt P T k] {a b : Nat} (hx : ev f x = .int k (a : Int)) (hy : ev f y = .int k (b : Int)) (hk : K (.bool (decide (b < a))) w) : OpW P r ⟨d, .binOp .gtr T x y T', ty, pos, af, g⟩ f w K :=
  W_gtr hx hy (by rw [show decide ((b : Int) < a) = decide (b < a) by rw [decide_eq_decide]; omega]; exact hk)
theorem W_geqN {k : IntKind} [TyInt P T k] {a b : Nat} (hx : ev f x = .int k (a : Int)) (hy : ev f y = .int k (b : Int)) (hk : K (.bool (decide (b ≤ a))) w) : OpW P r ⟨d, .binOp .geq T x y T', ty, pos, af, g⟩ f w K :=
  W_geq hx hy (by rw [show decide ((b : Int) ≤ a) = decide (b ≤ a) by rw [decide_eq_decide]; omega]; exact hk)
theorem W_eqlN {k : IntKind} [TyInt P T k] {a b : Nat} (hx : ev f x = .int k (a : Int)) (hy : ev f y = .int k (b : Int)) (hk : K (.bool (decide (a = b))) w) : OpW P r ⟨d, .binOp .eql T x y T', ty, pos, af, g⟩ f w K :=
  W_eql hx hy (by rw [show decide ((a : Int) = b) = decide (a = b) by rw [decide_eq_decide]; omega]; exact hk)
theorem W_neqN {k : IntKind} [TyInt P T k] {a b : Nat} (hx : ev f x = .int k (a : Int)) (hy : ev f y = .int k (b : Int)) (hk : K (.bool (decide (a ≠ b))) w) : OpW P r ⟨d, .binOp .neq T x y T', ty, pos, af, g⟩ f w K :=
  W_neq hx hy (by rw [show decide ((a : Int) ≠ b) = decide (a ≠ b) by rw [decide_eq_decide]; omega]; exact hk)
/-! ### Constants -/
theorem W_add1 {a : Nat} (hx : ev f x = .int .i64 (a : Int)) (hb : a + 1 < 9223372036854775808) (hk : K (.int .i64 ((a + 1 : Nat) : Int)) w) : OpW P r ⟨d, .binOp .add T x (.const (.int .i64 1)) T', ty, pos, af, g⟩ f w K := W_addN (b := 1) hx rfl hb hk
theorem W_sub1 {a : Nat} (hx : ev f x = .int .i64 (a : Int)) (hle : 1 ≤ a) (hb : a < 9223372036854775808) (hk : K (.int .i64 ((a - 1 : Nat) : Int)) w) : OpW P r ⟨d, .binOp .sub T x (.const (.int .i64 1)) T', ty, pos, af, g⟩ f w K := W_subN (b := 1) hx rfl hle hb hk
theorem W_add2 {a : Nat} (hx : ev f x = .int .i64 (a : Int)) (hb : a + 2 < 9223372036854775808) (hk : K (.int .i64 ((a + 2 : Nat) : Int)) w) : OpW P r ⟨d, .binOp .add T x (.const (.int .i64 2)) T', ty, pos, af, g⟩ f w K := W_addN (b := 2) hx rfl hb hk
theorem W_sub2 {a : Nat} (hx : ev f x = .int .i64 (a : Int)) (hle : 2 ≤ a) (hb : a < 9223372036854775808) (hk : K (.int .i64 ((a - 2 : Nat) : Int)) w) : OpW P r ⟨d, .binOp .sub T x (.const (.int .i64 2)) T', ty, pos, af, g⟩ f w K := W_subN (b := 2) hx rfl hle hb hk
theorem W_add3 {a : Nat} (hx : ev f x = .int .i64 (a : Int)) (hb : a + 3 < 9223372036854775808) (hk : K (.int .i64 ((a + 3 : Nat) : Int)) w) : OpW P r ⟨d, .binOp .add T x (.const (.int .i64 3)) T', ty, pos, af, g⟩ f w K := W_addN (b := 3) hx rfl hb hk
theorem W_sub3 {a : Nat} (hx : ev f x = .int .i64 (a : Int)) (hle : 3 ≤ a) (hb : a < 9223372036854775808) (hk : K (.int .i64 ((a - 3 : Nat) : Int)) w) : OpW P r ⟨d, .binOp .sub T x (.const (.int .i64 3)) T', ty, pos, af, g⟩ f w K := W_subN (b := 3) hx rfl hle hb hk
theorem W_add4 {a : Nat} (hx : ev f x = .int .i64 (a : Int)) (hb : a + 4 < 9223372036854775808) (hk : K (.int .i64 ((a + 4 : Nat) : Int)) w) : OpW P r ⟨d, .binOp .add T x (.const (.int .i64 4)) T', ty, pos, af, g⟩ f w K := W_addN (b := 4) hx rfl hb hk
theorem W_sub4 {a : Nat} (hx : ev f x = .int .i64 (a : Int)) (hle : 4 ≤ a) (hb : a < 9223372036854775808) (hk : K (.int .i64 ((a - 4 : Nat) : Int)) w) : OpW P r ⟨d, .binOp .sub T x (.const (.int .i64 4)) T', ty, pos, af, g⟩ f w K := W_subN (b := 4) hx rfl hle hb hk
theorem W_quo2 {a : Nat} (hx : ev f x = .int .i64 (a : Int)) (hb : a < 9223372036854775808) (hk : K (.int .i64 ((a / 2 : Nat) : Int)) w) : OpW P r ⟨d, .binOp .quo T x (.const (.int .i64 2)) T', ty, pos, af, g⟩ f w K := W_quoN (b := 2) hx rfl (by omega) hb hk
theorem W_lssC {k : IntKind} [TyInt P T k] {m n : Int} (hx : ev f x = .int k m) (hk : K (.bool (decide (m < n))) w) : OpW P r ⟨d, .binOp .lss T x (.const (.int k n)) T', ty, pos, af, g⟩ f w K := W_lss hx rfl hk
theorem W_lssD {k : IntKind} [TyInt P T k] {m n : Int} (hy : ev f y = .int k n) (hk : K (.bool (decide (m < n))) w) : OpW P r ⟨d, .binOp .lss T (.const (.int k m)) y T', ty, pos, af, g⟩ f w K := W_lss rfl hy hk
theorem W_leqC {k : IntKind} [TyInt P T k] {m n : Int} (hx : ev f x = .int k m) (hk : K (.bool (decide (m ≤ n))) w) : OpW P r ⟨d, .binOp .leq T x (.const (.int k n)) T', ty, pos, af, g⟩ f w K := W_leq hx rfl hk
theorem W_leqD {k : IntKind} [TyInt P T k] {m n : Int} (hy : ev f y = .int k n) (hk : K (.bool (decide (m ≤ n))) w) : OpW P r ⟨d, .binOp .leq T (.const (.int k m)) y T', ty, pos, af, g⟩ f w K := W_leq rfl hy hk
theorem W_gtrC {k : IntKind} [TyInt P T k] {m n : Int} (hx : ev f x = .int k m) (hk : K (.bool (decide (n < m))) w) : OpW P r ⟨d, .binOp .gtr T x (.const (.int k n)) T', ty, pos, af, g⟩ f w K := W_gtr hx rfl hk
theorem W_gtrD {k : IntKind} [TyInt P T k] {m n : Int} (hy : ev f y = .int k n) (hk : K (.bool (decide (n < m))) w) : OpW P r ⟨d, .binOp .gtr T (.const (.int k m)) y T', ty, pos, af, g⟩ f w K := W_gtr rfl hy hk
theorem W_geqC {k : IntKind} [TyInt P T k] {m n : Int} (hx : ev f x = .int k m) (hk : K (.bool (decide (n ≤ m))) w) : OpW P r ⟨d, .binOp .geq T x (.const (.int k n)) T', ty, pos, af, g⟩ f w K := W_geq hx rfl hk
theorem W_geqD {k : IntKind} [TyInt P T k] {m n : Int} (hy : ev f y = .int k n) (hk : K (.bool (decide (n ≤ m))) w) : OpW P r ⟨d, .binOp .geq T (.const (.int k m)) y T', ty, pos, af, g⟩ f w K := W_geq rfl hy hk
theorem W_eqlC {k : IntKind} [TyInt P T k] {m n : Int} (hx : ev f x = .int k m) (hk : K (.bool (decide (m = n))) w) : OpW P r ⟨d, .binOp .eql T x (.const (.int k n)) T', ty, pos, af, g⟩ f w K := W_eql hx rfl hk
theorem W_eqlD {k : IntKind} [TyInt P T k] {m n : Int} (hy : ev f y = .int k n) (hk : K (.bool (decide (m = n))) w) : OpW P r ⟨d, .binOp .eql T (.const (.int k m)) y T', ty, pos, af, g⟩ f w K := W_eql rfl hy hk
theorem W_neqC {k : IntKind} [TyInt P T k] {m n : Int} (hx : ev f x = .int k m) (hk : K (.bool (decide (m ≠ n))) w) : OpW P r ⟨d, .binOp .neq T x (.const (.int k n)) T', ty, pos, af, g⟩ f w K := W_neq hx rfl hk
theorem W_neqD {k : IntKind} [TyInt P T k] {m n : Int} (hy : ev f y = .int k n) (hk : K (.bool (decide (m ≠ n))) w) : OpW P r ⟨d, .binOp .neq T (.const (.int k m)) y T', ty, pos, af, g⟩ f w K := W_neq rfl hy hk
/-! ### Tests that are decided -/
theorem W_lssT {k : IntKind} [TyInt P T k] {m n : Int} (hx : ev f x = .int k m) (hy : ev f y = .int k n) (h : m < n) (hk : K (.bool true) w) : OpW P r ⟨d, .binOp .lss T x y T', ty, pos, af, g⟩ f w K :=
  W_lss hx hy (by rw [decide_eq_true h]; exact hk)
theorem W_lssF {k : IntKind} [TyInt P T k] {m n : Int} (hx : ev f x = .int k m) (hy : ev f y = .int k n) (h : ¬ (m < n)) (hk : K (.bool false) w) : OpW P r ⟨d, .binOp .lss T x y T', ty, pos, af, g⟩ f w K :=
  W_lss hx hy (by rw [decide_eq_false h]; exact hk)
theorem W_leqT {k : IntKind} [TyInt P T k] {m n : Int} (hx : ev f x = .int k m) (hy : ev f y = .int k n) (h : m ≤ n) (hk : K (.bool true) w) : OpW P r ⟨d, .binOp .leq T x y T', ty, pos, af, g⟩ f w K :=
  W_leq hx hy (by rw [decide_eq_true h]; exact hk)
theorem W_leqF {k : IntKind} [TyInt P T k] {m n : Int} (hx : ev f x = .int k m) (hy : ev f y = .int k n) (h : ¬ (m ≤ n)) (hk : K (.bool false) w) : OpW P r ⟨d, .binOp .leq T x y T', ty, pos, af, g⟩ f w K :=
  W_leq hx hy (by rw [decide_eq_false h]; exact hk)
theorem W_gtrT {k : IntKind} [TyInt P T k] {m n : Int} (hx : ev f x = .int k m) (hy : ev f y = .int k n) (h : n < m) (hk : K (.bool true) w) : OpW P r ⟨d, .binOp .gtr T x y T', ty, pos, af, g⟩ f w K :=
  W_gtr hx hy (by rw [decide_eq_true h]; exact hk)
theorem W_gtrF {k : IntKind} [TyInt P T k] {m n : Int} (hx : ev f x = .int k m) (hy : ev f y = .int k n) (h : ¬ (n < m)) (hk : K (.bool false) w) : OpW P r ⟨d, .binOp .gtr T x y T', ty, pos, af, g⟩ f w K :=
  W_gtr hx hy (by rw [decide_eq_false h]; exact hk)
theorem W_geqT {k : IntKind} [TyInt P T k] {m n : Int} (hx : ev f x = .int k m) (hy : ev f y = .int k n) (h : n ≤ m) (hk : K (.bool true) w) : OpW P r ⟨d, .binOp .geq T x y T', ty, pos, af, g⟩ f w K :=
  W_geq hx hy (by rw [decide_eq_true h]; exact hk)
theorem W_geqF {k : IntKind} [TyInt P T k] {m n : Int} (hx : ev f x = .int k m) (hy : ev f y = .int k n) (h : ¬ (n ≤ m)) (hk : K (.bool false) w) : OpW P r ⟨d, .binOp .geq T x y T', ty, pos, af, g⟩ f w K :=
  W_geq hx hy (by rw [decide_eq_false h]; exact hk)
theorem W_eqlT {k : IntKind} [TyInt P T k] {m n : Int} (hx : ev f x = .int k m) (hy : ev f y = .int k n) (h : m = n) (hk : K (.bool true) w) : OpW P r ⟨d, .binOp .eql T x y T', ty, pos, af, g⟩ f w K :=
  W_eql hx hy (by rw [decide_eq_true h]; exact hk)
theorem W_eqlF {k : IntKind} [TyInt P T k] {m n : Int} (hx : ev f x = .int k m) (hy : ev f y = .int k n) (h : ¬ (m = n)) (hk : K (.bool false) w) : OpW P r ⟨d, .binOp .eql T x y T', ty, pos, af, g⟩ f w K :=
  W_eql hx hy (by rw [decide_eq_false h]; exact hk)
theorem W_neqT {k : IntKind} [TyInt P T k] {m n : Int} (hx : ev f x = .int k m) (hy : ev f y = .int k n) (h : m ≠ n) (hk : K (.bool true) w) : OpW P r ⟨d, .binOp .neq T x y T', ty, pos, af, g⟩ f w K :=
  W_neq hx hy (by rw [decide_eq_true h]; exact hk)
theorem W_neqF {k : IntKind} [TyInt P T k] {m n : Int} (hx : ev f x = .int k m) (hy : ev f y = .int k n) (h : ¬ (m ≠ n)) (hk : K (.bool false) w) : OpW P r ⟨d, .binOp .neq T x y T', ty, pos, af, g⟩ f w K :=
  W_neq hx hy (by rw [decide_eq_false h]; exact hk)
theorem W_slssB [TyStr P T] {b : Bool} {m n : ByteArray} (hx : ev f x = .string m) (hy : ev f y = .string n) (h : slt m n = b) (hk : K (.bool b) w) : OpW P r ⟨d, .binOp .lss T x y T', ty, pos, af, g⟩ f w K :=
  W_slss hx hy (by rw [h]; exact hk)
theorem W_sgeqB [TyStr P T] {b : Bool} {m n : ByteArray} (hx : ev f x = .string m) (hy : ev f y = .string n) (h : slt m n = b) (hk : K (.bool (!b)) w) : OpW P r ⟨d, .binOp .geq T x y T', ty, pos, af, g⟩ f w K :=
  W_sgeq hx hy (by rw [h]; exact hk)
theorem W_seqlT [TyStr P T] {m n : ByteArray} (hx : ev f x = .string m) (hy : ev f y = .string n) (h : m = n) (hk : K (.bool true) w) : OpW P r ⟨d, .binOp .eql T x y T', ty, pos, af, g⟩ f w K :=
  W_seql hx hy (by rw [decide_eq_true h]; exact hk)
theorem W_seqlF [TyStr P T] {m n : ByteArray} (hx : ev f x = .string m) (hy : ev f y = .string n) (h : ¬ m = n) (hk : K (.bool false) w) : OpW P r ⟨d, .binOp .eql T x y T', ty, pos, af, g⟩ f w K :=
  W_seql hx hy (by rw [decide_eq_false h]; exact hk)
theorem W_sneqT [TyStr P T] {m n : ByteArray} (hx : ev f x = .string m) (hy : ev f y = .string n) (h : ¬ m = n) (hk : K (.bool true) w) : OpW P r ⟨d, .binOp .neq T x y T', ty, pos, af, g⟩ f w K :=
  W_sneq hx hy (by rw [decide_eq_true h]; exact hk)
theorem W_sneqF [TyStr P T] {m n : ByteArray} (hx : ev f x = .string m) (hy : ev f y = .string n) (h : m = n) (hk : K (.bool false) w) : OpW P r ⟨d, .binOp .neq T x y T', ty, pos, af, g⟩ f w K :=
  W_sneq hx hy (by rw [decide_eq_false (by simp [h])]; exact hk)
/-! ### Lengths -/
theorem W_len [TySlice P T E] {A : Option Addr} {m c : Nat} (hx : ev f x = .slice A m c) (hk : K (.int .i64 (m : Int)) w) : OpW P r ⟨d, .call { callee := .builtin .len, args := #[x], argTypes := #[T] }, ty, pos, af, g⟩ f w K :=
  OpW_val (by simp) (by simp [execOp, resolve, invoke, builtin, Builtin.len_, hx, run_underlying (TySlice.out (P := P) (T := T)), goInt]) hk
theorem W_cap [TySlice P T E] {A : Option Addr} {m c : Nat} (hx : ev f x = .slice A m c) (hk : K (.int .i64 (c : Int)) w) : OpW P r ⟨d, .call { callee := .builtin .cap, args := #[x], argTypes := #[T] }, ty, pos, af, g⟩ f w K :=
  OpW_val (by simp) (by simp [execOp, resolve, invoke, builtin, Builtin.cap_, hx, run_underlying (TySlice.out (P := P) (T := T)), goInt]) hk
theorem W_lenS [TyStr P T] {s : ByteArray} (hx : ev f x = .string s) (hk : K (.int .i64 (s.size : Int)) w) : OpW P r ⟨d, .call { callee := .builtin .len, args := #[x], argTypes := #[T] }, ty, pos, af, g⟩ f w K :=
  OpW_val (by simp) (by simp [execOp, resolve, invoke, builtin, Builtin.len_, hx, run_underlying (TyStr.out (P := P) (T := T)), goInt]) hk
/-! ### Elements and fields -/
theorem W_index [TySlice P T E] {sz : Nat} [TySize P E sz] {A : Option Addr} {m c q b off : Nat} {k : IntKind} (hx : ev f x = .slice A m c) (hi : ev f i = .int k (q : Int)) (hq : q < m) (hA : A = some ⟨b, off, none⟩)
    (hk : K (.pointer (some ⟨b, off + q * sz, none⟩)) w) : OpW P r ⟨d, .indexAddr T x i, ty, pos, af, g⟩ f w K :=
  OpW_val (by simp) (by
    subst hA
    have h1 : (0 : Int) ≤ q ∧ (q : Int) < m := by omega
    simp [execOp, Instr.indexAt, hx, hi, asIntOf, run_underlying (TySlice.out (P := P) (T := T)), TySize.size (P := P) (T := E), hq, Addr.add_lit]) hk
theorem W_field {fo : Nat} {FT : TypeId} {q : Nat} [h : TyField P T q fo FT] {b o : Nat} (hx : ev f x = .pointer (some ⟨b, o, none⟩)) (hk : K (.pointer (some ⟨b, o + fo, none⟩)) w) : OpW P r ⟨d, .fieldAddr T x q, ty, pos, af, g⟩ f w K := by
  obtain ⟨fs, fi, h1, h2, h3, h4, h5⟩ := h.out
  obtain ⟨s, h6⟩ := h5 w
  refine OpW_val (by simp) ?_ hk
  simp [execOp, hx, Instr.fieldAt, Instr.sureAddr, fieldPlace, run_underlying h1, h2, h3, h4, h6, Addr.add_lit]
/-- A cell of the persistent heap. -/
theorem W_loadH [TyOne P T] {b o : Nat} {c : Array Value} {E : TypeId} {fr : Nat × Nat} {v : Value} (hx : ev f x = .pointer (some ⟨b, o, none⟩)) (hb : H b = some (.cells c E fr)) (hc : c[o]? = some v) (hS : Sub H w) (hk : K v w) :
    OpW P r ⟨d, .load T x, ty, pos, af, g⟩ f w K := W_load hx (hS.cell hb hc) hk
theorem W_loadHL [TyOne P T] {b o : Nat} {c : Array Value} {E : TypeId} {fr : Nat × Nat} {v : Value} (hx : ev f x = .pointer (some ⟨b, o, none⟩)) (hb : H b = some (.cells c E fr)) (hc : c.toList[o]? = some v) (hS : Sub H w) (hk : K v w) :
    OpW P r ⟨d, .load T x, ty, pos, af, g⟩ f w K := W_loadH hx hb (by simpa using hc) hS hk
theorem W_loadRow [TyOne P T] {b o j : Nat} {vs : List Value} {v : Value} (hx : ev f x = .pointer (some ⟨b, o + j, none⟩)) (hb : Row H b o vs) (hc : vs[j]? = some v) (hS : Sub H w) (hk : K v w) :
    OpW P r ⟨d, .load T x, ty, pos, af, g⟩ f w K := by
  obtain ⟨c, E, fr, h1, h2⟩ := hb
  exact W_load hx (hS.cell h1 (h2 _ _ hc)) hk
theorem W_loadKey [TyOne P T] {b o q : Nat} {l : List Ent} (hx : ev f x = .pointer (some ⟨b, o + q * 2 + 0, none⟩)) (hb : Row H b o (entCells l)) (hq : q < l.length) (hS : Sub H w) (hk : K (.string (ent l q).key) w) :
    OpW P r ⟨d, .load T x, ty, pos, af, g⟩ f w K := W_loadRow (j := q * 2) hx hb (entCells_key hq) hS hk
theorem W_loadVal [TyOne P T] {b o q : Nat} {l : List Ent} (hx : ev f x = .pointer (some ⟨b, o + q * 2 + 1, none⟩)) (hb : Row H b o (entCells l)) (hq : q < l.length) (hS : Sub H w) (hk : K (.string (ent l q).val) w) :
    OpW P r ⟨d, .load T x, ty, pos, af, g⟩ f w K := W_loadRow (j := q * 2 + 1) hx hb (entCells_val hq) hS hk
theorem W_loadEnt [TyAgg P T] [TySize P T 2] {b o q : Nat} {l : List Ent} (hx : ev f x = .pointer (some ⟨b, o + q * 2, none⟩)) (hb : Row H b o (entCells l)) (hq : q < l.length) (hS : Sub H w) (hk : K (.agg #[.string (ent l q).key, .string (ent l q).val]) w) :
    OpW P r ⟨d, .load T x, ty, pos, af, g⟩ f w K := by
  obtain ⟨c, E, fr, h1, h2⟩ := hb
  refine W_loadAgg (s := 2) (cs := [.string (ent l q).key, .string (ent l q).val]) hx rfl ?_ hk
  intro j v hj
  rw [add_lit']
  have h3 := h2 _ _ (entCells_key hq)
  have h4 := h2 _ _ (entCells_val hq)
  match j with
  | 0 => simp at hj; subst hj; exact hS.cell h1 h3
  | 1 => simp at hj; subst hj; exact hS.cell h1 h4
  | j + 2 => simp at hj
theorem W_loadAggH {s : Nat} [TyAgg P T] [TySize P T s] {b o : Nat} {c : Array Value} {E : TypeId} {fr : Nat × Nat} {cs : List Value} (hx : ev f x = .pointer (some ⟨b, o, none⟩)) (hb : H b = some (.cells c E fr)) (hl : cs.length = s) (hc : ((c.toList.drop o).take s) = cs) (hS : Sub H w) (hk : K (.agg cs.toArray) w) :
    OpW P r ⟨d, .load T x, ty, pos, af, g⟩ f w K := by
  refine W_loadAgg hx hl ?_ hk
  intro j v hj
  rw [add_lit']
  refine hS.cell hb ?_
  subst hc
  rw [List.getElem?_take] at hj
  split at hj
  · simpa using hj
  · cases hj
/-- A whole block of the persistent heap. -/
theorem W_loadWhole {s : Nat} [TyAgg P T] [TySize P T s] {b : Nat} {c : Array Value} {E : TypeId} {fr : Nat × Nat} (hx : ev f x = .pointer (some ⟨b, 0, none⟩)) (hb : H b = some (.cells c E fr)) (hl : c.size = s) (hS : Sub H w) (hk : K (.agg c) w) :
    OpW P r ⟨d, .load T x, ty, pos, af, g⟩ f w K := by
  have : (.agg c : Value) = .agg c.toList.toArray := by simp
  rw [this] at hk
  exact W_loadAggH (o := 0) hx hb (by simpa using hl) (by rw [List.drop_zero, ← hl]; exact List.take_of_length_le (by simp)) hS hk
theorem run_eqAgg {T : TypeId} {ts : List TypeId} [h : TyFlat P T ts] (xs ys : Array Value) (hx : fitsCells P ts xs.toList) (hy : fitsCells P ts ys.toList) (hl : xs.size = ts.length) :
    (Op.equal T (.agg xs) (.agg ys)).run P w = .ok (eqCells xs.toList ys.toList) w := by
  obtain ⟨fs, h1, h2, h3, h4, rfl⟩ := h.out
  have h5 : P.fieldsOf T = fs := by simp [Program.fieldsOf, h1]
  rw [equal_succ, run_equalIn_struct w 9999 T xs ys (by rw [h5]; exact h1) h2, h5]
  exact run_eqFields w 9998 xs ys _ 0 h4 (by simpa using hx) (by simpa using hy) (by simpa using hl)
theorem guard_agg {T : TypeId} {ts : List TypeId} [h : TyFlat P T ts] (b : BinOp) (x y : Operand) (xs ys : Array Value) (hb : b = .eql ∨ b = .neq) : (eqGuard b T x y (.agg xs) (.agg ys)).run P w = .ok () w := by
  obtain ⟨fs, h1, h2, h3, h4⟩ := h.out
  rcases hb with rfl | rfl <;> simp [eqGuard, h3]
theorem W_aeql {T : TypeId} {ts : List TypeId} [TyFlat P T ts] {xs ys : Array Value} {b : Bool} (hx : ev f x = .agg xs) (hy : ev f y = .agg ys) (h1 : fitsCells P ts xs.toList) (h2 : fitsCells P ts ys.toList) (hl : xs.size = ts.length)
    (hb : eqCells xs.toList ys.toList = b) (hk : K (.bool b) w) : OpW P r ⟨d, .binOp .eql T x y T', ty, pos, af, g⟩ f w K :=
  W_bin hx hy (guard_agg (ts := ts) _ _ _ _ _ (.inl rfl)) (binOp_eql (by simp) (by simp) (by simp) (by simp) (run_eqAgg (ts := ts) xs ys h1 h2 hl)).1 (by rw [hb]; exact hk)
theorem W_aneq {T : TypeId} {ts : List TypeId} [TyFlat P T ts] {xs ys : Array Value} {b : Bool} (hx : ev f x = .agg xs) (hy : ev f y = .agg ys) (h1 : fitsCells P ts xs.toList) (h2 : fitsCells P ts ys.toList) (hl : xs.size = ts.length)
    (hb : eqCells xs.toList ys.toList = b) (hk : K (.bool (!b)) w) : OpW P r ⟨d, .binOp .neq T x y T', ty, pos, af, g⟩ f w K :=
  W_bin hx hy (guard_agg (ts := ts) _ _ _ _ _ (.inr rfl)) (binOp_eql (by simp) (by simp) (by simp) (by simp) (run_eqAgg (ts := ts) xs ys h1 h2 hl)).2 (by rw [hb]; exact hk)
theorem fits_str {t : TypeId} [h : TyStr P t] {s : ByteArray} : fitsCell P t (.string s) := .inr (.inr ⟨s, h.out, rfl⟩)
theorem fits_int {t : TypeId} {k : IntKind} [h : TyInt P t k] {n : Int} : fitsCell P t (.int k n) := .inl ⟨k, n, h.out, rfl⟩
theorem fits_bool {t : TypeId} [h : TyBool P t] {b : Bool} : fitsCell P t (.bool b) := .inr (.inl ⟨b, h.out, rfl⟩)
theorem W_min2 {T1 T2 : TypeId} {k : IntKind} {m n q : Int} (hx : ev f x = .int k m) (hy : ev f y = .int k n) (hq : min m n = q) (hk : K (.int k q) w) : OpW P r ⟨d, .call { callee := .builtin .min, args := #[x, y], argTypes := #[T1, T2] }, ty, pos, af, g⟩ f w K :=
  OpW_val (by simp) (by
    have : (if n < m then n else m) = q := by rw [← hq]; split <;> omega
    simp [execOp, resolve, invoke, builtin, Builtin.min_, Builtin.min2, hx, hy, this]) hk
theorem W_max2 {T1 T2 : TypeId} {k : IntKind} {m n q : Int} (hx : ev f x = .int k m) (hy : ev f y = .int k n) (hq : max m n = q) (hk : K (.int k q) w) : OpW P r ⟨d, .call { callee := .builtin .max, args := #[x, y], argTypes := #[T1, T2] }, ty, pos, af, g⟩ f w K :=
  OpW_val (by simp) (by
    have : (if n > m then n else m) = q := by rw [← hq]; split <;> omega
    simp [execOp, resolve, invoke, builtin, Builtin.max_, Builtin.max2, hx, hy, this]) hk
end
end Go.Proofs.Ytnjeoobcejlojaa
