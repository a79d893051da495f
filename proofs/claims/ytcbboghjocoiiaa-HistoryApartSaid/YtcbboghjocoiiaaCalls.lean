/- Lists of calls in memory; a number doubled. Conditions: none. -/
import Derived.Test.YtcbboghjocoiiaaHist1
namespace Go.Proofs.Ytcbboghjocoiiaa
open Go.Proofs Go.RowKit
set_option linter.unusedVariables false
def cls : List Call → List Value
  | [] => []
  | x :: l => callCells x ++ cls l
def cal (l : List Call) (i : Nat) : Call := l.getD i default
theorem cal_get {l : List Call} {i : Nat} (h : i < l.length) : l[i]? = some (cal l i) := by simp [cal, h]
theorem cal_mem {l : List Call} {i : Nat} (h : i < l.length) : cal l i ∈ l := List.mem_of_getElem? (cal_get h)
theorem cls_len (l : List Call) : (cls l).length = l.length * 3 := by
  induction l with
  | nil => rfl
  | cons d l ih => simp [cls, callCells, ih]; omega
theorem cls_map (l : List Call) : cls l = (l.map callCells).flatten := by
  induction l with
  | nil => rfl
  | cons d l ih => simp [cls, ih]
theorem cls_at : ∀ {l : List Call} {i j : Nat}, i < l.length → j < 3 → (cls l)[i * 3 + j]? = (callCells (cal l i))[j]?
  | [], i, j, h, _ => by simp at h
  | d :: l, 0, j, _, hj => by
    simp only [cls, Nat.zero_mul, Nat.zero_add]
    rw [List.getElem?_append_left (by simp [callCells]; exact hj)]
    rfl
  | d :: l, i + 1, j, h, hj => by
    have ih := cls_at (l := l) (i := i) (j := j) (by simpa using h) hj
    simp only [cls]
    rw [List.getElem?_append_right (by simp [callCells]; omega), show (i + 1) * 3 + j - (callCells d).length = i * 3 + j by simp [callCells]; omega, ih]
    simp [cal]
def CallsAt (H : HF) (A : Option Addr) (l : List Call) : Prop := SlAt H A (cls l)
theorem CallsAt.mono {H H' : HF} {A : Option Addr} {l : List Call} (h : CallsAt H A l) (hle : HLe H H') : CallsAt H' A l := SlAt.mono h hle
theorem CallsAt.some {H : HF} {A : Option Addr} {l : List Call} (h : CallsAt H A l) {i : Nat} (hi : i < l.length) : ∃ b off, A = some ⟨b, off, none⟩ ∧ Row H b off (cls l) := by
  rcases h with h | h
  · have := cls_len l; rw [h] at this; simp only [List.length_nil] at this; omega
  · exact h
section
variable {P : Program} {r : Option Nat} {f : Fr} {H : HF} {w : World} {K : Value → World → Prop} {d : Option Nat} {ty : TypeId} {pos : String} {af : Array Edge} {g : Option (Nat × Bool)} {T T' : TypeId} {x y : Operand} {b o q : Nat} {l : List Call}
theorem W_loadOi [TyAgg P T] [TySize P T 3] (hx : ev f x = .pointer (some ⟨b, o + q * 3, none⟩)) (hb : Row H b o (cls l)) (hq : q < l.length) (hS : Sub H w) (hk : K (.agg (callCells (cal l q)).toArray) w) : OpW P r ⟨d, .load T x, ty, pos, af, g⟩ f w K :=
  row_agg hx hb rfl (fun j v hj => by
    have : j < 3 := (List.getElem?_eq_some_iff.1 hj).1
    rw [cls_at hq this]; exact hj) hS hk
theorem cal_cell {j : Nat} {v : Value} [TyOne P T] (hx : ev f x = .pointer (some ⟨b, o + q * 3 + j, none⟩)) (hb : Row H b o (cls l)) (hq : q < l.length) (hv : (callCells (cal l q))[j]? = some v) (hS : Sub H w) (hk : K v w) : OpW P r ⟨d, .load T x, ty, pos, af, g⟩ f w K := by
  have hj9 : j < 3 := (List.getElem?_eq_some_iff.1 hv).1
  exact W_loadRow (j := q * 3 + j) (by rw [hx, Nat.add_assoc]) hb (by rw [cls_at hq hj9]; exact hv) hS hk
theorem W_loadOj [TyOne P T] (hx : ev f x = .pointer (some ⟨b, o + q * 3 + 1, none⟩)) (hb : Row H b o (cls l)) (hq : q < l.length) (hS : Sub H w) (hk : K (.string (cal l q).key) w) : OpW P r ⟨d, .load T x, ty, pos, af, g⟩ f w K := cal_cell (j := 1) hx hb hq rfl hS hk
theorem W_loadOk [TyOne P T] (hx : ev f x = .pointer (some ⟨b, o + q * 3 + 2, none⟩)) (hb : Row H b o (cls l)) (hq : q < l.length) (hS : Sub H w) (hk : K (.string (cal l q).val) w) : OpW P r ⟨d, .load T x, ty, pos, af, g⟩ f w K := cal_cell (j := 2) hx hb hq rfl hS hk
theorem G_mul (h : OpW P r ⟨d, .binOp .mul T x y T', ty, pos, af, g⟩ f w K) : OpW P r ⟨d, .binOp .mul T x y T', ty, pos, af, g⟩ f w K := h
theorem W_mul2 {a : Nat} (hy : ev f y = .int .i64 (a : Int)) (hb : 2 * a < 9223372036854775808) (hk : K (.int .i64 ((2 * a : Nat) : Int)) w) : OpW P r ⟨d, .binOp .mul T (.const (.int .i64 2)) y T', ty, pos, af, g⟩ f w K :=
  W_mul (q := ((2 * a : Nat) : Int)) rfl hy (by rw [IntWalk.i64_in _ (by omega)]; omega) hk
end
end Go.Proofs.Ytcbboghjocoiiaa
