/- Calls, answers and histories in memory; what a call makes, walked, and the reference's. Conditions: sizes; keys rise. -/
import Derived.Test.YtglhnfficliaoaaDoes
import Derived.Test.YtglhnfficliaoaaSame
import Derived.Test.YtglhnfficliaoaaRef03
import Derived.Test.YtglhnfficliaoaaRes
import Derived.Test.YtglhnfficliaoaaTyb
namespace Go.Proofs.Ytglhnfficliaoaa
open Go.Proofs Go.RowKit
set_option linter.unusedVariables false
attribute [local irreducible] CW SeqW OpW
set_option maxHeartbeats 4000000
structure Don where
  x : Call
  r : Rep4
  from_ : Int
  to_ : Int
  deriving DecidableEq, Inhabited
def donCells (d : Don) : List Value := callCells d.x ++ repCells d.r ++ [.int .i64 d.from_, .int .i64 d.to_]
def dons : List Don → List Value
  | [] => []
  | d :: l => donCells d ++ dons l
def don (l : List Don) (i : Nat) : Don := l.getD i default
theorem don_get {l : List Don} {i : Nat} (h : i < l.length) : l[i]? = some (don l i) := by simp [don, h]
theorem don_mem {l : List Don} {i : Nat} (h : i < l.length) : don l i ∈ l := List.mem_of_getElem? (don_get h)
theorem donCells_len (d : Don) : (donCells d).length = 9 := rfl
theorem dons_len (l : List Don) : (dons l).length = l.length * 9 := by
  induction l with
  | nil => rfl
  | cons d l ih => simp [dons, donCells_len, ih]; omega
theorem dons_append (l m : List Don) : dons (l ++ m) = dons l ++ dons m := by
  induction l with
  | nil => rfl
  | cons d l ih => simp [dons, ih]
theorem dons_one (l : List Don) : OneCells (dons l) := by
  induction l with
  | nil => intro u h; cases h
  | cons d l ih =>
    intro u h
    rcases List.mem_append.1 h with h | h
    · exact OneCells.of_all (vs := donCells d) rfl u h
    · exact ih u h
theorem dons_at : ∀ {l : List Don} {i j : Nat}, i < l.length → j < 9 → (dons l)[i * 9 + j]? = (donCells (don l i))[j]?
  | [], i, j, h, _ => by simp at h
  | d :: l, 0, j, _, hj => by
    simp only [dons, Nat.zero_mul, Nat.zero_add]
    rw [List.getElem?_append_left (by simp [donCells_len]; exact hj)]
    rfl
  | d :: l, i + 1, j, h, hj => by
    have ih := dons_at (l := l) (i := i) (j := j) (by simpa using h) hj
    simp only [dons]
    rw [List.getElem?_append_right (by simp [donCells_len]; omega), donCells_len, show (i + 1) * 9 + j - 9 = i * 9 + j by omega, ih]
    simp [don]
theorem dons_take : ∀ (l : List Don) (k : Nat), (dons l).take (k * 9) = dons (l.take k)
  | [], k => by simp [dons]
  | d :: l, 0 => by simp [dons]
  | d :: l, k + 1 => by
    simp only [dons, List.take_succ_cons]
    rw [List.take_append, donCells_len, List.take_of_length_le (by simp [donCells_len]; omega), show (k + 1) * 9 - 9 = k * 9 by omega, dons_take l k]
theorem dons_drop : ∀ (l : List Don) (k : Nat), (dons l).drop (k * 9) = dons (l.drop k)
  | [], k => by simp [dons]
  | d :: l, 0 => by simp
  | d :: l, k + 1 => by
    simp only [dons, List.drop_succ_cons]
    rw [List.drop_append, donCells_len, List.drop_of_length_le (by simp [donCells_len]; omega), show (k + 1) * 9 - 9 = k * 9 by omega, dons_drop l k]
    simp
theorem dons_map (l : List Don) : dons l = (l.map donCells).flatten := by
  induction l with
  | nil => rfl
  | cons d l ih => simp [dons, ih]
def DonsAt (H : HF) (A : Option Addr) (l : List Don) : Prop := SlAt H A (dons l)
theorem DonsAt.mono {H H' : HF} {A : Option Addr} {l : List Don} (h : DonsAt H A l) (hle : HLe H H') : DonsAt H' A l := SlAt.mono h hle
theorem DonsAt.some {H : HF} {A : Option Addr} {l : List Don} (h : DonsAt H A l) {i : Nat} (hi : i < l.length) : ∃ b off, A = some ⟨b, off, none⟩ ∧ Row H b off (dons l) := by
  rcases h with h | h
  · have := dons_len l; rw [h] at this; simp only [List.length_nil] at this; omega
  · exact h
theorem DonsAt.slTake {H : HF} {A : Option Addr} {l : List Don} {c k : Nat} (h : DonsAt H A l) (hk : k ≤ l.length) (hc : l.length ≤ c) : IsSl 9 (.slice A k c) k (dons (l.take k)) H :=
  ⟨A, c, rfl, by omega, by rw [← dons_take]; exact SlAt.take h _, by rw [dons_len]; simp; omega⟩
theorem DonsAt.slDrop {H : HF} {A : Option Addr} {l : List Don} {c k : Nat} (h : DonsAt H A l) (hk : k ≤ l.length) (hc : l.length ≤ c) : IsSl 9 (.slice (slAddr A c k 9) (l.length - k) (c - k)) (l.length - k) (dons (l.drop k)) H :=
  ⟨_, _, rfl, by omega, by rw [← dons_drop]; exact SlAt.drop (n := l.length) h (dons_len l) hc, by rw [dons_len]; simp⟩
section
variable {P : Program} {r : Option Nat} {f : Fr} {H : HF} {w : World} {K : Value → World → Prop} {d : Option Nat} {ty : TypeId} {pos : String} {af : Array Edge} {g : Option (Nat × Bool)} {T T' : TypeId} {x y : Operand} {b o q : Nat} {l : List Don}
theorem row_agg {s k : Nat} {vs us : List Value} [TyAgg P T] [TySize P T s] (hx : ev f x = .pointer (some ⟨b, o + k, none⟩)) (hb : Row H b o vs) (hl : us.length = s) (hu : ∀ j v, us[j]? = some v → vs[k + j]? = some v) (hS : Sub H w) (hk : K (.agg us.toArray) w) : OpW P r ⟨d, .load T x, ty, pos, af, g⟩ f w K := by
  obtain ⟨c, E, fr, h1, h2⟩ := hb
  refine W_loadAgg hx hl ?_ hk
  intro j v hj
  rw [add_lit', Nat.add_assoc]
  exact hS.cell h1 (h2 _ _ (hu j v hj))
theorem W_loadOa [TyAgg P T] [TySize P T 9] (hx : ev f x = .pointer (some ⟨b, o + q * 9, none⟩)) (hb : Row H b o (dons l)) (hq : q < l.length) (hS : Sub H w) (hk : K (.agg (donCells (don l q)).toArray) w) : OpW P r ⟨d, .load T x, ty, pos, af, g⟩ f w K :=
  row_agg hx hb rfl (fun j v hj => by
    have : j < 9 := (List.getElem?_eq_some_iff.1 hj).1
    rw [dons_at hq this]; exact hj) hS hk
theorem W_loadOb [TyAgg P T] [TySize P T 3] (hx : ev f x = .pointer (some ⟨b, o + q * 9 + 0, none⟩)) (hb : Row H b o (dons l)) (hq : q < l.length) (hS : Sub H w) (hk : K (.agg (callCells (don l q).x).toArray) w) : OpW P r ⟨d, .load T x, ty, pos, af, g⟩ f w K :=
  row_agg (k := q * 9) hx hb rfl (fun j v hj => by
    have hj3 : j < 3 := (List.getElem?_eq_some_iff.1 hj).1
    rw [dons_at hq (by omega)]
    simp only [donCells]
    rw [List.append_assoc, List.getElem?_append_left hj3]; exact hj) hS hk
theorem W_loadOe [TyAgg P T] [TySize P T 4] (hx : ev f x = .pointer (some ⟨b, o + q * 9 + 3, none⟩)) (hb : Row H b o (dons l)) (hq : q < l.length) (hS : Sub H w) (hk : K (.agg (repCells (don l q).r).toArray) w) : OpW P r ⟨d, .load T x, ty, pos, af, g⟩ f w K :=
  row_agg (k := q * 9 + 3) (by rw [hx]; rfl) hb rfl (fun j v hj => by
    have hj3 : j < 4 := (List.getElem?_eq_some_iff.1 hj).1
    rw [Nat.add_assoc, dons_at hq (by omega)]
    simp only [donCells]
    rw [List.append_assoc, List.getElem?_append_right (by simp [callCells]), List.getElem?_append_left (by simp [callCells, repCells]; omega)]
    simp only [callCells, List.length_cons, List.length_nil]
    rw [show 3 + j - (0 + 1 + 1 + 1) = j by omega]; exact hj) hS hk
theorem don_cell {j : Nat} {v : Value} [TyOne P T] (hx : ev f x = .pointer (some ⟨b, o + q * 9 + j, none⟩)) (hb : Row H b o (dons l)) (hq : q < l.length) (hv : (donCells (don l q))[j]? = some v) (hS : Sub H w) (hk : K v w) : OpW P r ⟨d, .load T x, ty, pos, af, g⟩ f w K := by
  have hj9 : j < 9 := (List.getElem?_eq_some_iff.1 hv).1
  exact W_loadRow (j := q * 9 + j) (by rw [hx, Nat.add_assoc]) hb (by rw [dons_at hq hj9]; exact hv) hS hk
theorem W_loadOc [TyOne P T] (hx : ev f x = .pointer (some ⟨b, o + q * 9 + 0 + 1, none⟩)) (hb : Row H b o (dons l)) (hq : q < l.length) (hS : Sub H w) (hk : K (.string (don l q).x.key) w) : OpW P r ⟨d, .load T x, ty, pos, af, g⟩ f w K := don_cell (j := 1) hx hb hq rfl hS hk
theorem W_loadOd [TyOne P T] (hx : ev f x = .pointer (some ⟨b, o + q * 9 + 0 + 2, none⟩)) (hb : Row H b o (dons l)) (hq : q < l.length) (hS : Sub H w) (hk : K (.string (don l q).x.val) w) : OpW P r ⟨d, .load T x, ty, pos, af, g⟩ f w K := don_cell (j := 2) hx hb hq rfl hS hk
theorem W_loadOf [TyOne P T] (hx : ev f x = .pointer (some ⟨b, o + q * 9 + 3 + 1, none⟩)) (hb : Row H b o (dons l)) (hq : q < l.length) (hS : Sub H w) (hk : K (.string (don l q).r.val) w) : OpW P r ⟨d, .load T x, ty, pos, af, g⟩ f w K := don_cell (j := 4) hx hb hq rfl hS hk
theorem W_loadOg [TyOne P T] (hx : ev f x = .pointer (some ⟨b, o + q * 9 + 7, none⟩)) (hb : Row H b o (dons l)) (hq : q < l.length) (hS : Sub H w) (hk : K (.int .i64 (don l q).from_) w) : OpW P r ⟨d, .load T x, ty, pos, af, g⟩ f w K := don_cell (j := 7) hx hb hq rfl hS hk
theorem W_loadOh [TyOne P T] (hx : ev f x = .pointer (some ⟨b, o + q * 9 + 8, none⟩)) (hb : Row H b o (dons l)) (hq : q < l.length) (hS : Sub H w) (hk : K (.int .i64 (don l q).to_) w) : OpW P r ⟨d, .load T x, ty, pos, af, g⟩ f w K := don_cell (j := 8) hx hb hq rfl hS hk
variable {t1 t2 t3 t4 : TypeId} {a c : Rep4}
theorem W_repEql [TyFlat P T [t1, t2, t3, t4]] [TyInt P t1 .i64] [TyStr P t2] [TyBool P t3] [TyInt P t4 .i64] (hx : ev f x = .agg (repCells a).toArray) (hy : ev f y = .agg (repCells c).toArray) (hk : K (.bool (decide (a = c))) w) : OpW P r ⟨d, .binOp .eql T x y T', ty, pos, af, g⟩ f w K :=
  W_aeql (ts := [t1, t2, t3, t4]) (b := decide (a = c)) hx hy ⟨fits_int, fits_str, fits_bool, fits_int, trivial⟩ ⟨fits_int, fits_str, fits_bool, fits_int, trivial⟩ rfl (by simpa using repCells_eq a c) hk
theorem W_repEqlB [TyFlat P T [t1, t2, t3, t4]] [TyInt P t1 .i64] [TyStr P t2] [TyBool P t3] [TyInt P t4 .i64] {q : Bool} (hq : decide (a = c) = q) (hx : ev f x = .agg (repCells a).toArray) (hy : ev f y = .agg (repCells c).toArray) (hk : K (.bool q) w) : OpW P r ⟨d, .binOp .eql T x y T', ty, pos, af, g⟩ f w K := by
  subst hq; exact W_repEql hx hy hk
theorem W_repNeqB [TyFlat P T [t1, t2, t3, t4]] [TyInt P t1 .i64] [TyStr P t2] [TyBool P t3] [TyInt P t4 .i64] {q : Bool} (hq : decide (a ≠ c) = q) (hx : ev f x = .agg (repCells a).toArray) (hy : ev f y = .agg (repCells c).toArray) (hk : K (.bool q) w) : OpW P r ⟨d, .binOp .neq T x y T', ty, pos, af, g⟩ f w K := by
  subst hq
  exact W_aneq (ts := [t1, t2, t3, t4]) (b := decide (a = c)) hx hy ⟨fits_int, fits_str, fits_bool, fits_int, trivial⟩ ⟨fits_int, fits_str, fits_bool, fits_int, trivial⟩ rfl (by simpa using repCells_eq a c) (by rw [show (!decide (a = c)) = decide (a ≠ c) by simp]; exact hk)
theorem W_repNeq [TyFlat P T [t1, t2, t3, t4]] [TyInt P t1 .i64] [TyStr P t2] [TyBool P t3] [TyInt P t4 .i64] (hx : ev f x = .agg (repCells a).toArray) (hy : ev f y = .agg (repCells c).toArray) (hk : K (.bool (decide (a ≠ c))) w) : OpW P r ⟨d, .binOp .neq T x y T', ty, pos, af, g⟩ f w K :=
  W_aneq (ts := [t1, t2, t3, t4]) (b := decide (a = c)) hx hy ⟨fits_int, fits_str, fits_bool, fits_int, trivial⟩ ⟨fits_int, fits_str, fits_bool, fits_int, trivial⟩ rfl (by simpa using repCells_eq a c) (by rw [show (!decide (a = c)) = decide (a ≠ c) by simp]; exact hk)
end
/-- The zero call that came to its end. -/
def zeroDon : List Value := [.int .i64 0, .string ⟨#[]⟩, .string ⟨#[]⟩, .int .i64 0, .string ⟨#[]⟩, .bool false, .int .i64 0, .int .i64 0, .int .i64 0]
theorem fill_don2 (x : Call) (r : Rep4) : fillL [(0, 3), (3, 4), (7, 1), (8, 1)] zeroDon [(0, .agg (callCells x).toArray), (1, .agg (repCells r).toArray)] = some (donCells ⟨x, r, 0, 0⟩) := by
  simp [fillL, Value.cells, callCells, repCells, zeroDon, splice, donCells]
theorem fill_don4 (x : Call) (r : Rep4) (a b : Int) : fillL [(0, 3), (3, 4), (7, 1), (8, 1)] zeroDon [(0, .agg (callCells x).toArray), (1, .agg (repCells r).toArray), (2, .int .i64 a), (3, .int .i64 b)] = some (donCells ⟨x, r, a, b⟩) := by
  simp [fillL, Value.cells, callCells, repCells, zeroDon, splice, donCells]
end Go.Proofs.Ytglhnfficliaoaa
