/- Makings of a node as the laws of layer 09 are handed them: how they lie in memory. Conditions: each law's own premises. -/
import Derived.Test.YtlkbdgfipdeloaaOpenEnt
import Derived.Test.YtlkbdgfipdeloaaMemBase
import Derived.Test.YtlkbdgfipdeloaaPure2
namespace Go.Proofs.Ytlkbdgfipdeloaa
open Go.Proofs Go.RowKit
set_option linter.unusedVariables false
/-- A making: its kind, its entries' slice (where, room), its entries. -/
structure Op09 where
  kind : Int
  A : Option Addr
  cap : Nat
  l : List Ent
  deriving Inhabited
def op09Cell (o : Op09) : List Value := [.int .i64 o.kind, .slice o.A o.l.length o.cap]
def ops09 (l : List Op09) : List Value := (l.map op09Cell).flatten
theorem ops09_get {l : List Op09} : ∀ {q j : Nat}, q < l.length → j < 2 → (ops09 l)[q * 2 + j]? = (op09Cell (nth l q))[j]? := by
  induction l with
  | nil => intro q j h; simp at h
  | cons o l ih =>
    intro q j hq hj
    simp only [ops09, List.map_cons, List.flatten_cons]
    cases q with
    | zero =>
      rw [Nat.zero_mul, Nat.zero_add, List.getElem?_append_left (by simp [op09Cell]; omega)]
      simp [nth]
    | succ q =>
      rw [List.getElem?_append_right (by simp [op09Cell]; omega)]
      have := ih (q := q) (j := j) (by simpa using hq) hj
      rw [show (q + 1) * 2 + j - (op09Cell o).length = q * 2 + j by simp [op09Cell]; omega]
      simpa [nth, ops09] using this
section
variable {P : Program} {r : Option Nat} {f : Fr} {H : HF} {w : World} {K : Value → World → Prop} {d : Option Nat} {ty : TypeId} {pos : String} {af : Array Edge} {g : Option (Nat × Bool)} {T : TypeId} {x : Operand} {b o q : Nat} {l : List Op09}
theorem W_loadPa [TyOne P T] (hx : ev f x = .pointer (some ⟨b, o + q * 2 + 0, none⟩)) (hb : Row H b o (ops09 l)) (hq : q < l.length) (hS : Sub H w) (hk : K (.int .i64 (nth l q).kind) w) : OpW P r ⟨d, .load T x, ty, pos, af, g⟩ f w K :=
  W_loadRow (j := q * 2 + 0) hx hb (ops09_get hq (by omega)) hS hk
theorem W_loadPb [TyOne P T] (hx : ev f x = .pointer (some ⟨b, o + q * 2 + 1, none⟩)) (hb : Row H b o (ops09 l)) (hq : q < l.length) (hS : Sub H w) (hk : K (.slice (nth l q).A (nth l q).l.length (nth l q).cap) w) : OpW P r ⟨d, .load T x, ty, pos, af, g⟩ f w K :=
  W_loadRow (j := q * 2 + 1) hx hb (ops09_get hq (by omega)) hS hk
end
/-- Makings in the heap, their entries with them. -/
structure Ops09At (H : HF) (A : Option Addr) (l : List Op09) : Prop where
  row : SlAt H A (ops09 l)
  ents : ∀ o ∈ l, EntsAt H o.A o.l
theorem Ops09At.mono {H H' : HF} {A : Option Addr} {l : List Op09} (h : Ops09At H A l) (hle : HLe H H') : Ops09At H' A l := ⟨h.row.mono hle, fun o ho => (h.ents o ho).mono hle⟩
end Go.Proofs.Ytlkbdgfipdeloaa
