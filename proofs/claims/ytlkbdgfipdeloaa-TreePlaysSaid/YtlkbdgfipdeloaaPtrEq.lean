/- Pointers to nodes are compared. Conditions: none. -/
import Derived.Test.YtlkbdgfipdeloaaTree7
import Derived.LaidEqlPtr
namespace Go.Proofs.Ytlkbdgfipdeloaa
open Go.Proofs Go.RowKit
set_option linter.unusedVariables false
theorem Tr.val_eq {s t : Tr} : s.val = t.val ↔ (s = none ∧ t = none) ∨ ∃ x y, s = some x ∧ t = some y ∧ x.2.blk = y.2.blk := by
  cases s <;> cases t <;> simp [Tr.val, Nd.ptr]
def sameT : Tr → Tr → Bool
  | none, none => true
  | some x, some y => decide (x.2.blk = y.2.blk)
  | _, _ => false
section
variable {P : Program} {r : Option Nat} {f : Fr} {H : HF} {w : World} {K : Value → World → Prop} {d : Option Nat} {ty : TypeId} {pos : String} {af : Array Edge} {g : Option (Nat × Bool)} {T T' E : TypeId} {x y : Operand}
/-- A struct within a struct of the persistent heap. -/
theorem W_loadSub {s : Nat} [TyAgg P T] [TySize P T s] {b o : Nat} {c : Array Value} {E : TypeId} {fr : Nat × Nat} {cs : List Value} (hx : ev f x = .pointer (some ⟨b, o, none⟩)) (hb : H b = some (.cells c E fr)) (hc : ((c.toList.drop o).take s) = cs) (hl : cs.length = s) (hS : Sub H w) (hk : K (.agg cs.toArray) w) :
    OpW P r ⟨d, .load T x, ty, pos, af, g⟩ f w K := W_loadAggH hx hb hl hc hS hk
theorem node_cell {H : HF} {h : Nat} {x : Nd h} (hx : NodeAt H h x) (hS : Sub H w) : ∃ c T, w.heap[x.blk]? = some (.cells c T (0, 0)) := by
  obtain ⟨A, c, B, d, ⟨E, hb⟩, _⟩ := hx.raw
  exact ⟨_, _, hS.out _ _ hb⟩
theorem run_trEq [TyPtr P T E] {sz bs : Nat} [he : TyElem P E (sz + 1) bs] {s t : Tr} (hs : Tr.At H s) (ht : Tr.At H t) (hS : Sub H w) (n : Nat) : (Op.equalIn (n + 1) T s.val t.val).run P w = .ok (sameT s t) w := by
  obtain ⟨i, z, h1, h2, h3, h4, h5⟩ := he.out
  cases s with
  | none => cases t <;> simp [Tr.val, Nd.ptr, sameT, Op.equalIn, run_underlying (TyPtr.out (P := P) (T := T))]
  | some a =>
    cases t with
    | none => simp [Tr.val, Nd.ptr, sameT, Op.equalIn, run_underlying (TyPtr.out (P := P) (T := T))]
    | some b =>
      by_cases e : a.2.blk = b.2.blk
      · simp [Tr.val, Nd.ptr, sameT, Op.equalIn, run_underlying (TyPtr.out (P := P) (T := T)), sizeOf, typeInfo, h1, h4, e, run_sameAddr_same]
      · obtain ⟨c1, T1, e1⟩ := node_cell hs hS
        obtain ⟨c2, T2, e2⟩ := node_cell ht hS
        have hne : (⟨a.2.blk, 0, none⟩ : Addr) ≠ ⟨b.2.blk, 0, none⟩ := fun h => e (congrArg Addr.block h)
        simp [Tr.val, Nd.ptr, sameT, Op.equalIn, run_underlying (TyPtr.out (P := P) (T := T)), sizeOf, typeInfo, h1, h4, e, run_sameAddr_other (P := P) w hne e1 e2]
theorem W_trEql [TyPtr P T E] {sz bs : Nat} [TyElem P E (sz + 1) bs] {s t : Tr} (hx : ev f x = s.val) (hy : ev f y = t.val) (hs : Tr.At H s) (ht : Tr.At H t) (hS : Sub H w) (hk : K (.bool (sameT s t)) w) : OpW P r ⟨d, .binOp .eql T x y T', ty, pos, af, g⟩ f w K :=
  W_bin hx hy (by cases s <;> cases t <;> rfl) (binOp_eql (by cases s <;> simp [Tr.val, Nd.ptr]) (by cases s <;> simp [Tr.val, Nd.ptr]) (by cases s <;> simp [Tr.val, Nd.ptr]) (by cases s <;> simp [Tr.val, Nd.ptr]) (run_trEq hs ht hS _)).1 hk
theorem W_trNeq [TyPtr P T E] {sz bs : Nat} [TyElem P E (sz + 1) bs] {s t : Tr} (hx : ev f x = s.val) (hy : ev f y = t.val) (hs : Tr.At H s) (ht : Tr.At H t) (hS : Sub H w) (hk : K (.bool (!sameT s t)) w) : OpW P r ⟨d, .binOp .neq T x y T', ty, pos, af, g⟩ f w K :=
  W_bin hx hy (by cases s <;> cases t <;> rfl) (binOp_eql (by cases s <;> simp [Tr.val, Nd.ptr]) (by cases s <;> simp [Tr.val, Nd.ptr]) (by cases s <;> simp [Tr.val, Nd.ptr]) (by cases s <;> simp [Tr.val, Nd.ptr]) (run_trEq hs ht hS _)).2 hk
theorem eqIn_same [TyPtr P T E] {sz bs : Nat} [he : TyElem P E (sz + 1) bs] (a : Option Addr) (n : Nat) : (Op.equalIn (n + 1) T (.pointer a) (.pointer a)).run P w = .ok true w := by
  obtain ⟨i, z, h1, h2, h3, h4, h5⟩ := he.out
  cases a <;> simp [Op.equalIn, run_underlying (TyPtr.out (P := P) (T := T)), sizeOf, typeInfo, h1, h4, run_sameAddr_same]
theorem W_peqT [TyPtr P T E] {sz bs : Nat} [he : TyElem P E (sz + 1) bs] {a b : Option Addr} (hx : ev f x = .pointer a) (hy : ev f y = .pointer b) (h : a = b) (hk : K (.bool true) w) : OpW P r ⟨d, .binOp .eql T x y T', ty, pos, af, g⟩ f w K := by
  subst h
  exact W_bin hx hy (by cases a <;> rfl) (binOp_eql (by simp) (by simp) (by simp) (by simp) (eqIn_same _ _)).1 hk
end
theorem sameT_refl (t : Tr) : sameT t t = true := by cases t <;> simp [sameT]
theorem sameT_fresh {H : HF} {t : Tr} (ht : Tr.At H t) {h : Nat} {x : Nd h} (hf : H x.blk = none) : sameT (trOf x) t = false := by
  cases t with
  | none => rfl
  | some y =>
    obtain ⟨A, c, B, d, ⟨E, hb⟩, _⟩ := NodeAt.raw ht
    simp only [sameT, trOf, decide_eq_false_iff_not]
    intro e
    rw [e, hb] at hf; cases hf
end Go.Proofs.Ytlkbdgfipdeloaa
