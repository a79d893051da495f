/- Pointers to nodes are compared. Conditions: none. -/
import Derived.Test.YtnjeoobcejlojaaNode5
import Derived.LaidEqlPtr
namespace Go.Proofs.Ytnjeoobcejlojaa
open Go.Proofs Go.RowKit
set_option linter.unusedVariables false
theorem Tr.val_eq {s t : Tr} : s.val = t.val ↔ (s = none ∧ t = none) ∨ ∃ x y, s = some x ∧ t = some y ∧ x.2.blk = y.2.blk := by
  cases s <;> cases t <;> simp [Tr.val, Nd.ptr]
def sameT : Tr → Tr → Bool
  | none, none => true
  | some x, some y => decide (x.2.blk = y.2.blk)
  | _, _ => false
section
variable {P : Program} {r : Option Nat} {f : Fr} {H : HF} {w : World} {K : Value → World → Prop} {d : Option Nat} {ty : TypeId} {pos : String} {af : Array Edge} {g : Option (Nat × Bool)} {T T' E : TypeId} {x y : Operand}
theorem node_cell {H : HF} {h : Nat} {x : Nd h} (hx : NodeAt H h x) (hS : Sub H w) : ∃ c T, w.heap[x.blk]? = some (.cells c T (0, 0)) := by
  obtain ⟨A, c, B, d, ⟨E, hb⟩, _⟩ := hx.raw
  exact ⟨_, _, hS.out _ _ hb⟩
theorem run_trEq [TyPtr P T E] {sz bs : Nat} [he : TyElem P E (sz + 1) bs] {s t : Tr} (hs : Tr.At H s) (ht : Tr.At H t) (hS : Sub H w) (n : Nat) : (Op.equalIn (n + 1) T s.val t.val).run P w = .ok (sameT s t) w := by
  obtain ⟨i, z, h1, h2, h3, h4, h5⟩ := he.out
  cases s with
  | none => cases t <;> simp [Tr.val, Nd.ptr, sameT, Op.equalIn, run_underlying (TyPtr.out (P := P) (T := T))]
  | some a =>
    cases t with
    | none => simp [Tr.val, Nd.ptr, sameT, Op.equalIn, run_underlying (TyPtr.out (P := P) (T := T))]
    | some b =>
      by_cases e : a.2.blk = b.2.blk
      · simp [Tr.val, Nd.ptr, sameT, Op.equalIn, run_underlying (TyPtr.out (P := P) (T := T)), sizeOf, typeInfo, h1, h4, e, run_sameAddr_same]
      · obtain ⟨c1, T1, e1⟩ := node_cell hs hS
        obtain ⟨c2, T2, e2⟩ := node_cell ht hS
        have hne : (⟨a.2.blk, 0, none⟩ : Addr) ≠ ⟨b.2.blk, 0, none⟩ := fun h => e (congrArg Addr.block h)
        simp [Tr.val, Nd.ptr, sameT, Op.equalIn, run_underlying (TyPtr.out (P := P) (T := T)), sizeOf, typeInfo, h1, h4, e, run_sameAddr_other (P := P) w hne e1 e2]
theorem W_trEql [TyPtr P T E] {sz bs : Nat} [TyElem P E (sz + 1) bs] {s t : Tr} (hx : ev f x = s.val) (hy : ev f y = t.val) (hs : Tr.At H s) (ht : Tr.At H t) (hS : Sub H w) (hk : K (.bool (sameT s t)) w) : OpW P r ⟨d, .binOp .eql T x y T', ty, pos, af, g⟩ f w K :=
  W_bin hx hy (by cases s <;> cases t <;> rfl) (binOp_eql (by cases s <;> simp [Tr.val, Nd.ptr]) (by cases s <;> simp [Tr.val, Nd.ptr]) (by cases s <;> simp [Tr.val, Nd.ptr]) (by cases s <;> simp [Tr.val, Nd.ptr]) (run_trEq hs ht hS _)).1 hk
theorem W_trNeq [TyPtr P T E] {sz bs : Nat} [TyElem P E (sz + 1) bs] {s t : Tr} (hx : ev f x = s.val) (hy : ev f y = t.val) (hs : Tr.At H s) (ht : Tr.At H t) (hS : Sub H w) (hk : K (.bool (!sameT s t)) w) : OpW P r ⟨d, .binOp .neq T x y T', ty, pos, af, g⟩ f w K :=
  W_bin hx hy (by cases s <;> cases t <;> rfl) (binOp_eql (by cases s <;> simp [Tr.val, Nd.ptr]) (by cases s <;> simp [Tr.val, Nd.ptr]) (by cases s <;> simp [Tr.val, Nd.ptr]) (by cases s <;> simp [Tr.val, Nd.ptr]) (run_trEq hs ht hS _)).2 hk
theorem eqIn_same [TyPtr P T E] {sz bs : Nat} [he : TyElem P E (sz + 1) bs] (a : Option Addr) (n : Nat) : (Op.equalIn (n + 1) T (.pointer a) (.pointer a)).run P w = .ok true w := by
  obtain ⟨i, z, h1, h2, h3, h4, h5⟩ := he.out
  cases a <;> simp [Op.equalIn, run_underlying (TyPtr.out (P := P) (T := T)), sizeOf, typeInfo, h1, h4, run_sameAddr_same]
theorem W_peqT [TyPtr P T E] {sz bs : Nat} [he : TyElem P E (sz + 1) bs] {a b : Option Addr} (hx : ev f x = .pointer a) (hy : ev f y = .pointer b) (h : a = b) (hk : K (.bool true) w) : OpW P r ⟨d, .binOp .eql T x y T', ty, pos, af, g⟩ f w K := by
  subst h
  exact W_bin hx hy (by cases a <;> rfl) (binOp_eql (by simp) (by simp) (by simp) (by simp) (eqIn_same _ _)).1 hk
end
/-! ### Slice literals of structs -/
def partCells (sz : Nat) : List (Nat × Value) → Nat → Option (List Value)
  | [], _ => some []
  | (i, v) :: ps, k => if i = k ∧ v.cells.size = sz then (partCells sz ps (k + 1)).map (v.cells.toList ++ ·) else none
theorem fill_parts (sz : Nat) : ∀ (ps : List (Nat × Value)) (k : Nat) (zs : Array Value) (css : List Value), partCells sz ps k = some css → zs.size = k * sz + css.length →
    Instr.fill (fun i => some (i * sz, sz)) zs ps = some (zs.toList.take (k * sz) ++ css).toArray
  | [], k, zs, css, h, hz => by
    simp [partCells] at h
    subst h
    simp at hz
    simp only [Instr.fill, List.append_nil]
    rw [List.take_of_length_le (by simp [hz])]
  | (i, v) :: ps, k, zs, css, h, hz => by
    simp only [partCells] at h
    split at h
    · rename_i hc
      obtain ⟨rfl, hv⟩ := hc
      rw [Option.map_eq_some_iff] at h
      obtain ⟨css', h1, rfl⟩ := h
      simp only [List.length_append, Array.length_toList] at hz
      have hz' : zs.size = i * sz + (sz + css'.length) := by rw [hv] at hz; exact hz
      simp only [Instr.fill]
      rw [if_neg (by simp [hv]; omega)]
      have e : (v.cells.zipIdx.foldl (fun cs (c, j) => cs.setIfInBounds (i * sz + j) c) zs) = (splice zs.toList (i * sz) v.cells.toList).toArray := by
        rw [zip_foldl]
        conv => lhs; rw [← Array.toArray_toList (xs := zs)]
        exact splice_set _ _ _ (by simp; omega)
      rw [e, fill_parts sz ps (i + 1) _ css' h1 (by simp [splice, Nat.add_mul]; omega)]
      congr 2
      simp only [splice]
      rw [List.take_left' (by simp [hv, Nat.add_mul]; omega), List.append_assoc]
    · cases h
section
variable {P : Program} {r : Option Nat} {f : Fr} {H : HF} {w : World} {K : Value → World → Prop} {d : Option Nat} {ty : TypeId} {pos : String} {af : Array Edge} {g : Option (Nat × Bool)} {T E : TypeId}
theorem W_buildParts [TySlice P T E] {sz : Nat} [TySize P E sz] {z : Value} [TyZero P E z] {len : Nat} {parts : Array (Nat × Operand)} {cs : List Value} (hS : Sub H w) (hlen : len * sz ≤ 16777216) (hp : partCells sz (parts.toList.map fun p => (p.1, ev f p.2)) 0 = some cs) (hl : cs.length = len * sz)
    (hk : ∀ H' w' b, Grow H w H' w' → H' b = some (.cells cs.toArray E (0, 0)) → w.heap.size = b → K (.slice (some ⟨b, 0, none⟩) len len) w') : OpW P r ⟨d, .buildSlice T len parts, ty, pos, af, g⟩ f w K :=
  W_buildSlice hS hlen (by
    have := fill_parts sz _ 0 ((Array.range (len * sz)).map (z.cells[· % z.cells.size]!)) cs hp (by simp [hl])
    simpa using this) (fun H' w' b h1 h2 h3 _ => hk H' w' b h1 h2 h3)
end
theorem sameT_refl (t : Tr) : sameT t t = true := by cases t <;> simp [sameT]
theorem sameT_fresh {H : HF} {t : Tr} (ht : Tr.At H t) {h : Nat} {x : Nd h} (hf : H x.blk = none) : sameT (trOf x) t = false := by
  cases t with
  | none => rfl
  | some y =>
    obtain ⟨A, c, B, d, ⟨E, hb⟩, _⟩ := NodeAt.raw ht
    simp only [sameT, trOf, decide_eq_false_iff_not]
    intro e
    rw [e, hb] at hf; cases hf
end Go.Proofs.Ytnjeoobcejlojaa
