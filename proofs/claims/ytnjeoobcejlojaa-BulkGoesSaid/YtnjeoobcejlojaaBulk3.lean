/- bulk.deal; what is dealt; loops that gather values that are known at run time. Conditions: sizes. -/
import Derived.Test.YtnjeoobcejlojaaBulk2
namespace Go.Proofs.Ytnjeoobcejlojaa
open Go.Proofs Go.RowKit
set_option linter.unusedVariables false
attribute [local irreducible] CW CWD SeqW OpW CallV
set_option maxHeartbeats 4000000
theorem dealE_c {H : HF} {w : World} {A : Option Addr} {n c most : Nat} (hS : Sub H w) :
    CallW Try.prog 82 [.slice A n c, .int .i64 (most : Int)].toArray w fun v w' => ∃ H', Grow H w H' w' ∧ ∃ b1 b2 T, v = .func (.func 102) #[] [.pointer (some ⟨b1, 0, none⟩), .pointer (some ⟨b2, 0, none⟩)].toArray ∧
      w.heap.size ≤ b1 ∧ Mut H' w' b1 [.slice A n c] ∧ H' b2 = some (.cells #[.int .i64 (most : Int)] T (0, 0)) := by
  refine CallW_of_CW Try.func82 rfl Try.ntmps82 Try.results82 rfl ?_
  skip
  have hG := Grow.refl hS
  obtain ⟨w0, rfl⟩ : ∃ w0, w0 = w := ⟨_, rfl⟩
  (refine CW_seq ?_; refine CW_region rfl ?_)
  refine S_op (W_boxM hS (by rfl) (by rfl) ?_)
  intro w1 b1 hG' hb1 hm
  have hb1 := Nat.le_of_eq hb1
  replace hG := hG.trans hG'
  have hS := hG'.sub
  clear hG'
  skip
  (refine S_op (W_box1 hS (by rfl) (by first | rfl | assumption) ?_)); intro H w _ hG' h3; replace hG := hG.trans hG'; replace hS := hG'.sub; replace hm := hm.grow hG'; clear hG'
  (refine S_op ?_; refine W_assign rfl ?_; refine S_nil ?_; refine CW_seq ?_; refine CW_region rfl ?_)
  refine S_op (W_makeFunc rfl rfl ?_)
  (refine S_op ?_; refine W_assignFun (by first | rfl | assumption) ?_; refine S_nil ?_; refine CW_ret ?_)
  exact ⟨_, ResW_one (v := .func _ _ _) rfl, H, hG, b1, _, _, rfl, hb1, hm, h3⟩
theorem dealN_c {H : HF} {w : World} {A : Option Addr} {n c most : Nat} (hS : Sub H w) :
    CallW Try.prog 84 [.slice A n c, .int .i64 (most : Int)].toArray w fun v w' => ∃ H', Grow H w H' w' ∧ ∃ b1 b2 T, v = .func (.func 106) #[] [.pointer (some ⟨b1, 0, none⟩), .pointer (some ⟨b2, 0, none⟩)].toArray ∧
      w.heap.size ≤ b1 ∧ Mut H' w' b1 [.slice A n c] ∧ H' b2 = some (.cells #[.int .i64 (most : Int)] T (0, 0)) := by
  refine CallW_of_CW Try.func84 rfl Try.ntmps84 Try.results84 rfl ?_
  skip
  have hG := Grow.refl hS
  obtain ⟨w0, rfl⟩ : ∃ w0, w0 = w := ⟨_, rfl⟩
  (refine CW_seq ?_; refine CW_region rfl ?_)
  refine S_op (W_boxM hS (by rfl) (by rfl) ?_)
  intro w1 b1 hG' hb1 hm
  have hb1 := Nat.le_of_eq hb1
  replace hG := hG.trans hG'
  have hS := hG'.sub
  clear hG'
  skip
  (refine S_op (W_box1 hS (by rfl) (by first | rfl | assumption) ?_)); intro H w _ hG' h3; replace hG := hG.trans hG'; replace hS := hG'.sub; replace hm := hm.grow hG'; clear hG'
  (refine S_op ?_; refine W_assign rfl ?_; refine S_nil ?_; refine CW_seq ?_; refine CW_region rfl ?_)
  refine S_op (W_makeFunc rfl rfl ?_)
  (refine S_op ?_; refine W_assignFun (by first | rfl | assumption) ?_; refine S_nil ?_; refine CW_ret ?_)
  exact ⟨_, ResW_one (v := .func _ _ _) rfl, H, hG, b1, _, _, rfl, hb1, hm, h3⟩
/-! ### What is dealt -/
/-- The lists. -/
def partsL {α : Type} : List α → Nat → List (List α)
  | _, 0 => []
  | l, k + 1 => l.take ((l.length + k) / (k + 1)) :: partsL (l.drop ((l.length + k) / (k + 1))) k
theorem partsL_sizes {α : Type} : ∀ (k : Nat) (l : List α), (partsL l k).map List.length = dealP l.length k
  | 0, l => rfl
  | k + 1, l => by
    have := part_le l.length k
    unfold partsL dealP
    rw [List.map_cons, partsL_sizes k, List.length_drop, List.length_take, Nat.min_eq_left this]
theorem partsL_flat {α : Type} : ∀ (k : Nat) (l : List α), (k = 0 → l = []) → (partsL l k).flatten = l
  | 0, l, h => by rw [h rfl]; rfl
  | k + 1, l, _ => by
    unfold partsL
    rw [List.flatten_cons, partsL_flat k _ (fun h => by subst h; simp), List.take_append_drop]
theorem dealV_len : ∀ (sz k : Nat) (A : Option Addr) (n c : Nat), (dealV sz A n c k).length = k
  | _, 0, _, _, _ => rfl
  | sz, k + 1, A, n, c => by unfold dealV; rw [List.length_cons, dealV_len]
theorem partsL_len {α : Type} : ∀ (k : Nat) (l : List α), (partsL l k).length = k
  | 0, _ => rfl
  | k + 1, l => by unfold partsL; rw [List.length_cons, partsL_len]
/-- The i-th slice holds the i-th part of entries. -/
theorem dealE_at {H : HF} : ∀ (k : Nat) (A : Option Addr) (c : Nat) (l : List Ent), EntsAt H A l → l.length ≤ c → ∀ i, i < k → IsEnts ((dealV 2 A l.length c k).getD i undef) ((partsL l k).getD i []) H
  | 0, _, _, _, _, _, i, h => by omega
  | k + 1, A, c, l, hl, hc, i, h => by
    have hp := part_le l.length k
    unfold dealV partsL
    cases i with
    | zero =>
      simp only [List.getD_cons_zero]
      exact ⟨A, c, by rw [List.length_take, Nat.min_eq_left hp], by rw [List.length_take]; omega, by unfold EntsAt; rw [← entCells_take]; exact SlAt.take hl _⟩
    | succ i =>
      simp only [List.getD_cons_succ]
      obtain ⟨A', c', e, h3, h4, _⟩ := hl.slDrop hp hc
      simp only [Value.slice.injEq] at e
      obtain ⟨rfl, _, rfl⟩ := e
      have := dealE_at k (slAddr A c ((l.length + k) / (k + 1)) 2) (c - (l.length + k) / (k + 1)) (l.drop ((l.length + k) / (k + 1))) h4 (by rw [List.length_drop]; omega) i (by omega)
      rw [List.length_drop] at this
      exact this
/-! ### Gathering -/
section
variable {α : Type}
/-- Hold, with a slice of the call's own that holds what φ says. -/
def HoldV (H0 : HF) (w0 : World) (bs : List Nat) (E : TypeId) (sz : Nat) (φ : Option Addr → Nat → Nat → List Value → List α → HF → World → Prop) : Inv α :=
  fun X pre H w => Grow H0 w0 H w ∧ (∀ k, X k → w0.heap.size ≤ k ∧ k < w.heap.size) ∧ (∀ b ∈ bs, ¬ X b ∧ b < w.heap.size) ∧
    ∃ A n c cs, Own H w w0.heap.size E sz A n c cs ∧ (∀ a, A = some a → ¬ X a.block) ∧ φ A n c cs pre H w
theorem HoldV.good {H0 : HF} {w0 : World} {bs : List Nat} {E : TypeId} {sz : Nat} {φ : Option Addr → Nat → Nat → List Value → List α → HF → World → Prop} (hφ : ∀ A n c cs, Abides bs (φ A n c cs)) : Good (HoldV H0 w0 bs E sz φ) := by
  refine ⟨?_, ?_, fun X pre H w h k hk => (h.2.1 k hk).2⟩
  · rintro X pre H w H' w' ⟨hG, hX, hb, A, n, c, cs, ho, hA, h⟩ hT
    refine ⟨Turn.grow hG hT fun k hk => (hX k hk).1, fun k hk => ?_, fun b h' => ⟨?_, Nat.lt_of_lt_of_le (hb b h').2 hT.size⟩, A, n, c, cs, ho.turn hT hA, fun a ha => ?_, hφ A n c cs X pre H w H' w' (fun b h' => (hb b h').1) hT h⟩
    · rcases hk with h1 | h1
      · exact ⟨(hX k h1).1, Nat.lt_of_lt_of_le (hX k h1).2 hT.size⟩
      · exact ⟨Nat.le_trans hG.below.size h1.1, h1.2⟩
    · rintro (h1 | h1)
      · exact (hb b h').1 h1
      · have := (hb b h').2; omega
    · rintro (h1 | h1)
      · exact hA a ha h1
      · have := (ho.block ha).2; omega
  · rintro X X' pre H w hX ⟨h1, h2, h3, A, n, c, cs, h4, h5, h6⟩
    exact ⟨h1, fun k hk => h2 k (hX k hk), fun b h' => ⟨fun h => (h3 b h').1 (hX b h), (h3 b h').2⟩, A, n, c, cs, h4, fun a ha h => h5 a ha (hX _ h), h6⟩
end
end Go.Proofs.Ytnjeoobcejlojaa
