/- Dealing: plain laws. Conditions: none. -/
import Derived.Test.YtnjeoobcejlojaaBulk1
namespace Go.Proofs.Ytnjeoobcejlojaa
open Go.Proofs Go.RowKit
set_option linter.unusedVariables false
/-- How many each of so many lists gets, one after the other. -/
def dealP : Nat → Nat → List Nat
  | _, 0 => []
  | n, k + 1 => (n + k) / (k + 1) :: dealP (n - (n + k) / (k + 1)) k
/-- The document's. -/
def dealR (n k : Nat) : List Nat := (List.range k).map fun i => n / k + (if i < n % k then 1 else 0)
theorem dealP_eq : ∀ (k q r : Nat), (r < k ∨ (k = 0 ∧ r = 0)) → dealP (q * k + r) k = (List.range k).map fun i => q + (if i < r then 1 else 0)
  | 0, q, r, _ => rfl
  | k + 1, q, r, h => by
    have hr : r < k + 1 := by omega
    have hm : q * (k + 1) = q * k + q := Nat.mul_succ q k
    unfold dealP
    rw [List.range_succ_eq_map, List.map_cons, List.map_map]
    by_cases h0 : r = 0
    · subst h0
      have e : (q * (k + 1) + 0 + k) / (k + 1) = q := by
        rw [Nat.add_zero, Nat.mul_comm, Nat.mul_add_div (by omega), Nat.div_eq_of_lt (by omega)]; rfl
      rw [e, show q * (k + 1) + 0 - q = q * k + 0 by omega, dealP_eq k q 0 (by omega)]
      simp
    · have e : (q * (k + 1) + r + k) / (k + 1) = q + 1 := by
        rw [show q * (k + 1) + r + k = (k + 1) * q + (k + 1 + (r - 1)) by rw [Nat.mul_comm]; omega, Nat.mul_add_div (by omega), Nat.add_div_left _ (by omega), Nat.div_eq_of_lt (by omega)]
      rw [e, show q * (k + 1) + r - (q + 1) = q * k + (r - 1) by omega, dealP_eq k q (r - 1) (by omega)]
      simp only [Nat.pos_of_ne_zero h0, if_true]
      congr 1
      apply List.map_congr_left
      intro i _
      simp only [Function.comp_apply]
      congr 1
      by_cases hi : i + 1 < r
      · rw [if_pos (by omega), if_pos hi]
      · rw [if_neg (by omega), if_neg hi]
theorem dealP_R (n k : Nat) : dealP n k = dealR n k := by
  cases k with
  | zero => rfl
  | succ k =>
    have h := dealP_eq (k + 1) (n / (k + 1)) (n % (k + 1)) (.inl (Nat.mod_lt _ (by omega)))
    rw [Nat.mul_comm, Nat.div_add_mod] at h
    exact h
theorem dealP_len : ∀ (n k : Nat), (dealP n k).length = k
  | _, 0 => rfl
  | n, k + 1 => by unfold dealP; rw [List.length_cons, dealP_len]
theorem dealP_sum : ∀ (k n : Nat), (k = 0 → n = 0) → (dealP n k).sum = n
  | 0, n, h => by rw [h rfl]; rfl
  | k + 1, n, _ => by
    unfold dealP
    have hle : (n + k) / (k + 1) ≤ n := by
      rcases Nat.eq_zero_or_pos n with h | h
      · subst h; rw [Nat.div_eq_of_lt (by omega)]; omega
      · rw [Nat.div_le_iff_le_mul_add_pred (by omega)]
        have : k * 1 ≤ k * n := Nat.mul_le_mul_left k h
        have e : (k + 1) * n = k * n + n := Nat.succ_mul k n
        rw [e]; omega
    rw [List.sum_cons, dealP_sum k _ (fun h => by subst h; simp)]
    omega
/-- How many lists it takes. -/
def lists (n most : Nat) : Nat := (n + most - 1) / most
theorem lists_le {n h : Nat} (hh : 0 < h) : 2 * (h * lists n (2 * h)) ≤ n + 2 * h - 1 ∧ n ≤ 2 * (h * lists n (2 * h)) := by
  have h1 := Nat.mul_div_le (n + 2 * h - 1) (2 * h)
  have h2 := Nat.lt_mul_div_succ (n + 2 * h - 1) (b := 2 * h) (by omega)
  rw [Nat.mul_add, Nat.mul_one] at h2
  rw [Nat.mul_assoc] at h1 h2
  exact ⟨h1, by unfold lists; omega⟩
theorem deal_size {n h x : Nat} (hh : 0 < h) (hx : x ∈ dealP n (lists n (2 * h))) : x ≤ 2 * h ∧ (1 < lists n (2 * h) → h ≤ x) ∧ 1 ≤ x := by
  rw [dealP_R] at hx
  obtain ⟨h1, h2⟩ := lists_le (n := n) hh
  obtain ⟨L, hL⟩ : ∃ L, lists n (2 * h) = L := ⟨_, rfl⟩
  rw [hL] at hx h1 h2 ⊢
  unfold dealR at hx
  obtain ⟨i, hi, rfl⟩ := List.mem_map.1 hx
  have hi := List.mem_range.1 hi
  have q1 := Nat.div_add_mod n L
  obtain ⟨q, hq⟩ : ∃ q, n / L = q := ⟨_, rfl⟩
  rw [hq] at q1 ⊢
  have hle : n / L ≤ 2 * h := by
    refine Nat.div_le_of_le_mul ?_
    rw [show L * (2 * h) = 2 * (h * L) by rw [Nat.mul_comm, Nat.mul_assoc]]
    exact h2
  have big : 1 < L → h ≤ q := fun h3 => by
    rw [← hq, Nat.le_div_iff_mul_le (by omega)]
    have : h * 2 ≤ h * L := Nat.mul_le_mul_left h h3
    omega
  refine ⟨?_, fun h3 => Nat.le_trans (big h3) (Nat.le_add_right _ _), ?_⟩
  · split
    · rename_i h3
      have : q ≠ 2 * h := by
        intro e
        rw [e, show L * (2 * h) = 2 * (h * L) by rw [Nat.mul_comm, Nat.mul_assoc]] at q1
        omega
      omega
    · omega
  · rcases Nat.lt_or_ge 1 L with h3 | h3
    · have := big h3; omega
    · have e : L = 1 := by omega
      subst e
      simp at hq
      omega
end Go.Proofs.Ytnjeoobcejlojaa
