/- How high a tree can be; the reference's Height. Conditions: sizes. -/
import Derived.Test.YtnjeoobcejlojaaTreeC
namespace Go.Proofs.Ytnjeoobcejlojaa
open Go.Proofs Go.RowKit
set_option linter.unusedVariables false
attribute [local irreducible] CW SeqW OpW
set_option maxHeartbeats 4000000
/-! ### How high a tree can be -/
def refGo : Nat → Nat → Nat → Nat → Nat
  | 0, h, _, _ => h
  | k + 1, h, least, many => if least ≤ many then refGo k (h + 1) (least * 3) many else h
def refH (many : Nat) : Nat := if many = 0 then 0 else refGo many 1 4 many
theorem refGo_ge : ∀ (j k h least many : Nat), least * 3 ^ j ≤ many → j < k → h + j + 1 ≤ refGo k h least many
  | j, 0, h, least, many, _, hk => by omega
  | 0, k + 1, h, least, many, hl, _ => by
    have hl : least ≤ many := by simpa using hl
    simp only [refGo, if_pos hl]
    have : ∀ (k h least : Nat), h ≤ refGo k h least many := by
      intro k
      induction k with
      | zero => intro h least; exact Nat.le_refl _
      | succ k ih =>
        intro h least
        simp only [refGo]
        split
        · exact Nat.le_trans (Nat.le_succ h) (ih (h + 1) (least * 3))
        · exact Nat.le_refl _
    have := this k (h + 1) (least * 3)
    omega
  | j + 1, k + 1, h, least, many, hl, hk => by
    have h1 : least ≤ many := by
      refine Nat.le_trans ?_ hl
      exact Nat.le_mul_of_pos_right _ (Nat.pow_pos (by omega))
    have h2 : least * 3 * 3 ^ j ≤ many := by rw [Nat.mul_assoc, ← Nat.pow_succ']; exact hl
    simp only [refGo, if_pos h1]
    have := refGo_ge j k (h + 1) (least * 3) many h2 (by omega)
    omega
theorem flat_min {h : Nat} {n : Nat} : ∀ {l : List (Nd h)}, (∀ k ∈ l, n ≤ (Nd.items h k).length) → l.length * n ≤ (l.flatMap (Nd.items h)).length
  | [], _ => by simp
  | k :: l, hl => by
    have h1 := hl k (by simp)
    have h2 := flat_min (l := l) fun x hx => hl x (by simp [hx])
    simp only [List.length_cons, List.flatMap_cons, List.length_append, Nat.add_mul]
    omega
theorem enough_items : {h : Nat} → {x : Nd h} → Nd.enough h x = true → Nd.full h x = true → 2 * 3 ^ h ≤ (Nd.items h x).length
  | 0, x, he, _ => by simpa [Nd.enough, Nd.items] using he
  | h + 1, x, he, hf => by
    have h3 : 3 ≤ x.kids.length := by simpa [Nd.enough] using he
    have := flat_min (l := x.kids) (n := 2 * 3 ^ h) fun k hk => enough_items (Nd.full_kids hf k hk).1 (Nd.full_kids hf k hk).2
    have h4 : 3 * (2 * 3 ^ h) ≤ x.kids.length * (2 * 3 ^ h) := Nat.mul_le_mul_right _ h3
    show _ ≤ (x.kids.flatMap (Nd.items h)).length
    rw [Nat.pow_succ]
    omega
theorem height_refH {H : HF} {t : Tr} (ht : TreeAt H t) : t.height ≤ refH t.items.length := by
  cases t with
  | none => exact Nat.zero_le _
  | some x =>
    obtain ⟨h, x⟩ := x
    have hx : NodeAt H h x := ht.at_
    have hf : Nd.full h x = true := ht.full
    show h + 1 ≤ refH (Nd.items h x).length
    have h1 := (Nd.ok_len hx.ok).1
    have hgt := Nd.items_gt hx.ok
    rw [refH, if_neg (by omega)]
    cases h with
    | zero =>
      have : ∀ (k h least many : Nat), h ≤ refGo k h least many := by
        intro k
        induction k with
        | zero => intro h least many; exact Nat.le_refl _
        | succ k ih =>
          intro h least many
          simp only [refGo]
          split
          · exact Nat.le_trans (Nat.le_succ h) (ih (h + 1) (least * 3) many)
          · exact Nat.le_refl _
      exact this _ _ _ _
    | succ h =>
      have h2 := hx.ok.1
      have h3 := flat_min (l := x.kids) (n := 2 * 3 ^ h) fun k hk => enough_items (Nd.full_kids hf k hk).1 (Nd.full_kids hf k hk).2
      have h4 : 2 * (2 * 3 ^ h) ≤ x.kids.length * (2 * 3 ^ h) := Nat.mul_le_mul_right _ h2
      have h5 : 4 * 3 ^ h ≤ (Nd.items (h + 1) x).length := by
        show _ ≤ (x.kids.flatMap (Nd.items h)).length
        omega
      have := refGo_ge h (Nd.items (h + 1) x).length 1 4 _ h5 (by omega)
      omega
theorem rHeight_c (H : HF) (n : Nat) (hn : n ≤ 1000000) : Fn Try.prog 46 [.int .i64 (n : Int)] H fun v _ => v = .int .i64 (refH n : Nat) := by
  refine Fn_of_CW Try.func46 rfl Try.ntmps46 Try.results46 rfl fun w hS => ?_; have hG := Grow.refl hS; have hS0 := hS
  by_cases h0 : n = 0
  · (refine CW_seq ?_; refine CW_region rfl ?_; refine S_op ?_; refine W_assignInt (by first | rfl | assumption) ?_; refine S_nil ?_; refine CW_seq ?_; refine CW_seq ?_; refine CW_region rfl ?_; refine S_op ?_; refine W_moveInt (by first | rfl | assumption) ?_; refine S_op ?_; refine W_eqlT (by first | rfl | assumption) (by first | rfl | assumption) (by first | omega | rfl) ?_; refine S_nil ?_; refine CW_true (by first | rfl | assumption) ?_; refine CW_seq ?_; refine CW_region rfl ?_; refine S_op ?_; refine W_assignInt (by first | rfl | assumption) ?_; refine S_nil ?_; refine CW_ret ?_)
    exact ⟨_, ResW_one (v := .int _ _) rfl, H, hG, by simp [refH, h0]⟩
  · (refine CW_seq ?_; refine CW_region rfl ?_; refine S_op ?_; refine W_assignInt (by first | rfl | assumption) ?_; refine S_nil ?_; refine CW_seq ?_; refine CW_seq ?_; refine CW_region rfl ?_; refine S_op ?_; refine W_moveInt (by first | rfl | assumption) ?_; refine S_op ?_; refine W_eqlF (by first | rfl | assumption) (by first | rfl | assumption) (by first | omega | rfl) ?_; refine S_nil ?_; refine CW_false (by first | rfl | assumption) ?_; refine CW_skip ?_; refine CW_seq ?_; refine CW_region rfl ?_; refine S_op ?_; refine W_assignInt (by first | rfl | assumption) ?_; refine S_op ?_; refine W_assignInt (by first | rfl | assumption) ?_; refine S_nil ?_; refine CW_seq ?_; refine CW_block ?_)
    refine CW_loopM [3, 4, 7, 8, 9, 10, 11, 12, 13]
      (fun m u w2 => ∃ (h least : Nat), u 3 = .int .i64 (h : Int) ∧ u 4 = .int .i64 (least : Int) ∧ w2 = w ∧ n < least + m ∧ 1 ≤ least ∧ least ≤ 4000000 ∧ h ≤ least ∧ refGo m h least n = refH n)
      (m := n) ⟨1, 4, rfl, rfl, rfl, by omega, by omega, by omega, by omega, by rw [refH, if_neg h0]⟩ ?_
    rintro m u w2 ⟨h, least, h3, h4, rfl, hm, hl1, hl4, hhl, hf⟩
    by_cases hlt : least ≤ n
    · obtain ⟨k, rfl⟩ : ∃ k, m = k + 1 := ⟨m - 1, by omega⟩
      simp only [refGo, if_pos hlt] at hf
      (refine CW_seq ?_; refine CW_seq ?_; refine CW_region rfl ?_; refine S_op ?_; refine W_moveInt (by first | rfl | assumption) ?_; refine S_op ?_; refine W_moveInt (by first | rfl | assumption) ?_; refine S_op ?_; refine W_leqT (by first | rfl | assumption) (by first | rfl | assumption) (by first | omega | rfl) ?_; refine S_nil ?_; refine CW_true (by first | rfl | assumption) ?_; refine CW_skip ?_; refine CW_block ?_; refine CW_seq ?_; refine CW_region rfl ?_; refine S_op ?_; refine W_moveInt (by first | rfl | assumption) ?_; refine S_op ?_; refine W_add1 (by first | rfl | assumption) (by omega) ?_; refine S_op ?_; refine W_assignInt (by first | rfl | assumption) ?_; refine S_nil ?_; refine CW_region rfl ?_; refine S_op ?_; refine W_moveInt (by first | rfl | assumption) ?_)
      refine S_op (W_mul (q := ((least * 3 : Nat) : Int)) (by rfl) (by rfl) ?_ ?_)
      · show IntKind.i64.wrap ((least : Int) * 3) = _
        rw [IntWalk.i64_in _ (by omega)]; omega
      (refine S_op ?_; refine W_assignInt (by first | rfl | assumption) ?_; refine S_nil ?_)
      exact ⟨(by repeat (first | exact AgreeOff.over | refine AgreeOff.upd rfl ?_ | refine AgreeOff.over2 rfl ?_)), k, by omega, h + 1, least * 3, rfl, rfl, rfl, by omega, by omega, by omega, by omega, hf⟩
    · have hf : h = refH n := by
        rw [← hf]
        cases m with
        | zero => rfl
        | succ k => simp only [refGo, if_neg hlt]
      (refine CW_seq ?_; refine CW_seq ?_; refine CW_region rfl ?_; refine S_op ?_; refine W_moveInt (by first | rfl | assumption) ?_; refine S_op ?_; refine W_moveInt (by first | rfl | assumption) ?_; refine S_op ?_; refine W_leqF (by first | rfl | assumption) (by first | rfl | assumption) (by first | omega | rfl) ?_; refine S_nil ?_; refine CW_false (by first | rfl | assumption) ?_; refine CW_exit ?_; refine CW_seq ?_; refine CW_region rfl ?_; refine S_op ?_; refine W_moveInt (by first | rfl | assumption) ?_; refine S_op ?_; refine W_assignInt (by first | rfl | assumption) ?_; refine S_nil ?_; refine CW_ret ?_)
      exact ⟨_, ResW_one (v := .int _ _) rfl, H, hG, by rw [hf]⟩
end Go.Proofs.Ytnjeoobcejlojaa
