/- TreePaths: it answers true. Conditions: sizes. -/
import Derived.Test.YtlkbdgfipdeloaaTreePlays
namespace Go.Proofs.Ytlkbdgfipdeloaa
open Go.Proofs Go.RowKit
set_option linter.unusedVariables false
attribute [local irreducible] CW SeqW OpW
set_option maxHeartbeats 4000000
/-! ### How high a tree can be -/
def refGo : Nat → Nat → Nat → Nat → Nat
  | 0, h, _, _ => h
  | k + 1, h, least, many => if least ≤ many then refGo k (h + 1) (least * 3) many else h
def refH (many : Nat) : Nat := if many = 0 then 0 else refGo many 1 4 many
theorem refGo_ge : ∀ (j k h least many : Nat), least * 3 ^ j ≤ many → j < k → h + j + 1 ≤ refGo k h least many
  | j, 0, h, least, many, _, hk => by omega
  | 0, k + 1, h, least, many, hl, _ => by
    have hl : least ≤ many := by simpa using hl
    simp only [refGo, if_pos hl]
    have : ∀ (k h least : Nat), h ≤ refGo k h least many := by
      intro k
      induction k with
      | zero => intro h least; exact Nat.le_refl _
      | succ k ih =>
        intro h least
        simp only [refGo]
        split
        · exact Nat.le_trans (Nat.le_succ h) (ih (h + 1) (least * 3))
        · exact Nat.le_refl _
    have := this k (h + 1) (least * 3)
    omega
  | j + 1, k + 1, h, least, many, hl, hk => by
    have h1 : least ≤ many := by
      refine Nat.le_trans ?_ hl
      exact Nat.le_mul_of_pos_right _ (Nat.pow_pos (by omega))
    have h2 : least * 3 * 3 ^ j ≤ many := by rw [Nat.mul_assoc, ← Nat.pow_succ']; exact hl
    simp only [refGo, if_pos h1]
    have := refGo_ge j k (h + 1) (least * 3) many h2 (by omega)
    omega
theorem flat_min {h : Nat} {n : Nat} : ∀ {l : List (Nd h)}, (∀ k ∈ l, n ≤ (Nd.items h k).length) → l.length * n ≤ (l.flatMap (Nd.items h)).length
  | [], _ => by simp
  | k :: l, hl => by
    have h1 := hl k (by simp)
    have h2 := flat_min (l := l) fun x hx => hl x (by simp [hx])
    simp only [List.length_cons, List.flatMap_cons, List.length_append, Nat.add_mul]
    omega
theorem enough_items : {h : Nat} → {x : Nd h} → Nd.enough h x = true → Nd.full h x = true → 2 * 3 ^ h ≤ (Nd.items h x).length
  | 0, x, he, _ => by simpa [Nd.enough, Nd.items] using he
  | h + 1, x, he, hf => by
    have h3 : 3 ≤ x.kids.length := by simpa [Nd.enough] using he
    have := flat_min (l := x.kids) (n := 2 * 3 ^ h) fun k hk => enough_items (Nd.full_kids hf k hk).1 (Nd.full_kids hf k hk).2
    have h4 : 3 * (2 * 3 ^ h) ≤ x.kids.length * (2 * 3 ^ h) := Nat.mul_le_mul_right _ h3
    show _ ≤ (x.kids.flatMap (Nd.items h)).length
    rw [Nat.pow_succ]
    omega
theorem height_refH {H : HF} {t : Tr} (ht : TreeAt H t) : t.height ≤ refH t.items.length := by
  cases t with
  | none => exact Nat.zero_le _
  | some x =>
    obtain ⟨h, x⟩ := x
    have hx : NodeAt H h x := ht.at_
    have hf : Nd.full h x = true := ht.full
    show h + 1 ≤ refH (Nd.items h x).length
    have h1 := (Nd.ok_len hx.ok).1
    have hgt := Nd.items_gt hx.ok
    rw [refH, if_neg (by omega)]
    cases h with
    | zero =>
      have : ∀ (k h least many : Nat), h ≤ refGo k h least many := by
        intro k
        induction k with
        | zero => intro h least many; exact Nat.le_refl _
        | succ k ih =>
          intro h least many
          simp only [refGo]
          split
          · exact Nat.le_trans (Nat.le_succ h) (ih (h + 1) (least * 3) many)
          · exact Nat.le_refl _
      exact this _ _ _ _
    | succ h =>
      have h2 := hx.ok.1
      have h3 := flat_min (l := x.kids) (n := 2 * 3 ^ h) fun k hk => enough_items (Nd.full_kids hf k hk).1 (Nd.full_kids hf k hk).2
      have h4 : 2 * (2 * 3 ^ h) ≤ x.kids.length * (2 * 3 ^ h) := Nat.mul_le_mul_right _ h2
      have h5 : 4 * 3 ^ h ≤ (Nd.items (h + 1) x).length := by
        show _ ≤ (x.kids.flatMap (Nd.items h)).length
        omega
      have := refGo_ge h (Nd.items (h + 1) x).length 1 4 _ h5 (by omega)
      omega
theorem rHeight_c (H : HF) (n : Nat) (hn : n ≤ 1000000) : Fn Try.prog 42 [.int .i64 (n : Int)] H fun v _ => v = .int .i64 (refH n : Nat) := by
  refine Fn_of_CW Try.func42 rfl Try.ntmps42 Try.results42 rfl fun w hS => ?_; have hG := Grow.refl hS; have hS0 := hS
  by_cases h0 : n = 0
  · (refine CW_seq ?_; refine CW_region rfl ?_; refine S_op ?_; refine W_assignInt (by first | rfl | assumption) ?_; refine S_nil ?_; refine CW_seq ?_; refine CW_seq ?_; refine CW_region rfl ?_; refine S_op ?_; refine W_moveInt (by first | rfl | assumption) ?_; refine S_op ?_; refine W_eqlT (by first | rfl | assumption) (by first | rfl | assumption) (by first | omega | rfl) ?_; refine S_nil ?_; refine CW_true (by first | rfl | assumption) ?_; refine CW_seq ?_; refine CW_region rfl ?_; refine S_op ?_; refine W_assignInt (by first | rfl | assumption) ?_; refine S_nil ?_; refine CW_ret ?_)
    exact ⟨_, ResW_one (v := .int _ _) rfl, H, hG, by simp [refH, h0]⟩
  · (refine CW_seq ?_; refine CW_region rfl ?_; refine S_op ?_; refine W_assignInt (by first | rfl | assumption) ?_; refine S_nil ?_; refine CW_seq ?_; refine CW_seq ?_; refine CW_region rfl ?_; refine S_op ?_; refine W_moveInt (by first | rfl | assumption) ?_; refine S_op ?_; refine W_eqlF (by first | rfl | assumption) (by first | rfl | assumption) (by first | omega | rfl) ?_; refine S_nil ?_; refine CW_false (by first | rfl | assumption) ?_; refine CW_skip ?_; refine CW_seq ?_; refine CW_region rfl ?_; refine S_op ?_; refine W_assignInt (by first | rfl | assumption) ?_; refine S_op ?_; refine W_assignInt (by first | rfl | assumption) ?_; refine S_nil ?_; refine CW_seq ?_; refine CW_block ?_)
    refine CW_loopM [3, 4, 7, 8, 9, 10, 11, 12, 13]
      (fun m u w2 => ∃ (h least : Nat), u 3 = .int .i64 (h : Int) ∧ u 4 = .int .i64 (least : Int) ∧ w2 = w ∧ n < least + m ∧ 1 ≤ least ∧ least ≤ 4000000 ∧ h ≤ least ∧ refGo m h least n = refH n)
      (m := n) ⟨1, 4, rfl, rfl, rfl, by omega, by omega, by omega, by omega, by rw [refH, if_neg h0]⟩ ?_
    rintro m u w2 ⟨h, least, h3, h4, rfl, hm, hl1, hl4, hhl, hf⟩
    by_cases hlt : least ≤ n
    · obtain ⟨k, rfl⟩ : ∃ k, m = k + 1 := ⟨m - 1, by omega⟩
      simp only [refGo, if_pos hlt] at hf
      (refine CW_seq ?_; refine CW_seq ?_; refine CW_region rfl ?_; refine S_op ?_; refine W_moveInt (by first | rfl | assumption) ?_; refine S_op ?_; refine W_moveInt (by first | rfl | assumption) ?_; refine S_op ?_; refine W_leqT (by first | rfl | assumption) (by first | rfl | assumption) (by first | omega | rfl) ?_; refine S_nil ?_; refine CW_true (by first | rfl | assumption) ?_; refine CW_skip ?_; refine CW_block ?_; refine CW_seq ?_; refine CW_region rfl ?_; refine S_op ?_; refine W_moveInt (by first | rfl | assumption) ?_; refine S_op ?_; refine W_add1 (by first | rfl | assumption) (by omega) ?_; refine S_op ?_; refine W_assignInt (by first | rfl | assumption) ?_; refine S_nil ?_; refine CW_region rfl ?_; refine S_op ?_; refine W_moveInt (by first | rfl | assumption) ?_)
      refine S_op (W_mul (q := ((least * 3 : Nat) : Int)) (by rfl) (by rfl) ?_ ?_)
      · show IntKind.i64.wrap ((least : Int) * 3) = _
        rw [IntWalk.i64_in _ (by omega)]; omega
      (refine S_op ?_; refine W_assignInt (by first | rfl | assumption) ?_; refine S_nil ?_)
      exact ⟨(by repeat (first | exact AgreeOff.over | refine AgreeOff.upd rfl ?_ | refine AgreeOff.over2 rfl ?_)), k, by omega, h + 1, least * 3, rfl, rfl, rfl, by omega, by omega, by omega, by omega, hf⟩
    · have hf : h = refH n := by
        rw [← hf]
        cases m with
        | zero => rfl
        | succ k => simp only [refGo, if_neg hlt]
      (refine CW_seq ?_; refine CW_seq ?_; refine CW_region rfl ?_; refine S_op ?_; refine W_moveInt (by first | rfl | assumption) ?_; refine S_op ?_; refine W_moveInt (by first | rfl | assumption) ?_; refine S_op ?_; refine W_leqF (by first | rfl | assumption) (by first | rfl | assumption) (by first | omega | rfl) ?_; refine S_nil ?_; refine CW_false (by first | rfl | assumption) ?_; refine CW_exit ?_; refine CW_seq ?_; refine CW_region rfl ?_; refine S_op ?_; refine W_moveInt (by first | rfl | assumption) ?_; refine S_op ?_; refine W_assignInt (by first | rfl | assumption) ?_; refine S_nil ?_; refine CW_ret ?_)
      exact ⟨_, ResW_one (v := .int _ _) rfl, H, hG, by rw [hf]⟩
theorem path_head {h : Nat} (x : Nd h) (key : ByteArray) : ∃ r, Nd.pathL h x key = x.ptr :: r := by
  cases h with
  | zero => exact ⟨[], rfl⟩
  | succ h => exact ⟨_, rfl⟩
theorem kids_none {H : HF} {x : Nd 0} (hx : NodeAt H 0 x) : Fn Try.prog 22 [x.ptr] H fun v _ => v = .slice none 0 0 := kids_leaf hx
theorem treePaths_c (H : HF) (A : Option Addr) (c : Nat) (l : List Op10) (key : ByteArray) (hl : SlAt H A (ops10 l)) (hb : l.length ≤ 100000000000000) (hs : ∀ o ∈ l, o.Ok) (hkk : key.size ≤ 1000000000000000) :
    Fn Try.prog 9 [.slice A l.length c, .string key] H fun v _ => v = .bool true := by
  refine Fn_of_CW Try.func9 rfl Try.ntmps9 Try.results9 rfl fun w hS => ?_; have hG := Grow.refl hS; have hS0 := hS
  (refine CW_seq ?_; refine CW_region rfl ?_; refine S_op ?_; refine W_assignBool (by first | rfl | assumption) ?_; refine S_nil ?_; refine CW_seq ?_; refine CW_seq ?_; refine CW_region rfl ?_)
  (refine S_op ?_; refine W_call hS (by rfl) (awake10_c H) ?_); rintro v H w hG' rfl; replace hG := hG.trans hG'; replace hS := hG'.sub; replace hl := hl.mono hG'.le; clear hG'
  (refine S_op ?_; refine W_not (by first | rfl | assumption) ?_; refine S_op ?_; refine W_moveBool (by first | rfl | assumption) ?_; refine S_want (by rfl) ?_; refine W_moveSl (by first | rfl | assumption) ?_)
  (refine S_want (by rfl) ?_; refine W_call hS (by rfl) (few10_c H A c l hl hb hs) ?_); rintro v H w hG' rfl; replace hG := hG.trans hG'; replace hS := hG'.sub; replace hl := hl.mono hG'.le; clear hG'
  cases hf : few10B l with
  | false =>
    (refine S_want (by rfl) ?_; refine W_not (by first | rfl | assumption) ?_; refine S_op ?_; refine W_pickF (by first | rfl | assumption) (by first | rfl | assumption) ?_; refine S_op ?_; refine W_moveBool (by first | rfl | assumption) ?_; refine S_pass (by rfl) ?_; refine S_pass (by rfl) ?_; refine S_pass (by rfl) ?_; refine S_op ?_; refine W_pickT (by first | rfl | assumption) (by first | rfl | assumption) ?_; refine S_nil ?_; refine CW_true (by first | rfl | assumption) ?_; refine CW_seq ?_; refine CW_region rfl ?_)
    (refine S_op ?_; refine W_call hS (by rfl) (awake10_c H) ?_); rintro v H w hG' rfl; replace hG := hG.trans hG'; replace hS := hG'.sub; clear hG'
    (refine S_op ?_; refine W_assignBool (by first | rfl | assumption) ?_; refine S_nil ?_; refine CW_ret ?_)
    exact ⟨_, ResW_one (v := .bool _) rfl, H, hG, rfl⟩
  | true =>
    have hlen := few10B_le hf
    by_cases hk2 : 2000 < key.size
    · (refine S_want (by rfl) ?_; refine W_not (by first | rfl | assumption) ?_; refine S_op ?_; refine W_pickF (by first | rfl | assumption) (by first | rfl | assumption) ?_; refine S_op ?_; refine W_moveBool (by first | rfl | assumption) ?_; refine S_want (by rfl) ?_; refine W_moveStr (by first | rfl | assumption) ?_; refine S_want (by rfl) ?_; refine W_lenS (by first | rfl | assumption) ?_; refine S_want (by rfl) ?_; refine W_gtrT (by first | rfl | assumption) (by first | rfl | assumption) (by first | omega | rfl) ?_; refine S_op ?_; refine W_pickF (by first | rfl | assumption) (by first | rfl | assumption) ?_; refine S_nil ?_; refine CW_true (by first | rfl | assumption) ?_; refine CW_seq ?_; refine CW_region rfl ?_)
      (refine S_op ?_; refine W_call hS (by rfl) (awake10_c H) ?_); rintro v H w hG' rfl; replace hG := hG.trans hG'; replace hS := hG'.sub; clear hG'
      (refine S_op ?_; refine W_assignBool (by first | rfl | assumption) ?_; refine S_nil ?_; refine CW_ret ?_)
      exact ⟨_, ResW_one (v := .bool _) rfl, H, hG, rfl⟩
    · (refine S_want (by rfl) ?_; refine W_not (by first | rfl | assumption) ?_; refine S_op ?_; refine W_pickF (by first | rfl | assumption) (by first | rfl | assumption) ?_; refine S_op ?_; refine W_moveBool (by first | rfl | assumption) ?_; refine S_want (by rfl) ?_; refine W_moveStr (by first | rfl | assumption) ?_; refine S_want (by rfl) ?_; refine W_lenS (by first | rfl | assumption) ?_; refine S_want (by rfl) ?_; refine W_gtrF (by first | rfl | assumption) (by first | rfl | assumption) (by first | omega | rfl) ?_; refine S_op ?_; refine W_pickF (by first | rfl | assumption) (by first | rfl | assumption) ?_; refine S_nil ?_; refine CW_false (by first | rfl | assumption) ?_; refine CW_skip ?_; refine CW_seq ?_; refine CW_region rfl ?_; refine S_op ?_; refine W_moveSl (by first | rfl | assumption) ?_)
      (refine S_op ?_; refine W_call hS (by rfl) (built10_c H A c l hl (by omega)) ?_); rintro v H w hG' ⟨t, rfl, ht, _, htl⟩; replace hG := hG.trans hG'; replace hS := hG'.sub; clear hG'
      have hhr := height_refH ht
      have hhl := ht.height
      cases t with
      | none =>
        (refine S_op ?_; refine W_assignPtr (by first | rfl | assumption) ?_; refine S_nil ?_; refine CW_seq ?_; refine CW_region rfl ?_; refine S_op ?_; refine W_movePtr (by first | rfl | assumption) ?_; refine S_op ?_; refine W_moveStr (by first | rfl | assumption) ?_)
        (refine S_op ?_; refine W_call hS (by rfl) (path_nil H key) ?_); rintro v H w hG' rfl; replace hG := hG.trans hG'; replace hS := hG'.sub; replace ht := ht.mono hG'.le; clear hG'
        (refine S_op ?_; refine W_assignSl (by first | rfl | assumption) ?_; refine S_nil ?_; refine CW_seq ?_; refine CW_seq ?_; refine CW_region rfl ?_; refine S_op ?_; refine W_moveSl (by first | rfl | assumption) ?_; refine S_op ?_; refine W_len (by first | rfl | assumption) ?_; refine S_op ?_; refine W_movePtr (by first | rfl | assumption) ?_)
        (refine S_op ?_; refine W_call hS (by rfl) (height_nil (H := H)) ?_); rintro v H w hG' rfl; replace hG := hG.trans hG'; replace hS := hG'.sub; replace ht := ht.mono hG'.le; clear hG'
        (refine S_op ?_; refine W_neqF (by first | rfl | assumption) (by first | rfl | assumption) (by first | omega | rfl) ?_; refine S_op ?_; refine W_moveBool (by first | rfl | assumption) ?_; refine S_want (by rfl) ?_; refine W_moveSl (by first | rfl | assumption) ?_; refine S_want (by rfl) ?_; refine W_len (by first | rfl | assumption) ?_; refine S_want (by rfl) ?_; refine W_gtrF (by first | rfl | assumption) (by first | rfl | assumption) (by first | omega | rfl) ?_; refine S_want (by rfl) ?_; refine W_moveBool (by first | rfl | assumption) ?_; refine S_pass (by rfl) ?_; refine S_pass (by rfl) ?_; refine S_pass (by rfl) ?_; refine S_pass (by rfl) ?_; refine S_pass (by rfl) ?_; refine S_want (by rfl) ?_; refine W_pickF (by first | rfl | assumption) (by first | rfl | assumption) ?_; refine S_op ?_; refine W_pickF (by first | rfl | assumption) (by first | rfl | assumption) ?_; refine S_op ?_; refine W_moveBool (by first | rfl | assumption) ?_; refine S_want (by rfl) ?_; refine W_movePtr (by first | rfl | assumption) ?_)
        (refine S_want (by rfl) ?_; refine W_call hS (by rfl) (height_nil (H := H)) ?_); rintro v H w hG' rfl; replace hG := hG.trans hG'; replace hS := hG'.sub; replace ht := ht.mono hG'.le; clear hG'
        (refine S_want (by rfl) ?_; refine W_movePtr (by first | rfl | assumption) ?_)
        (refine S_want (by rfl) ?_; refine W_call hS (by rfl) (items_t ht.at_ (by omega)) ?_); rintro v H w hG' ⟨A5, c5, rfl, hc5, hl5⟩; replace hG := hG.trans hG'; replace hS := hG'.sub; replace ht := ht.mono hG'.le; clear hG'
        (refine S_want (by rfl) ?_; refine W_len (by first | rfl | assumption) ?_)
        (refine S_want (by rfl) ?_; refine W_call hS (by rfl) (rHeight_c H 0 (by omega)) ?_); rintro v H w hG' rfl; replace hG := hG.trans hG'; replace hS := hG'.sub; replace ht := ht.mono hG'.le; clear hG'
        rw [show refH 0 = 0 from rfl]
        (refine S_want (by rfl) ?_; refine W_gtrF (by first | rfl | assumption) (by first | rfl | assumption) (by first | omega | rfl) ?_; refine S_op ?_; refine W_pickF (by first | rfl | assumption) (by first | rfl | assumption) ?_; refine S_nil ?_; refine CW_false (by first | rfl | assumption) ?_; refine CW_skip ?_; refine CW_seq ?_; refine CW_seq ?_; refine CW_region rfl ?_; refine S_op ?_; refine W_assignInt (by first | rfl | assumption) ?_; refine S_nil ?_; refine CW_block ?_)
        refine CW_loopM [4, 7, 8, 9, 10, 11, 12, 61, 62, 63, 64, 65, 66, 67, 68, 69, 70, 71, 72, 73, 74, 75, 76, 77, 78, 79, 80, 81, 82, 83, 84, 85, 86, 87, 88, 89, 90, 91, 92, 93, 94, 95, 96, 97, 98, 99, 100, 101, 102, 103, 104, 105, 106, 107] (fun m u w2 => u 7 = .int .i64 1 ∧ w2 = w) (m := 0) ⟨rfl, rfl⟩ ?_
        rintro m u w2 ⟨h7, rfl⟩
        (refine CW_seq ?_; refine CW_seq ?_; refine CW_region rfl ?_; refine S_op ?_; refine W_moveInt (by first | rfl | assumption) ?_; refine S_op ?_; refine W_moveSl (by first | rfl | assumption) ?_; refine S_op ?_; refine W_len (by first | rfl | assumption) ?_; refine S_op ?_; refine W_lssF (by first | rfl | assumption) (by first | rfl | assumption) (by first | omega | rfl) ?_; refine S_nil ?_; refine CW_false (by first | rfl | assumption) ?_; refine CW_exit ?_; refine CW_seq ?_; refine CW_region rfl ?_; refine S_op ?_; refine W_movePtr (by first | rfl | assumption) ?_; refine S_op ?_; refine W_moveStr (by first | rfl | assumption) ?_)
        (refine S_op ?_; refine W_call hS (by rfl) (tGet_c key ht (by omega)) ?_); rintro v H w hG' rfl; replace hG := hG.trans hG'; replace hS := hG'.sub; clear hG'
        rw [show lookB (Tr.items none) key = false from rfl]
        (refine S_op ?_; refine W_moveTup (by first | rfl | assumption) ?_; refine S_op ?_; refine W_extract (by first | rfl | assumption) (by rfl) ?_; refine S_op ?_; refine W_extract (by first | rfl | assumption) (by rfl) ?_; refine S_op ?_; refine W_assignStr (by first | rfl | assumption) ?_; refine S_op ?_; refine W_assignBool (by first | rfl | assumption) ?_; refine S_nil ?_; refine CW_seq ?_; refine CW_seq ?_; refine CW_region rfl ?_; refine S_op ?_; refine W_moveSl (by first | rfl | assumption) ?_; refine S_op ?_; refine W_len (by first | rfl | assumption) ?_; refine S_op ?_; refine W_eqlT (by first | rfl | assumption) (by first | rfl | assumption) (by first | omega | rfl) ?_; refine S_nil ?_; refine CW_true (by first | rfl | assumption) ?_; refine CW_seq ?_; refine CW_region rfl ?_; refine S_op ?_; refine W_moveBool (by first | rfl | assumption) ?_; refine S_op ?_; refine W_not (by first | rfl | assumption) ?_; refine S_op ?_; refine W_assignBool (by first | rfl | assumption) ?_; refine S_nil ?_; refine CW_ret ?_)
        exact ⟨_, ResW_one (v := .bool _) rfl, H, hG, rfl⟩
      | some x =>
        obtain ⟨h, x⟩ := x
        have hx : NodeAt H h x := ht.at_
        have htl : (Nd.items h x).length ≤ l.length := htl
        have hhl : h + 1 ≤ (Nd.items h x).length := hhl
        have hhr : h + 1 ≤ refH (Nd.items h x).length := hhr
        (refine S_op ?_; refine W_assignPtr (by first | rfl | assumption) ?_; refine S_nil ?_; refine CW_seq ?_; refine CW_region rfl ?_; refine S_op ?_; refine W_movePtr (by first | rfl | assumption) ?_; refine S_op ?_; refine W_moveStr (by first | rfl | assumption) ?_)
        (refine S_op ?_; refine W_call hS (by rfl) (path_c H h x key hx (by omega)) ?_); rintro v H w hG' ⟨A2, c2, rfl, hc2, hsl, hpl⟩; replace hG := hG.trans hG'; replace hS := hG'.sub; replace ht := ht.mono hG'.le; replace hx := hx.mono hG'.le; clear hG'
        obtain ⟨r0, hr0⟩ := path_head x key
        have hpl : (Nd.pathL h x key).length = h + 1 := Nd.path_length x key
        obtain ⟨bb, off, hA2, hrow⟩ : ∃ bb off, A2 = some ⟨bb, off, none⟩ ∧ Row H bb off (Nd.pathL h x key) := by
          rcases hsl with h1 | h1
          · rw [h1] at hpl; simp at hpl
          · exact h1
        have hget0 : (Nd.pathL h x key)[0 * 1]? = some x.ptr := by rw [hr0]; rfl
        have hq0 : 0 < h + 1 := by omega
        have hatx := ht.at_
        have hsx : sameT (trOf x) (trOf x) = true := sameT_refl _
        (refine S_op ?_; refine W_assignSl (by first | rfl | assumption) ?_; refine S_nil ?_; refine CW_seq ?_; refine CW_seq ?_; refine CW_region rfl ?_; refine S_op ?_; refine W_moveSl (by first | rfl | assumption) ?_; refine S_op ?_; refine W_len (by first | rfl | assumption) ?_; refine S_op ?_; refine W_movePtr (by first | rfl | assumption) ?_)
        (refine S_op ?_; refine W_call hS (by rfl) (height_c hx) ?_); rintro v H w hG' rfl; replace hG := hG.trans hG'; replace hS := hG'.sub; replace ht := ht.mono hG'.le; replace hx := hx.mono hG'.le; replace hrow := hrow.mono hG'.le; clear hG'
        (refine S_op ?_; refine W_neqF (by first | rfl | assumption) (by first | rfl | assumption) (by first | omega | rfl) ?_; refine S_op ?_; refine W_moveBool (by first | rfl | assumption) ?_; refine S_want (by rfl) ?_; refine W_moveSl (by first | rfl | assumption) ?_; refine S_want (by rfl) ?_; refine W_len (by first | rfl | assumption) ?_; refine S_want (by rfl) ?_; refine W_gtrT (by first | rfl | assumption) (by first | rfl | assumption) (by first | omega | rfl) ?_; refine S_want (by rfl) ?_; refine W_moveBool (by first | rfl | assumption) ?_; refine S_want (by rfl) ?_; refine W_moveSl (by first | rfl | assumption) ?_; refine S_want (by rfl) ?_; refine W_index (by first | rfl | assumption) (by first | rfl | assumption) (by first | assumption | omega | decide) (by first | rfl | assumption) ?_)
        refine S_want (by rfl) ?_
        refine W_loadRow (j := 0 * 1) (by rfl) hrow hget0 hS ?_
        (refine S_want (by rfl) ?_; refine W_movePtr (by first | rfl | assumption) ?_)
        refine S_want (by rfl) ?_
        refine W_trNeqB (s := trOf x) (t := trOf x) (by rfl) (by rfl) ht.at_ ht.at_ hS hsx ?_
        (refine S_want (by rfl) ?_; refine W_pickT (by first | rfl | assumption) (by first | rfl | assumption) ?_; refine S_op ?_; refine W_pickF (by first | rfl | assumption) (by first | rfl | assumption) ?_; refine S_op ?_; refine W_moveBool (by first | rfl | assumption) ?_; refine S_want (by rfl) ?_; refine W_movePtr (by first | rfl | assumption) ?_)
        (refine S_want (by rfl) ?_; refine W_call hS (by rfl) (height_c hx) ?_); rintro v H w hG' rfl; replace hG := hG.trans hG'; replace hS := hG'.sub; replace ht := ht.mono hG'.le; replace hx := hx.mono hG'.le; replace hrow := hrow.mono hG'.le; clear hG'
        (refine S_want (by rfl) ?_; refine W_movePtr (by first | rfl | assumption) ?_)
        (refine S_want (by rfl) ?_; refine W_call hS (by rfl) (items_c h H x hx (by omega)) ?_); rintro v H w hG' ⟨A5, c5, rfl, hc5, hl5⟩; replace hG := hG.trans hG'; replace hS := hG'.sub; replace ht := ht.mono hG'.le; replace hx := hx.mono hG'.le; replace hrow := hrow.mono hG'.le; clear hG'
        (refine S_want (by rfl) ?_; refine W_len (by first | rfl | assumption) ?_)
        (refine S_want (by rfl) ?_; refine W_call hS (by rfl) (rHeight_c H (Nd.items h x).length (by omega)) ?_); rintro v H w hG' rfl; replace hG := hG.trans hG'; replace hS := hG'.sub; replace ht := ht.mono hG'.le; replace hx := hx.mono hG'.le; replace hrow := hrow.mono hG'.le; clear hG'
        generalize refH (Nd.items h x).length = rr at *
        (refine S_want (by rfl) ?_; refine W_gtrF (by first | rfl | assumption) (by first | rfl | assumption) (by first | omega | rfl) ?_; refine S_op ?_; refine W_pickF (by first | rfl | assumption) (by first | rfl | assumption) ?_; refine S_nil ?_; refine CW_false (by first | rfl | assumption) ?_; refine CW_skip ?_; refine CW_seq ?_; refine CW_seq ?_; refine CW_region rfl ?_; refine S_op ?_; refine W_assignInt (by first | rfl | assumption) ?_; refine S_nil ?_; refine CW_block ?_)
        have hG0 := hG
        refine CW_loopM [4, 7, 8, 9, 10, 11, 12, 61, 62, 63, 64, 65, 66, 67, 68, 69, 70, 71, 72, 73, 74, 75, 76, 77, 78, 79, 80, 81, 82, 83, 84, 85, 86, 87, 88, 89, 90, 91, 92, 93, 94, 95, 96, 97, 98, 99, 100, 101, 102, 103, 104, 105, 106, 107]
          (fun m u w2 => ∃ (i j : Nat) (y : Nd j) (pre : List Value) (H2 : HF), u 7 = .int .i64 (i : Int) ∧ Grow H w H2 w2 ∧ NodeAt H2 j y ∧ pre ++ Nd.pathL j y key = Nd.pathL h x key ∧ pre.length + 1 = i ∧ i + j = h + 1 ∧ j ≤ m)
          (m := h) ⟨1, h, x, [], H, rfl, Grow.refl hS, hx, rfl, rfl, by omega, Nat.le_refl _⟩ ?_
        rintro m u w2 ⟨i, j, y, pre, H2, h7, hG2, hy, hpre, hpi, hij, hm⟩
        replace hG := hG0.trans hG2
        replace hS := hG2.sub
        replace hrow := hrow.mono hG2.le
        by_cases hlt : i < h + 1
        · obtain ⟨j, rfl⟩ : ∃ k, j = k + 1 := ⟨j - 1, by omega⟩
          have hq1 : i - 1 < h + 1 := by omega
          have hga : (Nd.pathL h x key)[(i - 1) * 1]? = some y.ptr := by
            rw [← hpre, Nat.mul_one, show i - 1 = pre.length by omega]
            simp [Nd.pathL]
          obtain ⟨r1, hr1⟩ := path_head (Nd.kidOf y key) key
          have hgb : (Nd.pathL h x key)[i * 1]? = some (Nd.kidOf y key).ptr := by
            rw [← hpre, Nat.mul_one, ← hpi, Nd.pathL, hr1]
            simp
          have hqk := Nd.kidAt_lt hy.ok key
          have hko : y.kids[Nd.kidAt y.kids key] = Nd.kidOf y key := by simp [Nd.kidOf, hqk]
          have hz := hy.kids _ (Nd.kidOf_mem hy.ok key)
          generalize hzz : Nd.kidOf y key = z at *
          have hy2 := hy.ok.1
          have hy6 := hy.ok.2.1
          (refine CW_seq ?_; refine CW_seq ?_; refine CW_region rfl ?_; refine S_op ?_; refine W_moveInt (by first | rfl | assumption) ?_; refine S_op ?_; refine W_moveSl (by first | rfl | assumption) ?_; refine S_op ?_; refine W_len (by first | rfl | assumption) ?_; refine S_op ?_; refine W_lssT (by first | rfl | assumption) (by first | rfl | assumption) (by first | omega | rfl) ?_; refine S_nil ?_; refine CW_true (by first | rfl | assumption) ?_; refine CW_skip ?_; refine CW_seq ?_; refine CW_block ?_; refine CW_seq ?_; refine CW_region rfl ?_; refine S_op ?_; refine W_moveSl (by first | rfl | assumption) ?_; refine S_op ?_; refine W_moveInt (by first | rfl | assumption) ?_; refine S_op ?_; refine W_sub1 (by first | rfl | assumption) (by omega) (by omega) ?_; refine S_op ?_; refine W_index (by first | rfl | assumption) (by first | rfl | assumption) (by first | assumption | omega | decide) (by first | rfl | assumption) ?_)
          refine S_op (W_loadRow (j := (i - 1) * 1) (by rfl) hrow hga hS ?_)
          skip
          refine S_op ?_
          refine W_call hS (by rfl) (kids_c hy) ?_
          rintro v H3 w3 hG3 ⟨B, d, rfl, hd, hksl, _⟩
          replace hG := hG.trans hG3
          replace hG2 := hG2.trans hG3
          replace hS := hG3.sub
          replace hy := hy.mono hG3.le
          replace hz := hz.mono hG3.le
          replace hrow := hrow.mono hG3.le
          (refine S_op ?_; refine W_assignSl (by first | rfl | assumption) ?_; refine S_nil ?_; refine CW_seq ?_; refine CW_region rfl ?_; refine S_op ?_; refine W_assignInt (by first | rfl | assumption) ?_; refine S_nil ?_; refine CW_seq ?_; refine CW_seq ?_; refine CW_region rfl ?_; refine S_op ?_; refine W_moveSl (by first | rfl | assumption) ?_; refine S_op ?_; refine W_len (by first | rfl | assumption) ?_; refine S_op ?_; refine W_moveInt (by first | rfl | assumption) ?_; refine S_nil ?_; refine CW_block ?_)
          refine CW_loopM [9, 10, 11, 12, 75, 76, 77, 78, 79, 80, 81, 82, 83, 84, 85, 86, 87, 88, 89, 90, 91, 92, 93, 94]
            (fun m u w4 => ∃ (q p : Nat) (a : Int) (H4 : HF), u 75 = .int .i64 (q : Int) ∧ u 9 = .int .i64 a ∧ (0 < q → a = (p : Int)) ∧ (q = 0 → p = 0) ∧ Grow H3 w3 H4 w4 ∧ q ≤ y.kids.length ∧ y.kids.length - q ≤ m ∧ Nd.kidGo key (y.kids.drop q) q p = Nd.kidAt y.kids key)
            (m := y.kids.length) ⟨0, 0, -1, H3, rfl, rfl, (fun h => absurd h (by omega)), fun _ => rfl, Grow.refl hS, by omega, by omega, rfl⟩ ?_
          rintro m4 u4 w4 ⟨q, p, a, H4, h75, h9, hap, hp0, hG4, hq, hm4, hkg⟩
          have hG5 := hG.trans hG4
          replace hS := hG4.sub
          replace hksl := hksl.mono hG4.le
          replace hy := hy.mono hG4.le
          replace hz := hz.mono hG4.le
          replace hrow := hrow.mono hG4.le
          by_cases hqq : q < y.kids.length
          · obtain ⟨b9, off9, hA9, hrow9⟩ := slAt_some hksl hqq
            have hgk := ptr_get hqq
            have hyk := hy.kids y.kids[q] (List.getElem_mem _)
            rw [List.drop_eq_getElem_cons hqq] at hkg
            simp only [Nd.kidGo] at hkg
            by_cases hq00 : q = 0
            · have hpz := hp0 hq00
              subst hq00
              rw [hpz, show (if slt key y.kids[0].lo = true then 0 else 0) = 0 by split <;> rfl] at hkg
              (refine CW_seq ?_; refine CW_region rfl ?_; refine S_op ?_; refine W_lssT (by first | rfl | assumption) (by first | rfl | assumption) (by first | omega | rfl) ?_; refine S_nil ?_; refine CW_seq ?_; refine CW_true (by first | rfl | assumption) ?_; refine CW_skip ?_; refine CW_seq ?_; refine CW_block ?_; refine CW_seq ?_; refine CW_region rfl ?_; refine S_op ?_; refine W_moveInt (by first | rfl | assumption) ?_; refine S_op ?_; refine W_assignInt (by first | rfl | assumption) ?_; refine S_nil ?_; refine CW_seq ?_; refine CW_region rfl ?_; refine S_op ?_; refine W_moveSl (by first | rfl | assumption) ?_; refine S_op ?_; refine W_moveInt (by first | rfl | assumption) ?_; refine S_op ?_; refine W_index (by first | rfl | assumption) (by first | rfl | assumption) (by first | assumption | omega | decide) (by first | rfl | assumption) ?_)
              refine S_op (W_loadRow (by rfl) hrow9 hgk hS ?_)
              skip
              refine S_op ?_
              refine W_call hS (by rfl) (ends_c hyk) ?_
              rintro v H6 w6 hG6 rfl
              (refine S_op ?_; refine W_moveTup (by first | rfl | assumption) ?_; refine S_op ?_; refine W_extract (by first | rfl | assumption) (by rfl) ?_; refine S_op ?_; refine W_extract (by first | rfl | assumption) (by rfl) ?_; refine S_op ?_; refine W_assignStr (by first | rfl | assumption) ?_; refine S_op ?_; refine W_assignStr (by first | rfl | assumption) ?_; refine S_nil ?_; refine CW_seq ?_; refine CW_region rfl ?_; refine S_op ?_; refine W_moveInt (by first | rfl | assumption) ?_; refine S_op ?_; refine W_eqlT (by first | rfl | assumption) (by first | rfl | assumption) (by first | omega | rfl) ?_; refine S_op ?_; refine W_moveBool (by first | rfl | assumption) ?_; refine S_pass (by rfl) ?_; refine S_pass (by rfl) ?_; refine S_pass (by rfl) ?_; refine S_op ?_; refine W_pickT (by first | rfl | assumption) (by first | rfl | assumption) ?_; refine S_nil ?_; refine CW_true (by first | rfl | assumption) ?_; refine CW_region rfl ?_; refine S_op ?_; refine W_moveInt (by first | rfl | assumption) ?_; refine S_op ?_; refine W_assignInt (by first | rfl | assumption) ?_; refine S_nil ?_; refine CW_region rfl ?_; refine S_op ?_; refine W_add1 (by first | rfl | assumption) (by omega) ?_; refine S_op ?_; refine W_moveInt (by first | rfl | assumption) ?_; refine S_nil ?_)
              exact ⟨(by repeat (first | exact AgreeOff.over | refine AgreeOff.upd rfl ?_ | refine AgreeOff.over2 rfl ?_)), m4 - 1, by omega, 0 + 1, 0, 0, H6, rfl, rfl, fun _ => rfl, fun _ => rfl, hG4.trans hG6, by omega, by omega, hkg⟩
            · have hqp : 0 < q := by omega
              obtain rfl := hap hqp
              cases hs : slt key y.kids[q].lo with
              | true =>
                rw [hs] at hkg
                (refine CW_seq ?_; refine CW_region rfl ?_; refine S_op ?_; refine W_lssT (by first | rfl | assumption) (by first | rfl | assumption) (by first | omega | rfl) ?_; refine S_nil ?_; refine CW_seq ?_; refine CW_true (by first | rfl | assumption) ?_; refine CW_skip ?_; refine CW_seq ?_; refine CW_block ?_; refine CW_seq ?_; refine CW_region rfl ?_; refine S_op ?_; refine W_moveInt (by first | rfl | assumption) ?_; refine S_op ?_; refine W_assignInt (by first | rfl | assumption) ?_; refine S_nil ?_; refine CW_seq ?_; refine CW_region rfl ?_; refine S_op ?_; refine W_moveSl (by first | rfl | assumption) ?_; refine S_op ?_; refine W_moveInt (by first | rfl | assumption) ?_; refine S_op ?_; refine W_index (by first | rfl | assumption) (by first | rfl | assumption) (by first | assumption | omega | decide) (by first | rfl | assumption) ?_)
                refine S_op (W_loadRow (by rfl) hrow9 hgk hS ?_)
                skip
                refine S_op ?_
                refine W_call hS (by rfl) (ends_c hyk) ?_
                rintro v H6 w6 hG6 rfl
                (refine S_op ?_; refine W_moveTup (by first | rfl | assumption) ?_; refine S_op ?_; refine W_extract (by first | rfl | assumption) (by rfl) ?_; refine S_op ?_; refine W_extract (by first | rfl | assumption) (by rfl) ?_; refine S_op ?_; refine W_assignStr (by first | rfl | assumption) ?_; refine S_op ?_; refine W_assignStr (by first | rfl | assumption) ?_; refine S_nil ?_; refine CW_seq ?_; refine CW_region rfl ?_; refine S_op ?_; refine W_moveInt (by first | rfl | assumption) ?_; refine S_op ?_; refine W_eqlF (by first | rfl | assumption) (by first | rfl | assumption) (by first | omega | rfl) ?_; refine S_op ?_; refine W_moveBool (by first | rfl | assumption) ?_; refine S_want (by rfl) ?_; refine W_moveStr (by first | rfl | assumption) ?_; refine S_want (by rfl) ?_; refine W_moveStr (by first | rfl | assumption) ?_; refine S_want (by rfl) ?_; refine W_sleqB (by first | rfl | assumption) (by first | rfl | assumption) (by assumption) ?_; refine S_op ?_; refine W_pickF (by first | rfl | assumption) (by first | rfl | assumption) ?_; refine S_nil ?_; refine CW_false (by first | rfl | assumption) ?_; refine CW_skip ?_; refine CW_region rfl ?_; refine S_op ?_; refine W_add1 (by first | rfl | assumption) (by omega) ?_; refine S_op ?_; refine W_moveInt (by first | rfl | assumption) ?_; refine S_nil ?_)
                exact ⟨(by repeat (first | exact AgreeOff.over | refine AgreeOff.upd rfl ?_ | refine AgreeOff.over2 rfl ?_)), m4 - 1, by omega, q + 1, p, p, H6, rfl, h9, fun _ => rfl, (fun h => absurd h (by omega)), hG4.trans hG6, by omega, by omega, hkg⟩
              | false =>
                rw [hs] at hkg
                (refine CW_seq ?_; refine CW_region rfl ?_; refine S_op ?_; refine W_lssT (by first | rfl | assumption) (by first | rfl | assumption) (by first | omega | rfl) ?_; refine S_nil ?_; refine CW_seq ?_; refine CW_true (by first | rfl | assumption) ?_; refine CW_skip ?_; refine CW_seq ?_; refine CW_block ?_; refine CW_seq ?_; refine CW_region rfl ?_; refine S_op ?_; refine W_moveInt (by first | rfl | assumption) ?_; refine S_op ?_; refine W_assignInt (by first | rfl | assumption) ?_; refine S_nil ?_; refine CW_seq ?_; refine CW_region rfl ?_; refine S_op ?_; refine W_moveSl (by first | rfl | assumption) ?_; refine S_op ?_; refine W_moveInt (by first | rfl | assumption) ?_; refine S_op ?_; refine W_index (by first | rfl | assumption) (by first | rfl | assumption) (by first | assumption | omega | decide) (by first | rfl | assumption) ?_)
                refine S_op (W_loadRow (by rfl) hrow9 hgk hS ?_)
                skip
                refine S_op ?_
                refine W_call hS (by rfl) (ends_c hyk) ?_
                rintro v H6 w6 hG6 rfl
                (refine S_op ?_; refine W_moveTup (by first | rfl | assumption) ?_; refine S_op ?_; refine W_extract (by first | rfl | assumption) (by rfl) ?_; refine S_op ?_; refine W_extract (by first | rfl | assumption) (by rfl) ?_; refine S_op ?_; refine W_assignStr (by first | rfl | assumption) ?_; refine S_op ?_; refine W_assignStr (by first | rfl | assumption) ?_; refine S_nil ?_; refine CW_seq ?_; refine CW_region rfl ?_; refine S_op ?_; refine W_moveInt (by first | rfl | assumption) ?_; refine S_op ?_; refine W_eqlF (by first | rfl | assumption) (by first | rfl | assumption) (by first | omega | rfl) ?_; refine S_op ?_; refine W_moveBool (by first | rfl | assumption) ?_; refine S_want (by rfl) ?_; refine W_moveStr (by first | rfl | assumption) ?_; refine S_want (by rfl) ?_; refine W_moveStr (by first | rfl | assumption) ?_; refine S_want (by rfl) ?_; refine W_sleqB (by first | rfl | assumption) (by first | rfl | assumption) (by assumption) ?_; refine S_op ?_; refine W_pickF (by first | rfl | assumption) (by first | rfl | assumption) ?_; refine S_nil ?_; refine CW_true (by first | rfl | assumption) ?_; refine CW_region rfl ?_; refine S_op ?_; refine W_moveInt (by first | rfl | assumption) ?_; refine S_op ?_; refine W_assignInt (by first | rfl | assumption) ?_; refine S_nil ?_; refine CW_region rfl ?_; refine S_op ?_; refine W_add1 (by first | rfl | assumption) (by omega) ?_; refine S_op ?_; refine W_moveInt (by first | rfl | assumption) ?_; refine S_nil ?_)
                exact ⟨(by repeat (first | exact AgreeOff.over | refine AgreeOff.upd rfl ?_ | refine AgreeOff.over2 rfl ?_)), m4 - 1, by omega, q + 1, q, q, H6, rfl, rfl, fun _ => rfl, (fun h => absurd h (by omega)), hG4.trans hG6, by omega, by omega, hkg⟩
          · have hap := hap (by omega)
            rw [List.drop_eq_nil_of_le (by omega)] at hkg
            simp only [Nd.kidGo] at hkg
            rw [hap, hkg] at h9
            have hgz := ptr_get hqk
            rw [hko] at hgz
            obtain ⟨b9, off9, hA9, hrow9⟩ := slAt_some hksl hqk
            have hil : i < h + 1 := hlt
            (refine CW_seq ?_; refine CW_region rfl ?_; refine S_op ?_; refine W_lssF (by first | rfl | assumption) (by first | rfl | assumption) (by first | omega | rfl) ?_; refine S_nil ?_; refine CW_seq ?_; refine CW_false (by first | rfl | assumption) ?_; refine CW_exit ?_; refine CW_seq ?_)
            apply CW_region_grow [_, _, _, _, _, _, _, _, _, _, _, _, _] [none, none, none, none, none, none, none, none, none, none, none, none, none] [some 95, some 96, some 97, some 98, some 99, some 100, some 101, some 102, some 103, some 104, some 105, some 106, some 107] [95, 96, 97, 98, 99, 100, 101, 102, 103, 104, 105, 106, 107] mixed rfl rfl rfl rfl (by decide) rfl (by assumption)
            · ((apply steps_cons; case h1 => (apply A_pure; intro c u H' w' hG; have hS' := hG.sub; have hS2' := hG.subOld; (repeat (first | refine depGo_eq rfl rfl rfl ?_ | (refine depGo_fact rfl rfl rfl ?_; intro v hv) | refine depGo_skip rfl ?_ | refine depGo_none rfl ?_)); apply Pure1.mk; intro K hk; exact W_moveInt (by first | rfl | assumption) hk)); (apply steps_cons; case h1 => (apply A_pure; intro c u H' w' hG; have hS' := hG.sub; have hS2' := hG.subOld; (repeat (first | refine depGo_eq rfl rfl rfl ?_ | (refine depGo_fact rfl rfl rfl ?_; intro v hv) | refine depGo_skip rfl ?_ | refine depGo_none rfl ?_)); apply Pure1.mk; intro K hk; exact W_lssF (by first | rfl | assumption) (by first | rfl | assumption) (by first | omega | rfl) hk)); (apply steps_cons; case h1 => (apply A_pure; intro c u H' w' hG; have hS' := hG.sub; have hS2' := hG.subOld; (repeat (first | refine depGo_eq rfl rfl rfl ?_ | (refine depGo_fact rfl rfl rfl ?_; intro v hv) | refine depGo_skip rfl ?_ | refine depGo_none rfl ?_)); apply Pure1.mk; intro K hk; exact W_moveBool (by first | rfl | assumption) hk)); (apply steps_cons; case h1 => (apply A_want; intro c u H' w' hG; have hS' := hG.sub; have hS2' := hG.subOld; (repeat (first | refine depGo_eq rfl rfl rfl ?_ | (refine depGo_fact rfl rfl rfl ?_; intro v hv) | refine depGo_skip rfl ?_ | refine depGo_none rfl ?_)); apply Pure2.mk; (case want => rfl); intro K hk; exact W_moveSl (by first | rfl | assumption) hk)); (apply steps_cons; case h1 => (apply A_want; intro c u H' w' hG; have hS' := hG.sub; have hS2' := hG.subOld; (repeat (first | refine depGo_eq rfl rfl rfl ?_ | (refine depGo_fact rfl rfl rfl ?_; intro v hv) | refine depGo_skip rfl ?_ | refine depGo_none rfl ?_)); apply Pure2.mk; (case want => rfl); intro K hk; exact W_moveInt (by first | rfl | assumption) hk)); (apply steps_cons; case h1 => (apply A_want; intro c u H' w' hG; have hS' := hG.sub; have hS2' := hG.subOld; (repeat (first | refine depGo_eq rfl rfl rfl ?_ | (refine depGo_fact rfl rfl rfl ?_; intro v hv) | refine depGo_skip rfl ?_ | refine depGo_none rfl ?_)); apply Pure2.mk; (case want => rfl); intro K hk; exact W_index (by first | rfl | assumption) (by first | rfl | assumption) (by first | assumption | omega | decide) (by first | rfl | assumption) hk)))
              apply steps_cons; case h1 => (apply A_want; intro c u H' w' hG'; have hS2' := hG'.subOld; (repeat (first | refine depGo_eq rfl rfl rfl ?_ | (refine depGo_fact rfl rfl rfl ?_; intro v hv) | refine depGo_skip rfl ?_ | refine depGo_none rfl ?_)); apply Pure2.mk; (case want => rfl); intro K hk; exact W_loadRow (j := Nd.kidAt y.kids key * 1) (by rfl) hrow9 hgz hS2' hk)
              ((apply steps_cons; case h1 => (apply A_want; intro c u H' w' hG; have hS' := hG.sub; have hS2' := hG.subOld; (repeat (first | refine depGo_eq rfl rfl rfl ?_ | (refine depGo_fact rfl rfl rfl ?_; intro v hv) | refine depGo_skip rfl ?_ | refine depGo_none rfl ?_)); apply Pure2.mk; (case want => rfl); intro K hk; exact W_moveSl (by first | rfl | assumption) hk)); (apply steps_cons; case h1 => (apply A_want; intro c u H' w' hG; have hS' := hG.sub; have hS2' := hG.subOld; (repeat (first | refine depGo_eq rfl rfl rfl ?_ | (refine depGo_fact rfl rfl rfl ?_; intro v hv) | refine depGo_skip rfl ?_ | refine depGo_none rfl ?_)); apply Pure2.mk; (case want => rfl); intro K hk; exact W_moveInt (by first | rfl | assumption) hk)); (apply steps_cons; case h1 => (apply A_want; intro c u H' w' hG; have hS' := hG.sub; have hS2' := hG.subOld; (repeat (first | refine depGo_eq rfl rfl rfl ?_ | (refine depGo_fact rfl rfl rfl ?_; intro v hv) | refine depGo_skip rfl ?_ | refine depGo_none rfl ?_)); apply Pure2.mk; (case want => rfl); intro K hk; exact W_index (by first | rfl | assumption) (by first | rfl | assumption) (by first | assumption | omega | decide) (by first | rfl | assumption) hk)))
              apply steps_cons; case h1 => (apply A_want; intro c u H' w' hG'; have hS2' := hG'.subOld; (repeat (first | refine depGo_eq rfl rfl rfl ?_ | (refine depGo_fact rfl rfl rfl ?_; intro v hv) | refine depGo_skip rfl ?_ | refine depGo_none rfl ?_)); apply Pure2.mk; (case want => rfl); intro K hk; exact W_loadRow (j := i * 1) (by rfl) hrow hgb hS2' hk)
              apply steps_cons; case h1 => (apply A_want; intro c u H' w' hG'; have hS2' := hG'.subOld; (repeat (first | refine depGo_eq rfl rfl rfl ?_ | (refine depGo_fact rfl rfl rfl ?_; intro v hv) | refine depGo_skip rfl ?_ | refine depGo_none rfl ?_)); apply Pure2.mk; (case want => rfl); intro K hk; exact W_trNeqB (s := trOf z) (t := trOf z) (H := H4) (by rfl) (by rfl) hz hz hS2' (sameT_refl _) hk)
              ((apply steps_cons; case h1 => (apply A_pure; intro c u H' w' hG; have hS' := hG.sub; have hS2' := hG.subOld; (repeat (first | refine depGo_eq rfl rfl rfl ?_ | (refine depGo_fact rfl rfl rfl ?_; intro v hv) | refine depGo_skip rfl ?_ | refine depGo_none rfl ?_)); apply Pure1.mk; intro K hk; exact W_pickF (by first | rfl | assumption) (by first | rfl | assumption) hk)); exact trivial)
            · (intro H' w' hG; (repeat (first | refine fin_eq rfl rfl ?_ | (refine fin_fact rfl ?_; intro v hv) | refine fin_none rfl ?_)); refine fin_nil ?_)
              replace hz := hz.mono hG.le
              (refine CW_false (by first | rfl | assumption) ?_; refine CW_skip ?_; refine CW_region rfl ?_; refine S_op ?_; refine W_moveInt (by first | rfl | assumption) ?_; refine S_op ?_; refine W_add1 (by first | rfl | assumption) (by omega) ?_; refine S_op ?_; refine W_assignInt (by first | rfl | assumption) ?_; refine S_nil ?_)
              exact ⟨(by repeat (first | exact AgreeOff.over | refine AgreeOff.upd rfl ?_ | refine AgreeOff.over2 rfl ?_)), m - 1, by omega, i + 1, j, z, pre ++ [y.ptr], H', rfl, (hG2.trans hG4).trans hG, hz, by rw [← hpre, Nd.pathL, hzz]; simp, by simp; omega, by omega, by omega⟩
        · have hj0 : j = 0 := by omega
          have hih : i = h + 1 := by omega
          replace ht := ht.mono hG2.le
          replace hx := hx.mono hG2.le
          have hlk := Nd.look_leaf hx.ok key
          have e1 : lookV (Tr.items (some ⟨h, x⟩)) key = lookV (Nd.leafAt h x key).ents key := by simp only [lookV, Tr.items, hlk]
          have e2 : lookB (Tr.items (some ⟨h, x⟩)) key = lookB (Nd.leafAt h x key).ents key := by simp only [lookB, Tr.items, hlk]
          have hlast := Nd.path_last x key
          have hat := hx.leafAt key
          have hlr := (Nd.ok_len hat.ok).2
          have hq : h + 1 - 1 < h + 1 := by omega
          replace hlast : (Nd.pathL h x key)[(h + 1 - 1) * 1]? = some (Nd.leafAt h x key).ptr := by simpa using hlast
          (refine CW_seq ?_; refine CW_seq ?_; refine CW_region rfl ?_; refine S_op ?_; refine W_moveInt (by first | rfl | assumption) ?_; refine S_op ?_; refine W_moveSl (by first | rfl | assumption) ?_; refine S_op ?_; refine W_len (by first | rfl | assumption) ?_; refine S_op ?_; refine W_lssF (by first | rfl | assumption) (by first | rfl | assumption) (by first | omega | rfl) ?_; refine S_nil ?_; refine CW_false (by first | rfl | assumption) ?_; refine CW_exit ?_; refine CW_seq ?_; refine CW_region rfl ?_; refine S_op ?_; refine W_movePtr (by first | rfl | assumption) ?_; refine S_op ?_; refine W_moveStr (by first | rfl | assumption) ?_)
          (refine S_op ?_; refine W_call hS (by rfl) (tGet_c key ht (by show (Nd.items h x).length ≤ _; omega)) ?_); rintro v H w hG' rfl; replace hG := hG.trans hG'; replace hS := hG'.sub; replace hrow := hrow.mono hG'.le; replace hat := hat.mono hG'.le; clear hG'
          rw [e1, e2]
          generalize Nd.leafAt h x key = z at *
          have hzl : z.ents.length ≤ 4 := by have := hat.ok; simp only [Nd.Ok, leafB, Bool.and_eq_true, decide_eq_true_eq] at this; omega
          (refine S_op ?_; refine W_moveTup (by first | rfl | assumption) ?_; refine S_op ?_; refine W_extract (by first | rfl | assumption) (by rfl) ?_; refine S_op ?_; refine W_extract (by first | rfl | assumption) (by rfl) ?_; refine S_op ?_; refine W_assignStr (by first | rfl | assumption) ?_; refine S_op ?_; refine W_assignBool (by first | rfl | assumption) ?_; refine S_nil ?_; refine CW_seq ?_; refine CW_seq ?_; refine CW_region rfl ?_; refine S_op ?_; refine W_moveSl (by first | rfl | assumption) ?_; refine S_op ?_; refine W_len (by first | rfl | assumption) ?_; refine S_op ?_; refine W_eqlF (by first | rfl | assumption) (by first | rfl | assumption) (by first | omega | rfl) ?_; refine S_nil ?_; refine CW_false (by first | rfl | assumption) ?_; refine CW_skip ?_; refine CW_seq ?_; refine CW_region rfl ?_; refine S_op ?_; refine W_moveSl (by first | rfl | assumption) ?_; refine S_op ?_; refine W_moveSl (by first | rfl | assumption) ?_; refine S_op ?_; refine W_len (by first | rfl | assumption) ?_; refine S_op ?_; refine W_sub1 (by first | rfl | assumption) (by omega) (by omega) ?_; refine S_op ?_; refine W_index (by first | rfl | assumption) (by first | rfl | assumption) (by first | assumption | omega | decide) (by first | rfl | assumption) ?_)
          refine S_op (W_loadRow (j := (h + 1 - 1) * 1) (by rfl) hrow hlast hS ?_)
          skip
          (refine S_op ?_; refine W_call hS (by rfl) (entries_c hat) ?_); rintro v H w hG' ⟨A6, c6, rfl, hc6, hl6⟩; replace hG := hG.trans hG'; replace hS := hG'.sub; replace hrow := hrow.mono hG'.le; replace hat := hat.mono hG'.le; clear hG'
          have hl6 : EntsAt H A6 z.ents := hl6
          rw [show Nd.own 0 z = z.ents from rfl]
          (refine S_op ?_; refine W_moveStr (by first | rfl | assumption) ?_)
          (refine S_op ?_; refine W_call hS (by rfl) (rGet_c H A6 c6 z.ents key hl6 hlr (by omega)) ?_); rintro v H w hG' rfl; replace hG := hG.trans hG'; replace hS := hG'.sub; replace hrow := hrow.mono hG'.le; replace hat := hat.mono hG'.le; clear hG'
          cases hlb : lookB z.ents key with
          | false =>
            (refine S_op ?_; refine W_moveTup (by first | rfl | assumption) ?_; refine S_op ?_; refine W_extract (by first | rfl | assumption) (by rfl) ?_; refine S_op ?_; refine W_extract (by first | rfl | assumption) (by rfl) ?_; refine S_op ?_; refine W_assignStr (by first | rfl | assumption) ?_; refine S_op ?_; refine W_assignBool (by first | rfl | assumption) ?_; refine S_nil ?_; refine CW_seq ?_; refine CW_region rfl ?_; refine S_op ?_; refine W_moveStr (by first | rfl | assumption) ?_; refine S_op ?_; refine W_moveStr (by first | rfl | assumption) ?_; refine S_op ?_; refine W_seqlT (by first | rfl | assumption) (by first | rfl | assumption) (by first | assumption | rfl) ?_; refine S_op ?_; refine W_moveBool (by first | rfl | assumption) ?_; refine S_want (by rfl) ?_; refine W_moveBool (by first | rfl | assumption) ?_; refine S_want (by rfl) ?_; refine W_moveBool (by first | rfl | assumption) ?_; refine S_want (by rfl) ?_; refine W_beqlT (by first | rfl | assumption) (by first | rfl | assumption) (by first | rfl | assumption) ?_; refine S_op ?_; refine W_pickT (by first | rfl | assumption) (by first | rfl | assumption) ?_; refine S_op ?_; refine W_moveBool (by first | rfl | assumption) ?_; refine S_want (by rfl) ?_; refine W_moveSl (by first | rfl | assumption) ?_; refine S_want (by rfl) ?_; refine W_moveSl (by first | rfl | assumption) ?_; refine S_want (by rfl) ?_; refine W_len (by first | rfl | assumption) ?_; refine S_want (by rfl) ?_; refine W_sub1 (by first | rfl | assumption) (by omega) (by omega) ?_; refine S_want (by rfl) ?_; refine W_index (by first | rfl | assumption) (by first | rfl | assumption) (by first | assumption | omega | decide) (by first | rfl | assumption) ?_)
            refine S_want (by rfl) ?_
            refine W_loadRow (j := (h + 1 - 1) * 1) (by rfl) hrow hlast hS ?_
            skip
            (refine S_want (by rfl) ?_; refine W_call hS (by rfl) (kids_leaf hat) ?_); rintro v H w hG' rfl; replace hG := hG.trans hG'; replace hS := hG'.sub; clear hG'
            (refine S_want (by rfl) ?_; refine W_len (by first | rfl | assumption) ?_; refine S_want (by rfl) ?_; refine W_eqlT (by first | rfl | assumption) (by first | rfl | assumption) (by first | omega | rfl) ?_; refine S_op ?_; refine W_pickT (by first | rfl | assumption) (by first | rfl | assumption) ?_; refine S_op ?_; refine W_assignBool (by first | rfl | assumption) ?_; refine S_nil ?_; refine CW_ret ?_)
            exact ⟨_, ResW_one (v := .bool _) rfl, H, hG, rfl⟩
          | true =>
            (refine S_op ?_; refine W_moveTup (by first | rfl | assumption) ?_; refine S_op ?_; refine W_extract (by first | rfl | assumption) (by rfl) ?_; refine S_op ?_; refine W_extract (by first | rfl | assumption) (by rfl) ?_; refine S_op ?_; refine W_assignStr (by first | rfl | assumption) ?_; refine S_op ?_; refine W_assignBool (by first | rfl | assumption) ?_; refine S_nil ?_; refine CW_seq ?_; refine CW_region rfl ?_; refine S_op ?_; refine W_moveStr (by first | rfl | assumption) ?_; refine S_op ?_; refine W_moveStr (by first | rfl | assumption) ?_; refine S_op ?_; refine W_seqlT (by first | rfl | assumption) (by first | rfl | assumption) (by first | assumption | rfl) ?_; refine S_op ?_; refine W_moveBool (by first | rfl | assumption) ?_; refine S_want (by rfl) ?_; refine W_moveBool (by first | rfl | assumption) ?_; refine S_want (by rfl) ?_; refine W_moveBool (by first | rfl | assumption) ?_; refine S_want (by rfl) ?_; refine W_beqlT (by first | rfl | assumption) (by first | rfl | assumption) (by first | rfl | assumption) ?_; refine S_op ?_; refine W_pickT (by first | rfl | assumption) (by first | rfl | assumption) ?_; refine S_op ?_; refine W_moveBool (by first | rfl | assumption) ?_; refine S_want (by rfl) ?_; refine W_moveSl (by first | rfl | assumption) ?_; refine S_want (by rfl) ?_; refine W_moveSl (by first | rfl | assumption) ?_; refine S_want (by rfl) ?_; refine W_len (by first | rfl | assumption) ?_; refine S_want (by rfl) ?_; refine W_sub1 (by first | rfl | assumption) (by omega) (by omega) ?_; refine S_want (by rfl) ?_; refine W_index (by first | rfl | assumption) (by first | rfl | assumption) (by first | assumption | omega | decide) (by first | rfl | assumption) ?_)
            refine S_want (by rfl) ?_
            refine W_loadRow (j := (h + 1 - 1) * 1) (by rfl) hrow hlast hS ?_
            skip
            (refine S_want (by rfl) ?_; refine W_call hS (by rfl) (kids_leaf hat) ?_); rintro v H w hG' rfl; replace hG := hG.trans hG'; replace hS := hG'.sub; clear hG'
            (refine S_want (by rfl) ?_; refine W_len (by first | rfl | assumption) ?_; refine S_want (by rfl) ?_; refine W_eqlT (by first | rfl | assumption) (by first | rfl | assumption) (by first | omega | rfl) ?_; refine S_op ?_; refine W_pickT (by first | rfl | assumption) (by first | rfl | assumption) ?_; refine S_op ?_; refine W_assignBool (by first | rfl | assumption) ?_; refine S_nil ?_; refine CW_ret ?_)
            exact ⟨_, ResW_one (v := .bool _) rfl, H, hG, rfl⟩
end Go.Proofs.Ytlkbdgfipdeloaa
