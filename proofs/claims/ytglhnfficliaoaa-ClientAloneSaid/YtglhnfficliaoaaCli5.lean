/- Clients are made; awake; the reference's Check. Conditions: none. -/
import Derived.Test.YtglhnfficliaoaaOp16
namespace Go.Proofs.Ytglhnfficliaoaa
open Go.Proofs Go.RowKit
set_option linter.unusedVariables false
attribute [local irreducible] CW CWD SeqW OpW
set_option maxHeartbeats 4000000
theorem Sys.low {H : HF} {w : World} {B B' n mb g : Nat} {bs : Nat → Nat} {ks : Nat → Cl} {t : Tr} {s c : Nat} (h : Sys H w B n mb g bs ks t s c) (hb : B' ≤ B) : Sys H w B' n mb g bs ks t s c :=
  ⟨h.mem, h.tree, h.cl, h.good, ⟨Nat.le_trans hb h.ownM.1, Nat.le_trans hb h.ownM.2⟩, fun q hq => ⟨Nat.le_trans hb (h.own q hq).1, (h.own q hq).2⟩, h.dist⟩
theorem sys_new {H : HF} {w : World} {B : Nat} (hS : Sub H w) (hB : B ≤ w.heap.size) (bs : Nat → Nat) (ks : Nat → Cl) : CallW Try.prog 11 #[.int .i64 1] w fun v w' => ∃ mb g, v = .pointer (some ⟨mb, 0, none⟩) ∧ Grow H w H w' ∧ Sys H w' B 0 mb g bs ks none 0 0 := by
  refine (new_Tr H w hS 1).mono ?_
  rintro v w' ⟨mb, g, rfl, hG, h1, h2, hm⟩
  refine ⟨mb, g, rfl, hG, ⟨hm, TreeAt.nil, fun q hq => absurd hq (by omega), fun q hq => absurd hq (by omega), ⟨by omega, by omega⟩, fun q hq => absurd hq (by omega), fun p q hp => absurd hp (by omega)⟩⟩
def setB (bs : Nat → Nat) (q b : Nat) : Nat → Nat := fun i => if i = q then b else bs i
theorem setB_same (bs : Nat → Nat) (q b : Nat) : setB bs q b q = b := by simp [setB]
theorem setB_other {bs : Nat → Nat} {q i b : Nat} (h : i ≠ q) : setB bs q b i = bs i := by simp [setB, h]
theorem sys_add {H : HF} {w : World} {B n mb g : Nat} {bs : Nat → Nat} {ks : Nat → Cl} {t : Tr} {s c : Nat} (hS : Sub H w) (hB : B ≤ w.heap.size) (h : Sys H w B n mb g bs ks t s c) :
    CallW Try.prog 15 [.pointer (some ⟨mb, 0, none⟩)].toArray w fun v w' => ∃ b, v = .pointer (some ⟨b, 0, none⟩) ∧ Grow H w H w' ∧ Sys H w' B (n + 1) mb g (setB bs n b) (setF ks n cl0) t s c := by
  refine (cliNew_c (.pointer (some ⟨mb, 0, none⟩)) rfl w hS).mono ?_
  rintro v w' ⟨b, rfl, hG, hb, hcl⟩
  have h2 := h.grow hG
  refine ⟨b, rfl, hG, ⟨h2.mem, h2.tree, fun q hq => ?_, fun q hq => ?_, h2.ownM, fun q hq => ?_, fun p q hp hq hne => ?_⟩⟩
  · by_cases e : q = n
    · subst e; rw [setF_same, setB_same]; exact hcl
    · rw [setF_other e, setB_other e]; exact h2.cl q (by omega)
  · by_cases e : q = n
    · subst e; rw [setF_same]; exact ClGood.zero H
    · rw [setF_other e]; exact h2.good q (by omega)
  · by_cases e : q = n
    · subst e
      rw [setB_same]
      have h3 := h.lt (.inl rfl)
      have h4 := h.lt (.inr (.inl rfl))
      exact ⟨by omega, by omega, by omega⟩
    · rw [setB_other e]; exact h2.own q (by omega)
  · have hlt : ∀ i, i < n → bs i ≠ b := fun i hi => by have := h.lt (.inr (.inr ⟨i, hi, rfl⟩)); omega
    by_cases e : p = n
    · by_cases e2 : q = n
      · omega
      · rw [e, setB_same, setB_other e2]; exact (hlt q (by omega)).symm
    · by_cases e2 : q = n
      · rw [e2, setB_same, setB_other e]; exact hlt p (by omega)
      · rw [setB_other e, setB_other e2]; exact h2.dist p q (by omega) (by omega) hne
theorem setF_at {ks : Nat → Cl} {q : Nat} {k : Cl} : ∃ z, z = setF ks q k ∧ z q = k := ⟨_, rfl, setF_same _ _ _⟩
theorem rCheck_c (H : HF) (x : Call) : Fn Try.prog 22 [.agg (callCells x).toArray] H fun v _ => v = .int .i64 (checkE x : Nat) := by
  obtain ⟨kd, key, val⟩ := x
  show Fn Try.prog 22 [.agg #[.int .i64 kd, .string key, .string val]] H _
  refine Fn_of_CW Try.func22 rfl Try.ntmps22 Try.results22 rfl fun w hS => ?_; have hG := Grow.refl hS; have hS0 := hS
  (refine CW_seq ?_; refine CW_region rfl ?_)
  (refine S_op (W_boxAgg hS (by rfl) ?_)); intro H w _ hG' hx; replace hG := hG.trans hG'; replace hS := hG'.sub; clear hG'
  by_cases h1 : kd < 1
  · (refine S_op ?_; refine W_assignInt (by first | rfl | assumption) ?_; refine S_nil ?_; refine CW_seq ?_; refine CW_seq ?_; refine CW_region rfl ?_; refine S_op ?_; refine W_field (by first | rfl | assumption) ?_; refine S_op ?_; refine W_loadHL (by first | rfl | assumption) (by assumption) (by rfl) (by assumption) ?_; refine S_op ?_; refine W_lssT (by first | rfl | assumption) (by first | rfl | assumption) (by first | omega | rfl) ?_; refine S_op ?_; refine W_moveBool (by first | rfl | assumption) ?_; refine S_pass (by rfl) ?_; refine S_pass (by rfl) ?_; refine S_pass (by rfl) ?_; refine S_op ?_; refine W_pickT (by first | rfl | assumption) (by first | rfl | assumption) ?_; refine S_nil ?_; refine CW_true (by first | rfl | assumption) ?_; refine CW_seq ?_; refine CW_region rfl ?_; refine S_op ?_; refine W_assignInt (by first | rfl | assumption) ?_; refine S_nil ?_; refine CW_ret ?_)
    exact ⟨_, ResW_one (v := .int _ _) rfl, H, hG, by simp [checkE, h1]⟩
  by_cases h5 : 5 < kd
  · (refine S_op ?_; refine W_assignInt (by first | rfl | assumption) ?_; refine S_nil ?_; refine CW_seq ?_; refine CW_seq ?_; refine CW_region rfl ?_; refine S_op ?_; refine W_field (by first | rfl | assumption) ?_; refine S_op ?_; refine W_loadHL (by first | rfl | assumption) (by assumption) (by rfl) (by assumption) ?_; refine S_op ?_; refine W_lssF (by first | rfl | assumption) (by first | rfl | assumption) (by first | omega | rfl) ?_; refine S_op ?_; refine W_moveBool (by first | rfl | assumption) ?_; refine S_want (by rfl) ?_; refine W_field (by first | rfl | assumption) ?_; refine S_want (by rfl) ?_; refine W_loadHL (by first | rfl | assumption) (by assumption) (by rfl) (by assumption) ?_; refine S_want (by rfl) ?_; refine W_gtrT (by first | rfl | assumption) (by first | rfl | assumption) (by first | omega | rfl) ?_; refine S_op ?_; refine W_pickF (by first | rfl | assumption) (by first | rfl | assumption) ?_; refine S_nil ?_; refine CW_true (by first | rfl | assumption) ?_; refine CW_seq ?_; refine CW_region rfl ?_; refine S_op ?_; refine W_assignInt (by first | rfl | assumption) ?_; refine S_nil ?_; refine CW_ret ?_)
    exact ⟨_, ResW_one (v := .int _ _) rfl, H, hG, by simp [checkE, h5]⟩
  have hno : ¬ (kd < 1 ∨ 5 < kd) := by omega
  by_cases k2 : kd = 2
  · skip
    (refine S_op ?_; refine W_assignInt (by first | rfl | assumption) ?_; refine S_nil ?_; refine CW_seq ?_; refine CW_seq ?_; refine CW_region rfl ?_; refine S_op ?_; refine W_field (by first | rfl | assumption) ?_; refine S_op ?_; refine W_loadHL (by first | rfl | assumption) (by assumption) (by rfl) (by assumption) ?_; refine S_op ?_; refine W_lssF (by first | rfl | assumption) (by first | rfl | assumption) (by first | omega | rfl) ?_; refine S_op ?_; refine W_moveBool (by first | rfl | assumption) ?_; refine S_want (by rfl) ?_; refine W_field (by first | rfl | assumption) ?_; refine S_want (by rfl) ?_; refine W_loadHL (by first | rfl | assumption) (by assumption) (by rfl) (by assumption) ?_; refine S_want (by rfl) ?_; refine W_gtrF (by first | rfl | assumption) (by first | rfl | assumption) (by first | omega | rfl) ?_; refine S_op ?_; refine W_pickF (by first | rfl | assumption) (by first | rfl | assumption) ?_; refine S_nil ?_; refine CW_false (by first | rfl | assumption) ?_; refine CW_skip ?_; refine CW_seq ?_; refine CW_region rfl ?_; refine S_op ?_; refine W_field (by first | rfl | assumption) ?_; refine S_op ?_; refine W_loadHL (by first | rfl | assumption) (by assumption) (by rfl) (by assumption) ?_)
    (refine S_op ?_; refine W_call hS (by rfl) (rKey_c H key) ?_); rintro v H w hG' rfl; replace hG := hG.trans hG'; replace hS := hG'.sub; replace hx := hG'.le _ _ hx; clear hG'
    by_cases hk : rKey key = 0
    · (refine S_op ?_; refine W_assignInt (by first | rfl | assumption) ?_; refine S_nil ?_; refine CW_seq ?_; refine CW_seq ?_; refine CW_region rfl ?_; refine S_op ?_; refine W_moveInt (by first | rfl | assumption) ?_; refine S_op ?_; refine W_eqlT (by first | rfl | assumption) (by first | rfl | assumption) (by first | omega | rfl) ?_; refine S_op ?_; refine W_moveBool (by first | rfl | assumption) ?_; refine S_want (by rfl) ?_; refine W_field (by first | rfl | assumption) ?_; refine S_want (by rfl) ?_; refine W_loadHL (by first | rfl | assumption) (by assumption) (by rfl) (by assumption) ?_; refine S_want (by rfl) ?_; refine W_eqlT (by first | rfl | assumption) (by first | rfl | assumption) (by first | omega | rfl) ?_; refine S_want (by rfl) ?_; refine W_moveBool (by first | rfl | assumption) ?_; refine S_pass (by rfl) ?_; refine S_pass (by rfl) ?_; refine S_pass (by rfl) ?_; refine S_want (by rfl) ?_; refine W_pickT (by first | rfl | assumption) (by first | rfl | assumption) ?_; refine S_want (by rfl) ?_; refine W_moveBool (by first | rfl | assumption) ?_; refine S_pass (by rfl) ?_; refine S_pass (by rfl) ?_; refine S_pass (by rfl) ?_; refine S_want (by rfl) ?_; refine W_pickT (by first | rfl | assumption) (by first | rfl | assumption) ?_; refine S_op ?_; refine W_pickT (by first | rfl | assumption) (by first | rfl | assumption) ?_; refine S_nil ?_; refine CW_true (by first | rfl | assumption) ?_; refine CW_region rfl ?_; refine S_op ?_; refine W_field (by first | rfl | assumption) ?_; refine S_op ?_; refine W_loadHL (by first | rfl | assumption) (by assumption) (by rfl) (by assumption) ?_)
      (refine S_op ?_; refine W_call hS (by rfl) (rValue_c H val) ?_); rintro v H w hG' rfl; replace hG := hG.trans hG'; replace hS := hG'.sub; clear hG'
      (refine S_op ?_; refine W_assignInt (by first | rfl | assumption) ?_; refine S_nil ?_; refine CW_seq ?_; refine CW_region rfl ?_; refine S_op ?_; refine W_moveInt (by first | rfl | assumption) ?_; refine S_op ?_; refine W_assignInt (by first | rfl | assumption) ?_; refine S_nil ?_; refine CW_ret ?_)
      exact ⟨_, ResW_one (v := .int _ _) rfl, H, hG, by simp [rKey16_eq, hk, k2]⟩
    · have hk' : ((rKey key : Nat) : Int) ≠ 0 := by omega
      (refine S_op ?_; refine W_assignInt (by first | rfl | assumption) ?_; refine S_nil ?_; refine CW_seq ?_; refine CW_seq ?_; refine CW_region rfl ?_; refine S_op ?_; refine W_moveInt (by first | rfl | assumption) ?_; refine S_op ?_; refine W_eqlF (by first | rfl | assumption) (by first | rfl | assumption) (by first | omega | rfl) ?_; refine S_op ?_; refine W_moveBool (by first | rfl | assumption) ?_; refine S_pass (by rfl) ?_; refine S_pass (by rfl) ?_; refine S_pass (by rfl) ?_; refine S_pass (by rfl) ?_; refine S_passU (by rfl) ?_; refine S_passU (by rfl) ?_; refine S_passU (by rfl) ?_; refine S_pass (by rfl) ?_; refine S_pass (by rfl) ?_; refine S_passU (by rfl) ?_; refine S_passU (by rfl) ?_; refine S_passU (by rfl) ?_; refine S_pass (by rfl) ?_; refine S_op ?_; refine W_pickF (by first | rfl | assumption) (by first | rfl | assumption) ?_; refine S_nil ?_; refine CW_false (by first | rfl | assumption) ?_; refine CW_skip ?_; refine CW_seq ?_; refine CW_region rfl ?_; refine S_op ?_; refine W_moveInt (by first | rfl | assumption) ?_; refine S_op ?_; refine W_assignInt (by first | rfl | assumption) ?_; refine S_nil ?_; refine CW_ret ?_)
      exact ⟨_, ResW_one (v := .int _ _) rfl, H, hG, by simp [rKey16_eq, hk, k2]⟩
  by_cases k4 : kd = 4
  · skip
    (refine S_op ?_; refine W_assignInt (by first | rfl | assumption) ?_; refine S_nil ?_; refine CW_seq ?_; refine CW_seq ?_; refine CW_region rfl ?_; refine S_op ?_; refine W_field (by first | rfl | assumption) ?_; refine S_op ?_; refine W_loadHL (by first | rfl | assumption) (by assumption) (by rfl) (by assumption) ?_; refine S_op ?_; refine W_lssF (by first | rfl | assumption) (by first | rfl | assumption) (by first | omega | rfl) ?_; refine S_op ?_; refine W_moveBool (by first | rfl | assumption) ?_; refine S_want (by rfl) ?_; refine W_field (by first | rfl | assumption) ?_; refine S_want (by rfl) ?_; refine W_loadHL (by first | rfl | assumption) (by assumption) (by rfl) (by assumption) ?_; refine S_want (by rfl) ?_; refine W_gtrF (by first | rfl | assumption) (by first | rfl | assumption) (by first | omega | rfl) ?_; refine S_op ?_; refine W_pickF (by first | rfl | assumption) (by first | rfl | assumption) ?_; refine S_nil ?_; refine CW_false (by first | rfl | assumption) ?_; refine CW_skip ?_; refine CW_seq ?_; refine CW_region rfl ?_; refine S_op ?_; refine W_field (by first | rfl | assumption) ?_; refine S_op ?_; refine W_loadHL (by first | rfl | assumption) (by assumption) (by rfl) (by assumption) ?_)
    (refine S_op ?_; refine W_call hS (by rfl) (rKey_c H key) ?_); rintro v H w hG' rfl; replace hG := hG.trans hG'; replace hS := hG'.sub; replace hx := hG'.le _ _ hx; clear hG'
    by_cases hk : rKey key = 0
    · (refine S_op ?_; refine W_assignInt (by first | rfl | assumption) ?_; refine S_nil ?_; refine CW_seq ?_; refine CW_seq ?_; refine CW_region rfl ?_; refine S_op ?_; refine W_moveInt (by first | rfl | assumption) ?_; refine S_op ?_; refine W_eqlT (by first | rfl | assumption) (by first | rfl | assumption) (by first | omega | rfl) ?_; refine S_op ?_; refine W_moveBool (by first | rfl | assumption) ?_; refine S_want (by rfl) ?_; refine W_field (by first | rfl | assumption) ?_; refine S_want (by rfl) ?_; refine W_loadHL (by first | rfl | assumption) (by assumption) (by rfl) (by assumption) ?_; refine S_want (by rfl) ?_; refine W_eqlF (by first | rfl | assumption) (by first | rfl | assumption) (by first | omega | rfl) ?_; refine S_want (by rfl) ?_; refine W_moveBool (by first | rfl | assumption) ?_; refine S_want (by rfl) ?_; refine W_field (by first | rfl | assumption) ?_; refine S_want (by rfl) ?_; refine W_loadHL (by first | rfl | assumption) (by assumption) (by rfl) (by assumption) ?_; refine S_want (by rfl) ?_; refine W_eqlT (by first | rfl | assumption) (by first | rfl | assumption) (by first | omega | rfl) ?_; refine S_want (by rfl) ?_; refine W_pickF (by first | rfl | assumption) (by first | rfl | assumption) ?_; refine S_want (by rfl) ?_; refine W_moveBool (by first | rfl | assumption) ?_; refine S_pass (by rfl) ?_; refine S_pass (by rfl) ?_; refine S_pass (by rfl) ?_; refine S_want (by rfl) ?_; refine W_pickT (by first | rfl | assumption) (by first | rfl | assumption) ?_; refine S_op ?_; refine W_pickT (by first | rfl | assumption) (by first | rfl | assumption) ?_; refine S_nil ?_; refine CW_true (by first | rfl | assumption) ?_; refine CW_region rfl ?_; refine S_op ?_; refine W_field (by first | rfl | assumption) ?_; refine S_op ?_; refine W_loadHL (by first | rfl | assumption) (by assumption) (by rfl) (by assumption) ?_)
      (refine S_op ?_; refine W_call hS (by rfl) (rValue_c H val) ?_); rintro v H w hG' rfl; replace hG := hG.trans hG'; replace hS := hG'.sub; clear hG'
      (refine S_op ?_; refine W_assignInt (by first | rfl | assumption) ?_; refine S_nil ?_; refine CW_seq ?_; refine CW_region rfl ?_; refine S_op ?_; refine W_moveInt (by first | rfl | assumption) ?_; refine S_op ?_; refine W_assignInt (by first | rfl | assumption) ?_; refine S_nil ?_; refine CW_ret ?_)
      exact ⟨_, ResW_one (v := .int _ _) rfl, H, hG, by simp [rKey16_eq, hk, k4]⟩
    · have hk' : ((rKey key : Nat) : Int) ≠ 0 := by omega
      (refine S_op ?_; refine W_assignInt (by first | rfl | assumption) ?_; refine S_nil ?_; refine CW_seq ?_; refine CW_seq ?_; refine CW_region rfl ?_; refine S_op ?_; refine W_moveInt (by first | rfl | assumption) ?_; refine S_op ?_; refine W_eqlF (by first | rfl | assumption) (by first | rfl | assumption) (by first | omega | rfl) ?_; refine S_op ?_; refine W_moveBool (by first | rfl | assumption) ?_; refine S_pass (by rfl) ?_; refine S_pass (by rfl) ?_; refine S_pass (by rfl) ?_; refine S_pass (by rfl) ?_; refine S_passU (by rfl) ?_; refine S_passU (by rfl) ?_; refine S_passU (by rfl) ?_; refine S_pass (by rfl) ?_; refine S_pass (by rfl) ?_; refine S_passU (by rfl) ?_; refine S_passU (by rfl) ?_; refine S_passU (by rfl) ?_; refine S_pass (by rfl) ?_; refine S_op ?_; refine W_pickF (by first | rfl | assumption) (by first | rfl | assumption) ?_; refine S_nil ?_; refine CW_false (by first | rfl | assumption) ?_; refine CW_skip ?_; refine CW_seq ?_; refine CW_region rfl ?_; refine S_op ?_; refine W_moveInt (by first | rfl | assumption) ?_; refine S_op ?_; refine W_assignInt (by first | rfl | assumption) ?_; refine S_nil ?_; refine CW_ret ?_)
      exact ⟨_, ResW_one (v := .int _ _) rfl, H, hG, by simp [rKey16_eq, hk, k4]⟩
  by_cases k5 : kd = 5
  · skip
    (refine S_op ?_; refine W_assignInt (by first | rfl | assumption) ?_; refine S_nil ?_; refine CW_seq ?_; refine CW_seq ?_; refine CW_region rfl ?_; refine S_op ?_; refine W_field (by first | rfl | assumption) ?_; refine S_op ?_; refine W_loadHL (by first | rfl | assumption) (by assumption) (by rfl) (by assumption) ?_; refine S_op ?_; refine W_lssF (by first | rfl | assumption) (by first | rfl | assumption) (by first | omega | rfl) ?_; refine S_op ?_; refine W_moveBool (by first | rfl | assumption) ?_; refine S_want (by rfl) ?_; refine W_field (by first | rfl | assumption) ?_; refine S_want (by rfl) ?_; refine W_loadHL (by first | rfl | assumption) (by assumption) (by rfl) (by assumption) ?_; refine S_want (by rfl) ?_; refine W_gtrF (by first | rfl | assumption) (by first | rfl | assumption) (by first | omega | rfl) ?_; refine S_op ?_; refine W_pickF (by first | rfl | assumption) (by first | rfl | assumption) ?_; refine S_nil ?_; refine CW_false (by first | rfl | assumption) ?_; refine CW_skip ?_; refine CW_seq ?_; refine CW_region rfl ?_; refine S_op ?_; refine W_field (by first | rfl | assumption) ?_; refine S_op ?_; refine W_loadHL (by first | rfl | assumption) (by assumption) (by rfl) (by assumption) ?_)
    (refine S_op ?_; refine W_call hS (by rfl) (rKey_c H key) ?_); rintro v H w hG' rfl; replace hG := hG.trans hG'; replace hS := hG'.sub; replace hx := hG'.le _ _ hx; clear hG'
    by_cases hk : rKey key = 0
    · (refine S_op ?_; refine W_assignInt (by first | rfl | assumption) ?_; refine S_nil ?_; refine CW_seq ?_; refine CW_seq ?_; refine CW_region rfl ?_; refine S_op ?_; refine W_moveInt (by first | rfl | assumption) ?_; refine S_op ?_; refine W_eqlT (by first | rfl | assumption) (by first | rfl | assumption) (by first | omega | rfl) ?_; refine S_op ?_; refine W_moveBool (by first | rfl | assumption) ?_; refine S_want (by rfl) ?_; refine W_field (by first | rfl | assumption) ?_; refine S_want (by rfl) ?_; refine W_loadHL (by first | rfl | assumption) (by assumption) (by rfl) (by assumption) ?_; refine S_want (by rfl) ?_; refine W_eqlF (by first | rfl | assumption) (by first | rfl | assumption) (by first | omega | rfl) ?_; refine S_want (by rfl) ?_; refine W_moveBool (by first | rfl | assumption) ?_; refine S_want (by rfl) ?_; refine W_field (by first | rfl | assumption) ?_; refine S_want (by rfl) ?_; refine W_loadHL (by first | rfl | assumption) (by assumption) (by rfl) (by assumption) ?_; refine S_want (by rfl) ?_; refine W_eqlF (by first | rfl | assumption) (by first | rfl | assumption) (by first | omega | rfl) ?_; refine S_want (by rfl) ?_; refine W_pickF (by first | rfl | assumption) (by first | rfl | assumption) ?_; refine S_want (by rfl) ?_; refine W_moveBool (by first | rfl | assumption) ?_; refine S_want (by rfl) ?_; refine W_field (by first | rfl | assumption) ?_; refine S_want (by rfl) ?_; refine W_loadHL (by first | rfl | assumption) (by assumption) (by rfl) (by assumption) ?_; refine S_want (by rfl) ?_; refine W_eqlT (by first | rfl | assumption) (by first | rfl | assumption) (by first | omega | rfl) ?_; refine S_want (by rfl) ?_; refine W_pickF (by first | rfl | assumption) (by first | rfl | assumption) ?_; refine S_op ?_; refine W_pickT (by first | rfl | assumption) (by first | rfl | assumption) ?_; refine S_nil ?_; refine CW_true (by first | rfl | assumption) ?_; refine CW_region rfl ?_; refine S_op ?_; refine W_field (by first | rfl | assumption) ?_; refine S_op ?_; refine W_loadHL (by first | rfl | assumption) (by assumption) (by rfl) (by assumption) ?_)
      (refine S_op ?_; refine W_call hS (by rfl) (rValue_c H val) ?_); rintro v H w hG' rfl; replace hG := hG.trans hG'; replace hS := hG'.sub; clear hG'
      (refine S_op ?_; refine W_assignInt (by first | rfl | assumption) ?_; refine S_nil ?_; refine CW_seq ?_; refine CW_region rfl ?_; refine S_op ?_; refine W_moveInt (by first | rfl | assumption) ?_; refine S_op ?_; refine W_assignInt (by first | rfl | assumption) ?_; refine S_nil ?_; refine CW_ret ?_)
      exact ⟨_, ResW_one (v := .int _ _) rfl, H, hG, by simp [rKey16_eq, hk, k5]⟩
    · have hk' : ((rKey key : Nat) : Int) ≠ 0 := by omega
      (refine S_op ?_; refine W_assignInt (by first | rfl | assumption) ?_; refine S_nil ?_; refine CW_seq ?_; refine CW_seq ?_; refine CW_region rfl ?_; refine S_op ?_; refine W_moveInt (by first | rfl | assumption) ?_; refine S_op ?_; refine W_eqlF (by first | rfl | assumption) (by first | rfl | assumption) (by first | omega | rfl) ?_; refine S_op ?_; refine W_moveBool (by first | rfl | assumption) ?_; refine S_pass (by rfl) ?_; refine S_pass (by rfl) ?_; refine S_pass (by rfl) ?_; refine S_pass (by rfl) ?_; refine S_passU (by rfl) ?_; refine S_passU (by rfl) ?_; refine S_passU (by rfl) ?_; refine S_pass (by rfl) ?_; refine S_pass (by rfl) ?_; refine S_passU (by rfl) ?_; refine S_passU (by rfl) ?_; refine S_passU (by rfl) ?_; refine S_pass (by rfl) ?_; refine S_op ?_; refine W_pickF (by first | rfl | assumption) (by first | rfl | assumption) ?_; refine S_nil ?_; refine CW_false (by first | rfl | assumption) ?_; refine CW_skip ?_; refine CW_seq ?_; refine CW_region rfl ?_; refine S_op ?_; refine W_moveInt (by first | rfl | assumption) ?_; refine S_op ?_; refine W_assignInt (by first | rfl | assumption) ?_; refine S_nil ?_; refine CW_ret ?_)
      exact ⟨_, ResW_one (v := .int _ _) rfl, H, hG, by simp [rKey16_eq, hk, k5]⟩
  · (refine S_op ?_; refine W_assignInt (by first | rfl | assumption) ?_; refine S_nil ?_; refine CW_seq ?_; refine CW_seq ?_; refine CW_region rfl ?_; refine S_op ?_; refine W_field (by first | rfl | assumption) ?_; refine S_op ?_; refine W_loadHL (by first | rfl | assumption) (by assumption) (by rfl) (by assumption) ?_; refine S_op ?_; refine W_lssF (by first | rfl | assumption) (by first | rfl | assumption) (by first | omega | rfl) ?_; refine S_op ?_; refine W_moveBool (by first | rfl | assumption) ?_; refine S_want (by rfl) ?_; refine W_field (by first | rfl | assumption) ?_; refine S_want (by rfl) ?_; refine W_loadHL (by first | rfl | assumption) (by assumption) (by rfl) (by assumption) ?_; refine S_want (by rfl) ?_; refine W_gtrF (by first | rfl | assumption) (by first | rfl | assumption) (by first | omega | rfl) ?_; refine S_op ?_; refine W_pickF (by first | rfl | assumption) (by first | rfl | assumption) ?_; refine S_nil ?_; refine CW_false (by first | rfl | assumption) ?_; refine CW_skip ?_; refine CW_seq ?_; refine CW_region rfl ?_; refine S_op ?_; refine W_field (by first | rfl | assumption) ?_; refine S_op ?_; refine W_loadHL (by first | rfl | assumption) (by assumption) (by rfl) (by assumption) ?_)
    (refine S_op ?_; refine W_call hS (by rfl) (rKey_c H key) ?_); rintro v H w hG' rfl; replace hG := hG.trans hG'; replace hS := hG'.sub; replace hx := hG'.le _ _ hx; clear hG'
    by_cases hk : rKey key = 0
    · (refine S_op ?_; refine W_assignInt (by first | rfl | assumption) ?_; refine S_nil ?_; refine CW_seq ?_; refine CW_seq ?_; refine CW_region rfl ?_; refine S_op ?_; refine W_moveInt (by first | rfl | assumption) ?_; refine S_op ?_; refine W_eqlT (by first | rfl | assumption) (by first | rfl | assumption) (by first | omega | rfl) ?_; refine S_op ?_; refine W_moveBool (by first | rfl | assumption) ?_; refine S_want (by rfl) ?_; refine W_field (by first | rfl | assumption) ?_; refine S_want (by rfl) ?_; refine W_loadHL (by first | rfl | assumption) (by assumption) (by rfl) (by assumption) ?_; refine S_want (by rfl) ?_; refine W_eqlF (by first | rfl | assumption) (by first | rfl | assumption) (by first | omega | rfl) ?_; refine S_want (by rfl) ?_; refine W_moveBool (by first | rfl | assumption) ?_; refine S_want (by rfl) ?_; refine W_field (by first | rfl | assumption) ?_; refine S_want (by rfl) ?_; refine W_loadHL (by first | rfl | assumption) (by assumption) (by rfl) (by assumption) ?_; refine S_want (by rfl) ?_; refine W_eqlF (by first | rfl | assumption) (by first | rfl | assumption) (by first | omega | rfl) ?_; refine S_want (by rfl) ?_; refine W_pickF (by first | rfl | assumption) (by first | rfl | assumption) ?_; refine S_want (by rfl) ?_; refine W_moveBool (by first | rfl | assumption) ?_; refine S_want (by rfl) ?_; refine W_field (by first | rfl | assumption) ?_; refine S_want (by rfl) ?_; refine W_loadHL (by first | rfl | assumption) (by assumption) (by rfl) (by assumption) ?_; refine S_want (by rfl) ?_; refine W_eqlF (by first | rfl | assumption) (by first | rfl | assumption) (by first | omega | rfl) ?_; refine S_want (by rfl) ?_; refine W_pickF (by first | rfl | assumption) (by first | rfl | assumption) ?_; refine S_op ?_; refine W_pickT (by first | rfl | assumption) (by first | rfl | assumption) ?_; refine S_nil ?_; refine CW_false (by first | rfl | assumption) ?_; refine CW_skip ?_; refine CW_seq ?_; refine CW_region rfl ?_; refine S_op ?_; refine W_moveInt (by first | rfl | assumption) ?_; refine S_op ?_; refine W_assignInt (by first | rfl | assumption) ?_; refine S_nil ?_; refine CW_ret ?_)
      exact ⟨_, ResW_one (v := .int _ _) rfl, H, hG, by simp [rKey16_eq, hk, k2, k4, k5, hno]⟩
    · have hk' : ((rKey key : Nat) : Int) ≠ 0 := by omega
      (refine S_op ?_; refine W_assignInt (by first | rfl | assumption) ?_; refine S_nil ?_; refine CW_seq ?_; refine CW_seq ?_; refine CW_region rfl ?_; refine S_op ?_; refine W_moveInt (by first | rfl | assumption) ?_; refine S_op ?_; refine W_eqlF (by first | rfl | assumption) (by first | rfl | assumption) (by first | omega | rfl) ?_; refine S_op ?_; refine W_moveBool (by first | rfl | assumption) ?_; refine S_pass (by rfl) ?_; refine S_pass (by rfl) ?_; refine S_pass (by rfl) ?_; refine S_pass (by rfl) ?_; refine S_passU (by rfl) ?_; refine S_passU (by rfl) ?_; refine S_passU (by rfl) ?_; refine S_pass (by rfl) ?_; refine S_pass (by rfl) ?_; refine S_passU (by rfl) ?_; refine S_passU (by rfl) ?_; refine S_passU (by rfl) ?_; refine S_pass (by rfl) ?_; refine S_op ?_; refine W_pickF (by first | rfl | assumption) (by first | rfl | assumption) ?_; refine S_nil ?_; refine CW_false (by first | rfl | assumption) ?_; refine CW_skip ?_; refine CW_seq ?_; refine CW_region rfl ?_; refine S_op ?_; refine W_moveInt (by first | rfl | assumption) ?_; refine S_op ?_; refine W_assignInt (by first | rfl | assumption) ?_; refine S_nil ?_; refine CW_ret ?_)
      exact ⟨_, ResW_one (v := .int _ _) rfl, H, hG, by simp [rKey16_eq, hk, k2, k4, k5, hno]⟩
theorem awake16_c (H0 : HF) : Fn Try.prog 20 [] H0 fun v _ => v = .bool true := by
  refine Fn_of_CW Try.func20 rfl Try.ntmps20 Try.results20 rfl fun w0 hS => ?_; have hG := Grow.refl hS
  obtain ⟨H, hHH⟩ : ∃ H, H = H0 := ⟨_, rfl⟩
  rw [← hHH] at hG hS
  have hG0 : Grow H0 w0 H w0 := by rw [hHH]; exact Grow.refl (by rw [← hHH]; exact hS)
  replace hG := hG0
  clear hG0 hHH
  (refine CW_seq ?_; refine CW_region rfl ?_; refine S_op ?_; refine W_assignBool (by first | rfl | assumption) ?_; refine S_nil ?_; refine CW_seq ?_; refine CW_region rfl ?_)
  refine S_op ?_
  refine W_callW (by rfl) ((sys_new (B := w0.heap.size) hS (Nat.le_refl _) (fun _ => 0) (fun _ => cl0)).mono ?_)
  rintro v w ⟨mb, g, rfl, hG', hy⟩
  replace hG := hG.trans hG'
  replace hS := hG'.sub
  have hsz := hG'.below.size
  clear hG'
  (refine S_op ?_; refine W_assignPtr (by first | rfl | assumption) ?_; refine S_nil ?_; refine CW_seq ?_; refine CW_region rfl ?_; refine S_op ?_; refine W_movePtr (by first | rfl | assumption) ?_)
  refine S_op ?_
  refine W_callW (by rfl) ((sys_add hS hsz hy).mono ?_)
  rintro v w ⟨cb, rfl, hG', hy⟩
  replace hG := hG.trans hG'
  replace hS := hG'.sub
  clear hG' hsz
  have e0 : setB (fun _ => 0) 0 cb 0 = cb := setB_same _ _ _
  obtain ⟨bs, hbs⟩ : ∃ z, z = setB (fun _ => 0) 0 cb := ⟨_, rfl⟩
  rw [← hbs] at hy e0
  subst e0
  obtain ⟨ks, hks, hk⟩ := setF_at (ks := fun _ => cl0) (q := 0) (k := cl0)
  rw [← hks] at hy
  clear hks hbs
  (refine S_op ?_; refine W_assignPtr (by first | rfl | assumption) ?_; refine S_nil ?_; refine CW_seq ?_; refine CW_seq ?_; refine CW_region rfl ?_; refine S_op ?_; refine W_movePtr (by first | rfl | assumption) ?_; refine S_op ?_; refine W_peqnil (by first | rfl | assumption) (by first | rfl | assumption) ?_; refine S_op ?_; refine W_moveBool (by first | rfl | assumption) ?_; refine S_want (by rfl) ?_; refine W_movePtr (by first | rfl | assumption) ?_; refine S_want (by rfl) ?_; refine W_build (by rfl) ?_)
  (have hyg := fun j hj => hy.ge (j := j) hj; refine S_want (by rfl) ?_; refine W_callW (by rfl) ((sys_call (q := 0) hS hy (by decide) (by rw [hk]; rfl) ⟨2, ⟨#[97]⟩, ⟨#[]⟩⟩ (by decide)).mono ?_)); rintro v w ⟨H, hT', rfl, hy⟩; replace hG := Turn.grow hG hT' hyg; replace hS := hG.sub; clear hT' hyg
  rw [hk] at hy
  clear hk
  obtain ⟨ks, hks, hk⟩ := setF_at (ks := ks) (q := 0) (k := { cl0 with x := ⟨2, ⟨#[97]⟩, ⟨#[]⟩⟩, stage := 1, tries := 0 })
  rw [← hks] at hy
  clear hks
  (refine S_want (by rfl) ?_; refine W_neqF (by first | rfl | assumption) (by first | rfl | assumption) (by first | omega | rfl) ?_; refine S_op ?_; refine W_pickF (by first | rfl | assumption) (by first | rfl | assumption) ?_; refine S_op ?_; refine W_moveBool (by first | rfl | assumption) ?_; refine S_want (by rfl) ?_; refine W_movePtr (by first | rfl | assumption) ?_)
  refine S_want (by rfl) ?_
  refine W_callW (by rfl) ((pending_c hS (hy.cl 0 (by decide))).mono ?_)
  rintro v w2 ⟨rfl, rfl⟩
  rw [show decide ((ks 0).stage ≠ 0) = true by simp [hk]]
  (refine S_want (by rfl) ?_; refine W_not (by first | rfl | assumption) ?_; refine S_op ?_; refine W_pickF (by first | rfl | assumption) (by first | rfl | assumption) ?_; refine S_nil ?_; refine CW_false (by first | rfl | assumption) ?_; refine CW_skip ?_; refine CW_seq ?_; refine CW_region rfl ?_; refine S_op ?_; refine W_movePtr (by first | rfl | assumption) ?_)
  (have hyg := fun j hj => hy.ge (j := j) hj; refine S_op ?_; refine W_callW (by rfl) ((sys_step (q := 0) hS hy (by decide) (by rw [hk]; decide) (by omega) (by omega) (by rw [hk]; decide) (by decide)).mono ?_)); rintro v w ⟨H, m, s1, hT', hs1, hmade, hy, rfl⟩; replace hG := Turn.grow hG hT' hyg; replace hS := hG.sub; clear hT' hyg
  have hmd := hmade (by rw [hk])
  rw [hk] at hmd
  have hmi : m.items = [⟨⟨#[97]⟩, ⟨#[]⟩⟩] := by rw [hmd.items]; rfl
  have hmn : sameT m none = false := by
    cases m with
    | none => cases hmi
    | some z => rfl
  have es : stepF (ks 0) none m = ({ cl0 with x := ⟨2, ⟨#[97]⟩, ⟨#[]⟩⟩, stage := 3, tries := 0, old := none, new := m, left := 0, rep := doesR [] ⟨2, ⟨#[97]⟩, ⟨#[]⟩⟩ }, rep0, false) := by
    rw [hk]
    simp [stepF, lookedK, Tr.height, hmn, Tr.items]
  have ew : swaps (ks 0) none = false := by simp [swaps, hk]
  have et : treeF (ks 0) none = none := by simp [treeF, ew]
  rw [es, ew, et] at hy
  rw [es]
  simp only [Bool.false_eq_true, if_false] at hy
  clear es ew et hk hmade
  obtain ⟨ks, hks, hk⟩ := setF_at (ks := ks) (q := 0) (k := { cl0 with x := ⟨2, ⟨#[97]⟩, ⟨#[]⟩⟩, stage := 3, tries := 0, old := none, new := m, left := 0, rep := doesR [] ⟨2, ⟨#[97]⟩, ⟨#[]⟩⟩ })
  rw [← hks] at hy
  clear hks
  (refine S_op ?_; refine W_moveTup (by first | rfl | assumption) ?_; refine S_op ?_; refine W_extract (by first | rfl | assumption) (by rfl) ?_; refine S_op ?_; refine W_extract (by first | rfl | assumption) (by rfl) ?_; refine S_op ?_; refine W_extract (by first | rfl | assumption) (by rfl) ?_)
  (have hyl := fun j hj => hy.lt (j := j) hj; refine S_op (W_alloc hS ?_)); intro w c3b hG' c3h c3; have n_c3 : _ → False := fun hj => absurd (hyl c3b hj) (by omega); replace hy := hy.grow hG'; replace c3h := Nat.le_trans hG.below.size (Nat.le_of_eq c3h); replace hG := hG.trans hG'; replace hS := hG'.sub; clear hG' hyl
  skip
  have hS9 := hS; have ho9 := c3.out; (refine S_op0 (W_storeM (o := 0) (vs := repCells rep0) (by rfl) (by rfl) c3 (by rfl) (OneCells.of_all (by rfl)) (by rfl) (Nat.le_of_ble_eq_true (by rfl)) ?_)); intro w hgb' hm'; replace hG := hG.grownBy hgb' (fun g h => by cases h; exact ⟨c3.out, c3h⟩); replace hS := hG.sub; replace c3 : Mut _ w c3b (repCells rep0) := hm'; clear hm'; skip; replace hy := hy.other hS9 ho9 hgb' n_c3; clear hS9 ho9 hgb'
  (refine S_op ?_; refine W_assignBool (by first | rfl | assumption) ?_; refine S_op ?_; refine W_assignInt (by first | rfl | assumption) ?_; refine S_nil ?_; refine CW_seq ?_; refine CW_region rfl ?_; refine S_op ?_; refine W_movePtr (by first | rfl | assumption) ?_)
  (have hyg := fun j hj => hy.ge (j := j) hj; refine S_op ?_; refine W_callW (by rfl) ((sys_step (q := 0) hS hy (by decide) (by rw [hk]; show (3 : Nat) ≠ 0; omega) (by omega) (by omega) (by rw [hk]; show (0 : Nat) ≤ _; omega) (by decide)).mono ?_)); rintro v w ⟨H, m2, s2, hT', hs2, _, hy, rfl⟩; replace hG := Turn.grow hG hT' hyg; replace hS := hG.sub; replace c3 := c3.turn hT' n_c3; clear hT' hyg
  have es : stepF (ks 0) none m2 = (endK (ks 0), doesR [] ⟨2, ⟨#[97]⟩, ⟨#[]⟩⟩, true) := by
    rw [hk]
    simp [stepF, swapK, sameT]
  have ew : swaps (ks 0) none = true := by rw [hk]; rfl
  rw [es, ew] at hy
  rw [es]
  simp only [if_true] at hy
  (refine S_op ?_; refine W_moveTup (by first | rfl | assumption) ?_; refine S_op ?_; refine W_extract (by first | rfl | assumption) (by rfl) ?_; refine S_op ?_; refine W_extract (by first | rfl | assumption) (by rfl) ?_; refine S_op ?_; refine W_extract (by first | rfl | assumption) (by rfl) ?_)
  (have hyl := fun j hj => hy.lt (j := j) hj; refine S_op (W_alloc hS ?_)); intro w c6b hG' c6h c6; have n_c6 : _ → False := fun hj => absurd (hyl c6b hj) (by omega); have n_c3_c6 : c3b ≠ c6b := (by have h1 := c3.lt; omega); replace hy := hy.grow hG'; replace c3 := c3.grow hG'; replace c6h := Nat.le_trans hG.below.size (Nat.le_of_eq c6h); replace hG := hG.trans hG'; replace hS := hG'.sub; clear hG' hyl
  skip
  have hS9 := hS; have ho9 := c6.out; (refine S_op0 (W_storeM (o := 0) (vs := repCells (doesR [] ⟨2, ⟨#[97]⟩, ⟨#[]⟩⟩)) (by rfl) (by rfl) c6 (by rfl) (OneCells.of_all (by rfl)) (by rfl) (Nat.le_of_ble_eq_true (by rfl)) ?_)); intro w hgb' hm'; replace hG := hG.grownBy hgb' (fun g h => by cases h; exact ⟨c6.out, c6h⟩); replace hS := hG.sub; replace c6 : Mut _ w c6b (repCells (doesR [] ⟨2, ⟨#[97]⟩, ⟨#[]⟩⟩)) := hm'; clear hm'; replace c3 := c3.other hgb' (by intro e2; cases e2; first | exact n_c3_c6 rfl | exact n_c6_c3 rfl); skip; replace hy := hy.other hS9 ho9 hgb' n_c6; clear hS9 ho9 hgb'
  (refine S_op ?_; refine W_assignBool (by first | rfl | assumption) ?_; refine S_op ?_; refine W_assignInt (by first | rfl | assumption) ?_; refine S_nil ?_; refine CW_seq ?_; refine CW_region rfl ?_; refine S_op ?_; refine W_moveBool (by first | rfl | assumption) ?_; refine S_op ?_; refine W_not (by first | rfl | assumption) ?_; refine S_op ?_; refine W_moveBool (by first | rfl | assumption) ?_; refine S_want (by rfl) ?_; refine W_moveBool (by first | rfl | assumption) ?_; refine S_op ?_; refine W_pickT (by first | rfl | assumption) (by first | rfl | assumption) ?_; refine S_op ?_; refine W_moveBool (by first | rfl | assumption) ?_; refine S_want (by rfl) ?_; refine W_movePtr (by first | rfl | assumption) ?_)
  refine S_want (by rfl) ?_
  refine W_callW (by rfl) ((changes_Tr hS hy.mem).mono ?_)
  rintro v w2 ⟨rfl, rfl⟩
  (refine S_want (by rfl) ?_; refine W_eqlT (by first | rfl | assumption) (by first | rfl | assumption) (by first | omega | rfl) ?_; refine S_op ?_; refine W_pickT (by first | rfl | assumption) (by first | rfl | assumption) ?_; refine S_op ?_; refine W_assignBool (by first | rfl | assumption) ?_; refine S_nil ?_; refine CW_ret ?_)
  exact ⟨_, ResW_one (v := .bool _) rfl, H, hG, rfl⟩
end Go.Proofs.Ytglhnfficliaoaa
