/- client.Client: its cells; New, Pending, Tries, check, Call. Conditions: none. -/
import Derived.Test.YtglhnfficliaoaaDoes
import Derived.Test.YtglhnfficliaoaaUniq
import Derived.Test.YtglhnfficliaoaaTurnR
import Derived.Test.YtglhnfficliaoaaTreeC
import Derived.Test.YtglhnfficliaoaaRes
namespace Go.Proofs.Ytglhnfficliaoaa
open Go.Proofs Go.RowKit
set_option linter.unusedVariables false
attribute [local irreducible] CW CWD SeqW OpW
set_option maxHeartbeats 4000000
/-- A client's state: its call, where it stands (0 idle, 1 loading, 2 reading, 3 swapping), how often it began anew, what it read and made, how many nodes are left, the answer. -/
structure Cl where
  x : Call
  stage : Nat
  tries : Nat
  old : Tr
  new : Tr
  left : Nat
  rep : Rep4
  deriving Inhabited
def cliC (M : Value) (k : Cl) : List Value :=
  [M, .int .i64 k.x.kind, .string k.x.key, .string k.x.val, .int .i64 (k.stage : Int), .int .i64 (k.tries : Int), k.old.val, k.new.val, .int .i64 (k.left : Int), .int .i64 k.rep.err, .string k.rep.val, .bool k.rep.yes, .int .i64 k.rep.n]
def rep0 : Rep4 := ⟨0, ⟨#[]⟩, false, 0⟩
def cl0 : Cl := ⟨⟨0, ⟨#[]⟩, ⟨#[]⟩⟩, 0, 0, none, none, 0, rep0⟩
/-- A client of the memory M lies at b. -/
def CliAt (H : HF) (w : World) (b : Nat) (M : Value) (k : Cl) : Prop := Mut H w b (cliC M k)
section
variable {H H' : HF} {w w' : World} {b : Nat} {M : Value} {k : Cl}
theorem CliAt.mut (h : CliAt H w b M k) : Mut H w b (cliC M k) := h
theorem CliAt.lt (h : CliAt H w b M k) : b < w.heap.size := Mut.lt h
theorem CliAt.turn {S : Nat → Prop} (h : CliAt H w b M k) (hT : Turn S H w H' w') (hs : ¬ S b) : CliAt H' w' b M k := Mut.turn h hT hs
theorem CliAt.grow (h : CliAt H w b M k) (hG : Grow H w H' w') : CliAt H' w' b M k := Mut.grow h hG
theorem CliAt.other {row : Option Nat} (h : CliAt H w b M k) (hg : w.grownBy w' row) (hr : row ≠ some b) : CliAt H w' b M k := Mut.other h hg hr
/-- The error's number of a call. -/
def checkE (x : Call) : Nat :=
  if x.kind < 1 ∨ 5 < x.kind then 1 else if rKey x.key ≠ 0 then rKey x.key else if x.kind = 2 ∨ x.kind = 4 ∨ x.kind = 5 then rValue x.val else 0
theorem fill_cl {z : List Value} (hz : z = cliC (.pointer none) cl0) (hM : M.cells = #[M]) : fillL [(0, 1), (1, 3), (4, 1), (5, 1), (6, 1), (7, 1), (8, 1), (9, 4)] z [(0, M)] = some (cliC M cl0) := by
  subst hz
  simp [fillL, hM, splice, cliC]
theorem cliNew_c (M : Value) (hM : M.cells = #[M]) (w : World) (hS : Sub H w) : CallW Try.prog 15 [M].toArray w fun v w' => ∃ b, v = .pointer (some ⟨b, 0, none⟩) ∧ Grow H w H w' ∧ w.heap.size ≤ b ∧ CliAt H w' b M cl0 := by
  refine CallW_of_CW Try.func15 rfl Try.ntmps15 Try.results15 rfl ?_
  have hG := Grow.refl hS
  (refine CW_seq ?_; refine CW_region rfl ?_; refine S_op ?_; refine W_assignPtr (by first | rfl | assumption) ?_; refine S_nil ?_; refine CW_seq ?_; refine CW_region rfl ?_; refine S_op ?_; refine W_move rfl ?_)
  refine S_op ?_
  refine W_build (cs := cliC M cl0) ?_ ?_
  · exact fill_cl rfl hM
  skip
  refine S_op ?_
  refine W_boxM (cs := cliC M cl0) hS (by rfl) (by rfl) ?_
  intro w' b hG' hb hm
  (refine S_op ?_; refine W_assignPtr (by first | rfl | assumption) ?_; refine S_nil ?_; refine CW_ret ?_)
  exact ⟨_, ResW_one (v := .pointer _) rfl, b, rfl, hG', by omega, hm⟩
theorem pending_c (hS : Sub H w) (hc : CliAt H w b M k) : CallW Try.prog 16 [.pointer (some ⟨b, 0, none⟩)].toArray w fun v w' => v = .bool (decide (k.stage ≠ 0)) ∧ w' = w := by
  unfold CliAt at hc
  refine CallW_of_CW Try.func16 rfl Try.ntmps16 Try.results16 rfl ?_
  by_cases h : k.stage = 0
  · (refine CW_seq ?_; refine CW_region rfl ?_; refine S_op ?_; refine W_assignBool (by first | rfl | assumption) ?_; refine S_nil ?_; refine CW_seq ?_; refine CW_region rfl ?_; refine S_op ?_; refine W_movePtr (by first | rfl | assumption) ?_; refine S_op ?_; refine W_pneqnil (by first | rfl | assumption) (by first | rfl | assumption) ?_; refine S_op ?_; refine W_moveBool (by first | rfl | assumption) ?_; refine S_want (by rfl) ?_; refine W_movePtr (by first | rfl | assumption) ?_; refine S_want (by rfl) ?_; refine W_nilCheck (by first | rfl | assumption) ?_; refine S_want (by rfl) ?_; refine W_field (by first | rfl | assumption) ?_; refine S_want (by rfl) ?_; refine W_loadM (by first | rfl | assumption) (by assumption) (by rfl) ?_; refine S_want (by rfl) ?_; refine W_neqF (by first | rfl | assumption) (by first | rfl | assumption) (by first | omega | rfl) ?_; refine S_op ?_; refine W_pickT (by first | rfl | assumption) (by first | rfl | assumption) ?_; refine S_op ?_; refine W_assignBool (by first | rfl | assumption) ?_; refine S_nil ?_; refine CW_ret ?_)
    exact ⟨_, ResW_one (v := .bool _) rfl, by simp [h], rfl⟩
  · (refine CW_seq ?_; refine CW_region rfl ?_; refine S_op ?_; refine W_assignBool (by first | rfl | assumption) ?_; refine S_nil ?_; refine CW_seq ?_; refine CW_region rfl ?_; refine S_op ?_; refine W_movePtr (by first | rfl | assumption) ?_; refine S_op ?_; refine W_pneqnil (by first | rfl | assumption) (by first | rfl | assumption) ?_; refine S_op ?_; refine W_moveBool (by first | rfl | assumption) ?_; refine S_want (by rfl) ?_; refine W_movePtr (by first | rfl | assumption) ?_; refine S_want (by rfl) ?_; refine W_nilCheck (by first | rfl | assumption) ?_; refine S_want (by rfl) ?_; refine W_field (by first | rfl | assumption) ?_; refine S_want (by rfl) ?_; refine W_loadM (by first | rfl | assumption) (by assumption) (by rfl) ?_; refine S_want (by rfl) ?_; refine W_neqT (by first | rfl | assumption) (by first | rfl | assumption) (by first | omega | rfl) ?_; refine S_op ?_; refine W_pickT (by first | rfl | assumption) (by first | rfl | assumption) ?_; refine S_op ?_; refine W_assignBool (by first | rfl | assumption) ?_; refine S_nil ?_; refine CW_ret ?_)
    exact ⟨_, ResW_one (v := .bool _) rfl, by simp [h], rfl⟩
theorem pending_nil (w : World) : CallW Try.prog 16 [.pointer none].toArray w fun v w' => v = .bool false ∧ w' = w := by
  refine CallW_of_CW Try.func16 rfl Try.ntmps16 Try.results16 rfl ?_
  (refine CW_seq ?_; refine CW_region rfl ?_; refine S_op ?_; refine W_assignBool (by first | rfl | assumption) ?_; refine S_nil ?_; refine CW_seq ?_; refine CW_region rfl ?_; refine S_op ?_; refine W_movePtr (by first | rfl | assumption) ?_; refine S_op ?_; refine W_pneqnil (by first | rfl | assumption) (by first | rfl | assumption) ?_; refine S_op ?_; refine W_moveBool (by first | rfl | assumption) ?_; refine S_pass (by rfl) ?_; refine S_pass (by rfl) ?_; refine S_pass (by rfl) ?_; refine S_pass (by rfl) ?_; refine S_pass (by rfl) ?_; refine S_op ?_; refine W_pickF (by first | rfl | assumption) (by first | rfl | assumption) ?_; refine S_op ?_; refine W_assignBool (by first | rfl | assumption) ?_; refine S_nil ?_; refine CW_ret ?_)
  exact ⟨_, ResW_one (v := .bool _) rfl, rfl, rfl⟩
theorem tries_c (hS : Sub H w) (hc : CliAt H w b M k) : CallW Try.prog 21 [.pointer (some ⟨b, 0, none⟩)].toArray w fun v w' => v = .int .i64 ((if k.stage = 0 then 0 else k.tries : Nat) : Int) ∧ w' = w := by
  have hc' := hc
  unfold CliAt at hc
  refine CallW_of_CW Try.func21 rfl Try.ntmps21 Try.results21 rfl ?_
  (refine CW_seq ?_; refine CW_region rfl ?_; refine S_op ?_; refine W_assignInt (by first | rfl | assumption) ?_; refine S_nil ?_; refine CW_seq ?_; refine CW_seq ?_; refine CW_region rfl ?_; refine S_op ?_; refine W_movePtr (by first | rfl | assumption) ?_)
  refine S_op ?_
  refine W_callW (by rfl) ((pending_c hS hc').mono ?_)
  rintro v w2 ⟨rfl, rfl⟩
  by_cases h : k.stage = 0
  · rw [show decide (k.stage ≠ 0) = false by simp [h]]
    (refine S_op ?_; refine W_not (by first | rfl | assumption) ?_; refine S_nil ?_; refine CW_true (by first | rfl | assumption) ?_; refine CW_seq ?_; refine CW_region rfl ?_; refine S_op ?_; refine W_assignInt (by first | rfl | assumption) ?_; refine S_nil ?_; refine CW_ret ?_)
    exact ⟨_, ResW_one (v := .int _ _) rfl, by simp [h], rfl⟩
  · rw [show decide (k.stage ≠ 0) = true by simp [h]]
    (refine S_op ?_; refine W_not (by first | rfl | assumption) ?_; refine S_nil ?_; refine CW_false (by first | rfl | assumption) ?_; refine CW_skip ?_; refine CW_seq ?_; refine CW_region rfl ?_; refine S_op ?_; refine W_movePtr (by first | rfl | assumption) ?_; refine S_op ?_; refine W_nilCheck (by first | rfl | assumption) ?_; refine S_op ?_; refine W_field (by first | rfl | assumption) ?_; refine S_op ?_; refine W_loadM (by first | rfl | assumption) (by assumption) (by rfl) ?_; refine S_op ?_; refine W_assignInt (by first | rfl | assumption) ?_; refine S_nil ?_; refine CW_ret ?_)
    exact ⟨_, ResW_one (v := .int _ _) rfl, by simp [h], rfl⟩
theorem tries_nil (w : World) : CallW Try.prog 21 [.pointer none].toArray w fun v w' => v = .int .i64 0 ∧ w' = w := by
  refine CallW_of_CW Try.func21 rfl Try.ntmps21 Try.results21 rfl ?_
  (refine CW_seq ?_; refine CW_region rfl ?_; refine S_op ?_; refine W_assignInt (by first | rfl | assumption) ?_; refine S_nil ?_; refine CW_seq ?_; refine CW_seq ?_; refine CW_region rfl ?_; refine S_op ?_; refine W_movePtr (by first | rfl | assumption) ?_)
  refine S_op ?_
  refine W_callW (by rfl) ((pending_nil w).mono ?_)
  rintro v w2 ⟨rfl, rfl⟩
  (refine S_op ?_; refine W_not (by first | rfl | assumption) ?_; refine S_nil ?_; refine CW_true (by first | rfl | assumption) ?_; refine CW_seq ?_; refine CW_region rfl ?_; refine S_op ?_; refine W_assignInt (by first | rfl | assumption) ?_; refine S_nil ?_; refine CW_ret ?_)
  exact ⟨_, ResW_one (v := .int _ _) rfl, rfl, rfl⟩
end
section
variable {H : HF}
theorem check_c (H : HF) (x : Call) : Fn Try.prog 40 [.agg (callCells x).toArray] H fun v _ => v = .int .i64 (checkE x : Nat) := by
  obtain ⟨kd, key, val⟩ := x
  show Fn Try.prog 40 [.agg #[.int .i64 kd, .string key, .string val]] H _
  refine Fn_of_CW Try.func40 rfl Try.ntmps40 Try.results40 rfl fun w hS => ?_; have hG := Grow.refl hS; have hS0 := hS
  (refine CW_seq ?_; refine CW_region rfl ?_)
  (refine S_op (W_boxAgg hS (by rfl) ?_)); intro H w _ hG' hx; replace hG := hG.trans hG'; replace hS := hG'.sub; clear hG'
  by_cases k1 : kd = 1
  · (refine S_op ?_; refine W_assignInt (by first | rfl | assumption) ?_; refine S_nil ?_; refine CW_seq ?_; refine CW_seq ?_; refine CW_region rfl ?_; refine S_op ?_; refine W_field (by first | rfl | assumption) ?_; refine S_op ?_; refine W_loadHL (by first | rfl | assumption) (by assumption) (by rfl) (by assumption) ?_; refine S_nil ?_; refine CW_block ?_; refine CW_seq ?_; refine CW_seq ?_; refine CW_region rfl ?_; refine S_op ?_; refine W_eqlT (by first | rfl | assumption) (by first | rfl | assumption) (by first | omega | rfl) ?_; refine S_op ?_; refine W_assignBool (by first | rfl | assumption) ?_; refine S_nil ?_; refine CW_true (by first | rfl | assumption) ?_; refine CW_skip ?_; refine CW_true (by first | rfl | assumption) ?_; refine CW_seq ?_; refine CW_region rfl ?_; refine S_op ?_; refine W_field (by first | rfl | assumption) ?_; refine S_op ?_; refine W_loadHL (by first | rfl | assumption) (by assumption) (by rfl) (by assumption) ?_)
    (refine S_op ?_; refine W_call hS (by rfl) (key_c H key) ?_); rintro v H w hG' rfl; replace hG := hG.trans hG'; replace hS := hG'.sub; clear hG'
    (refine S_op ?_; refine W_assignInt (by first | rfl | assumption) ?_; refine S_nil ?_; refine CW_ret ?_)
    exact ⟨_, ResW_one (v := .int _ _) rfl, H, hG, by simp [checkE, k1]; split <;> simp_all⟩
  by_cases k3 : kd = 3
  · (refine S_op ?_; refine W_assignInt (by first | rfl | assumption) ?_; refine S_nil ?_; refine CW_seq ?_; refine CW_seq ?_; refine CW_region rfl ?_; refine S_op ?_; refine W_field (by first | rfl | assumption) ?_; refine S_op ?_; refine W_loadHL (by first | rfl | assumption) (by assumption) (by rfl) (by assumption) ?_; refine S_nil ?_; refine CW_block ?_; refine CW_seq ?_; refine CW_seq ?_; refine CW_region rfl ?_; refine S_op ?_; refine W_eqlF (by first | rfl | assumption) (by first | rfl | assumption) (by first | omega | rfl) ?_; refine S_op ?_; refine W_assignBool (by first | rfl | assumption) ?_; refine S_nil ?_; refine CW_false (by first | rfl | assumption) ?_; refine CW_region rfl ?_; refine S_op ?_; refine W_eqlT (by first | rfl | assumption) (by first | rfl | assumption) (by first | omega | rfl) ?_; refine S_op ?_; refine W_assignBool (by first | rfl | assumption) ?_; refine S_nil ?_; refine CW_true (by first | rfl | assumption) ?_; refine CW_seq ?_; refine CW_region rfl ?_; refine S_op ?_; refine W_field (by first | rfl | assumption) ?_; refine S_op ?_; refine W_loadHL (by first | rfl | assumption) (by assumption) (by rfl) (by assumption) ?_)
    (refine S_op ?_; refine W_call hS (by rfl) (key_c H key) ?_); rintro v H w hG' rfl; replace hG := hG.trans hG'; replace hS := hG'.sub; clear hG'
    (refine S_op ?_; refine W_assignInt (by first | rfl | assumption) ?_; refine S_nil ?_; refine CW_ret ?_)
    exact ⟨_, ResW_one (v := .int _ _) rfl, H, hG, by simp [checkE, k3]; split <;> simp_all⟩
  by_cases k2 : kd = 2
  · skip
    (refine S_op ?_; refine W_assignInt (by first | rfl | assumption) ?_; refine S_nil ?_; refine CW_seq ?_; refine CW_seq ?_; refine CW_region rfl ?_; refine S_op ?_; refine W_field (by first | rfl | assumption) ?_; refine S_op ?_; refine W_loadHL (by first | rfl | assumption) (by assumption) (by rfl) (by assumption) ?_; refine S_nil ?_; refine CW_block ?_; refine CW_seq ?_; refine CW_seq ?_; refine CW_region rfl ?_; refine S_op ?_; refine W_eqlF (by first | rfl | assumption) (by first | rfl | assumption) (by first | omega | rfl) ?_; refine S_op ?_; refine W_assignBool (by first | rfl | assumption) ?_; refine S_nil ?_; refine CW_false (by first | rfl | assumption) ?_; refine CW_region rfl ?_; refine S_op ?_; refine W_eqlF (by first | rfl | assumption) (by first | rfl | assumption) (by first | omega | rfl) ?_; refine S_op ?_; refine W_assignBool (by first | rfl | assumption) ?_; refine S_nil ?_; refine CW_false (by first | rfl | assumption) ?_; refine CW_seq ?_; refine CW_seq ?_; refine CW_region rfl ?_; refine S_op ?_; refine W_eqlT (by first | rfl | assumption) (by first | rfl | assumption) (by first | omega | rfl) ?_; refine S_op ?_; refine W_assignBool (by first | rfl | assumption) ?_; refine S_nil ?_; refine CW_true (by first | rfl | assumption) ?_; refine CW_skip ?_; refine CW_true (by first | rfl | assumption) ?_; refine CW_seq ?_; refine CW_seq ?_; refine CW_region rfl ?_; refine S_op ?_; refine W_field (by first | rfl | assumption) ?_; refine S_op ?_; refine W_loadHL (by first | rfl | assumption) (by assumption) (by rfl) (by assumption) ?_)
    (refine S_op ?_; refine W_call hS (by rfl) (key_c H key) ?_); rintro v H w hG' rfl; replace hG := hG.trans hG'; replace hS := hG'.sub; replace hx := hG'.le _ _ hx; clear hG'
    by_cases hk : rKey key = 0
    · (refine S_op ?_; refine W_assignInt (by first | rfl | assumption) ?_; refine S_nil ?_; refine CW_seq ?_; refine CW_region rfl ?_; refine S_op ?_; refine W_moveInt (by first | rfl | assumption) ?_; refine S_op ?_; refine W_neqF (by first | rfl | assumption) (by first | rfl | assumption) (by first | omega | rfl) ?_; refine S_nil ?_; refine CW_false (by first | rfl | assumption) ?_; refine CW_skip ?_; refine CW_seq ?_; refine CW_region rfl ?_; refine S_op ?_; refine W_field (by first | rfl | assumption) ?_; refine S_op ?_; refine W_loadHL (by first | rfl | assumption) (by assumption) (by rfl) (by assumption) ?_)
      (refine S_op ?_; refine W_call hS (by rfl) (value_c H val) ?_); rintro v H w hG' rfl; replace hG := hG.trans hG'; replace hS := hG'.sub; clear hG'
      (refine S_op ?_; refine W_assignInt (by first | rfl | assumption) ?_; refine S_nil ?_; refine CW_ret ?_)
      exact ⟨_, ResW_one (v := .int _ _) rfl, H, hG, by simp [checkE, hk, k2]⟩
    · have hk' : ((rKey key : Nat) : Int) ≠ 0 := by omega
      (refine S_op ?_; refine W_assignInt (by first | rfl | assumption) ?_; refine S_nil ?_; refine CW_seq ?_; refine CW_region rfl ?_; refine S_op ?_; refine W_moveInt (by first | rfl | assumption) ?_; refine S_op ?_; refine W_neqT (by first | rfl | assumption) (by first | rfl | assumption) (by first | omega | rfl) ?_; refine S_nil ?_; refine CW_true (by first | rfl | assumption) ?_; refine CW_seq ?_; refine CW_region rfl ?_; refine S_op ?_; refine W_moveInt (by first | rfl | assumption) ?_; refine S_op ?_; refine W_assignInt (by first | rfl | assumption) ?_; refine S_nil ?_; refine CW_ret ?_)
      exact ⟨_, ResW_one (v := .int _ _) rfl, H, hG, by simp [checkE, hk, k2]⟩
  by_cases k4 : kd = 4
  · skip
    (refine S_op ?_; refine W_assignInt (by first | rfl | assumption) ?_; refine S_nil ?_; refine CW_seq ?_; refine CW_seq ?_; refine CW_region rfl ?_; refine S_op ?_; refine W_field (by first | rfl | assumption) ?_; refine S_op ?_; refine W_loadHL (by first | rfl | assumption) (by assumption) (by rfl) (by assumption) ?_; refine S_nil ?_; refine CW_block ?_; refine CW_seq ?_; refine CW_seq ?_; refine CW_region rfl ?_; refine S_op ?_; refine W_eqlF (by first | rfl | assumption) (by first | rfl | assumption) (by first | omega | rfl) ?_; refine S_op ?_; refine W_assignBool (by first | rfl | assumption) ?_; refine S_nil ?_; refine CW_false (by first | rfl | assumption) ?_; refine CW_region rfl ?_; refine S_op ?_; refine W_eqlF (by first | rfl | assumption) (by first | rfl | assumption) (by first | omega | rfl) ?_; refine S_op ?_; refine W_assignBool (by first | rfl | assumption) ?_; refine S_nil ?_; refine CW_false (by first | rfl | assumption) ?_; refine CW_seq ?_; refine CW_seq ?_; refine CW_region rfl ?_; refine S_op ?_; refine W_eqlF (by first | rfl | assumption) (by first | rfl | assumption) (by first | omega | rfl) ?_; refine S_op ?_; refine W_assignBool (by first | rfl | assumption) ?_; refine S_nil ?_; refine CW_false (by first | rfl | assumption) ?_; refine CW_seq ?_; refine CW_region rfl ?_; refine S_op ?_; refine W_eqlT (by first | rfl | assumption) (by first | rfl | assumption) (by first | omega | rfl) ?_; refine S_op ?_; refine W_assignBool (by first | rfl | assumption) ?_; refine S_nil ?_; refine CW_true (by first | rfl | assumption) ?_; refine CW_skip ?_; refine CW_true (by first | rfl | assumption) ?_; refine CW_seq ?_; refine CW_seq ?_; refine CW_region rfl ?_; refine S_op ?_; refine W_field (by first | rfl | assumption) ?_; refine S_op ?_; refine W_loadHL (by first | rfl | assumption) (by assumption) (by rfl) (by assumption) ?_)
    (refine S_op ?_; refine W_call hS (by rfl) (key_c H key) ?_); rintro v H w hG' rfl; replace hG := hG.trans hG'; replace hS := hG'.sub; replace hx := hG'.le _ _ hx; clear hG'
    by_cases hk : rKey key = 0
    · (refine S_op ?_; refine W_assignInt (by first | rfl | assumption) ?_; refine S_nil ?_; refine CW_seq ?_; refine CW_region rfl ?_; refine S_op ?_; refine W_moveInt (by first | rfl | assumption) ?_; refine S_op ?_; refine W_neqF (by first | rfl | assumption) (by first | rfl | assumption) (by first | omega | rfl) ?_; refine S_nil ?_; refine CW_false (by first | rfl | assumption) ?_; refine CW_skip ?_; refine CW_seq ?_; refine CW_region rfl ?_; refine S_op ?_; refine W_field (by first | rfl | assumption) ?_; refine S_op ?_; refine W_loadHL (by first | rfl | assumption) (by assumption) (by rfl) (by assumption) ?_)
      (refine S_op ?_; refine W_call hS (by rfl) (value_c H val) ?_); rintro v H w hG' rfl; replace hG := hG.trans hG'; replace hS := hG'.sub; clear hG'
      (refine S_op ?_; refine W_assignInt (by first | rfl | assumption) ?_; refine S_nil ?_; refine CW_ret ?_)
      exact ⟨_, ResW_one (v := .int _ _) rfl, H, hG, by simp [checkE, hk, k4]⟩
    · have hk' : ((rKey key : Nat) : Int) ≠ 0 := by omega
      (refine S_op ?_; refine W_assignInt (by first | rfl | assumption) ?_; refine S_nil ?_; refine CW_seq ?_; refine CW_region rfl ?_; refine S_op ?_; refine W_moveInt (by first | rfl | assumption) ?_; refine S_op ?_; refine W_neqT (by first | rfl | assumption) (by first | rfl | assumption) (by first | omega | rfl) ?_; refine S_nil ?_; refine CW_true (by first | rfl | assumption) ?_; refine CW_seq ?_; refine CW_region rfl ?_; refine S_op ?_; refine W_moveInt (by first | rfl | assumption) ?_; refine S_op ?_; refine W_assignInt (by first | rfl | assumption) ?_; refine S_nil ?_; refine CW_ret ?_)
      exact ⟨_, ResW_one (v := .int _ _) rfl, H, hG, by simp [checkE, hk, k4]⟩
  by_cases k5 : kd = 5
  · skip
    (refine S_op ?_; refine W_assignInt (by first | rfl | assumption) ?_; refine S_nil ?_; refine CW_seq ?_; refine CW_seq ?_; refine CW_region rfl ?_; refine S_op ?_; refine W_field (by first | rfl | assumption) ?_; refine S_op ?_; refine W_loadHL (by first | rfl | assumption) (by assumption) (by rfl) (by assumption) ?_; refine S_nil ?_; refine CW_block ?_; refine CW_seq ?_; refine CW_seq ?_; refine CW_region rfl ?_; refine S_op ?_; refine W_eqlF (by first | rfl | assumption) (by first | rfl | assumption) (by first | omega | rfl) ?_; refine S_op ?_; refine W_assignBool (by first | rfl | assumption) ?_; refine S_nil ?_; refine CW_false (by first | rfl | assumption) ?_; refine CW_region rfl ?_; refine S_op ?_; refine W_eqlF (by first | rfl | assumption) (by first | rfl | assumption) (by first | omega | rfl) ?_; refine S_op ?_; refine W_assignBool (by first | rfl | assumption) ?_; refine S_nil ?_; refine CW_false (by first | rfl | assumption) ?_; refine CW_seq ?_; refine CW_seq ?_; refine CW_region rfl ?_; refine S_op ?_; refine W_eqlF (by first | rfl | assumption) (by first | rfl | assumption) (by first | omega | rfl) ?_; refine S_op ?_; refine W_assignBool (by first | rfl | assumption) ?_; refine S_nil ?_; refine CW_false (by first | rfl | assumption) ?_; refine CW_seq ?_; refine CW_region rfl ?_; refine S_op ?_; refine W_eqlF (by first | rfl | assumption) (by first | rfl | assumption) (by first | omega | rfl) ?_; refine S_op ?_; refine W_assignBool (by first | rfl | assumption) ?_; refine S_nil ?_; refine CW_false (by first | rfl | assumption) ?_; refine CW_region rfl ?_; refine S_op ?_; refine W_eqlT (by first | rfl | assumption) (by first | rfl | assumption) (by first | omega | rfl) ?_; refine S_op ?_; refine W_assignBool (by first | rfl | assumption) ?_; refine S_nil ?_; refine CW_true (by first | rfl | assumption) ?_; refine CW_seq ?_; refine CW_seq ?_; refine CW_region rfl ?_; refine S_op ?_; refine W_field (by first | rfl | assumption) ?_; refine S_op ?_; refine W_loadHL (by first | rfl | assumption) (by assumption) (by rfl) (by assumption) ?_)
    (refine S_op ?_; refine W_call hS (by rfl) (key_c H key) ?_); rintro v H w hG' rfl; replace hG := hG.trans hG'; replace hS := hG'.sub; replace hx := hG'.le _ _ hx; clear hG'
    by_cases hk : rKey key = 0
    · (refine S_op ?_; refine W_assignInt (by first | rfl | assumption) ?_; refine S_nil ?_; refine CW_seq ?_; refine CW_region rfl ?_; refine S_op ?_; refine W_moveInt (by first | rfl | assumption) ?_; refine S_op ?_; refine W_neqF (by first | rfl | assumption) (by first | rfl | assumption) (by first | omega | rfl) ?_; refine S_nil ?_; refine CW_false (by first | rfl | assumption) ?_; refine CW_skip ?_; refine CW_seq ?_; refine CW_region rfl ?_; refine S_op ?_; refine W_field (by first | rfl | assumption) ?_; refine S_op ?_; refine W_loadHL (by first | rfl | assumption) (by assumption) (by rfl) (by assumption) ?_)
      (refine S_op ?_; refine W_call hS (by rfl) (value_c H val) ?_); rintro v H w hG' rfl; replace hG := hG.trans hG'; replace hS := hG'.sub; clear hG'
      (refine S_op ?_; refine W_assignInt (by first | rfl | assumption) ?_; refine S_nil ?_; refine CW_ret ?_)
      exact ⟨_, ResW_one (v := .int _ _) rfl, H, hG, by simp [checkE, hk, k5]⟩
    · have hk' : ((rKey key : Nat) : Int) ≠ 0 := by omega
      (refine S_op ?_; refine W_assignInt (by first | rfl | assumption) ?_; refine S_nil ?_; refine CW_seq ?_; refine CW_region rfl ?_; refine S_op ?_; refine W_moveInt (by first | rfl | assumption) ?_; refine S_op ?_; refine W_neqT (by first | rfl | assumption) (by first | rfl | assumption) (by first | omega | rfl) ?_; refine S_nil ?_; refine CW_true (by first | rfl | assumption) ?_; refine CW_seq ?_; refine CW_region rfl ?_; refine S_op ?_; refine W_moveInt (by first | rfl | assumption) ?_; refine S_op ?_; refine W_assignInt (by first | rfl | assumption) ?_; refine S_nil ?_; refine CW_ret ?_)
      exact ⟨_, ResW_one (v := .int _ _) rfl, H, hG, by simp [checkE, hk, k5]⟩
  · (refine S_op ?_; refine W_assignInt (by first | rfl | assumption) ?_; refine S_nil ?_; refine CW_seq ?_; refine CW_seq ?_; refine CW_region rfl ?_; refine S_op ?_; refine W_field (by first | rfl | assumption) ?_; refine S_op ?_; refine W_loadHL (by first | rfl | assumption) (by assumption) (by rfl) (by assumption) ?_; refine S_nil ?_; refine CW_block ?_; refine CW_seq ?_; refine CW_seq ?_; refine CW_region rfl ?_; refine S_op ?_; refine W_eqlF (by first | rfl | assumption) (by first | rfl | assumption) (by first | omega | rfl) ?_; refine S_op ?_; refine W_assignBool (by first | rfl | assumption) ?_; refine S_nil ?_; refine CW_false (by first | rfl | assumption) ?_; refine CW_region rfl ?_; refine S_op ?_; refine W_eqlF (by first | rfl | assumption) (by first | rfl | assumption) (by first | omega | rfl) ?_; refine S_op ?_; refine W_assignBool (by first | rfl | assumption) ?_; refine S_nil ?_; refine CW_false (by first | rfl | assumption) ?_; refine CW_seq ?_; refine CW_seq ?_; refine CW_region rfl ?_; refine S_op ?_; refine W_eqlF (by first | rfl | assumption) (by first | rfl | assumption) (by first | omega | rfl) ?_; refine S_op ?_; refine W_assignBool (by first | rfl | assumption) ?_; refine S_nil ?_; refine CW_false (by first | rfl | assumption) ?_; refine CW_seq ?_; refine CW_region rfl ?_; refine S_op ?_; refine W_eqlF (by first | rfl | assumption) (by first | rfl | assumption) (by first | omega | rfl) ?_; refine S_op ?_; refine W_assignBool (by first | rfl | assumption) ?_; refine S_nil ?_; refine CW_false (by first | rfl | assumption) ?_; refine CW_region rfl ?_; refine S_op ?_; refine W_eqlF (by first | rfl | assumption) (by first | rfl | assumption) (by first | omega | rfl) ?_; refine S_op ?_; refine W_assignBool (by first | rfl | assumption) ?_; refine S_nil ?_; refine CW_false (by first | rfl | assumption) ?_; refine CW_skip ?_; refine CW_seq ?_; refine CW_region rfl ?_; refine S_op ?_; refine W_assignInt (by first | rfl | assumption) ?_; refine S_nil ?_; refine CW_ret ?_)
    exact ⟨_, ResW_one (v := .int _ _) rfl, H, hG, by simp [checkE, show kd < 1 ∨ 5 < kd by omega]⟩
theorem rKey16_eq (x : Call) : checkE x = if x.kind < 1 ∨ 5 < x.kind then 1 else if rKey x.key = 0 ∧ (x.kind = 2 ∨ x.kind = 4 ∨ x.kind = 5) then rValue x.val else rKey x.key := by
  unfold checkE
  split
  · rfl
  · by_cases h : rKey x.key = 0 <;> simp [h]
end
/-! ### Call -/
section
variable {H : HF} {w : World} {b : Nat} {m : Addr} {k : Cl}
theorem call_busy (x : Call) (hS : Sub H w) (hp : k.stage ≠ 0) (hc : CliAt H w b (.pointer (some m)) k) : CallW Try.prog 17 [.pointer (some ⟨b, 0, none⟩), .agg (callCells x).toArray].toArray w fun v w' => ∃ H', Grow H w H' w' ∧ v = .int .i64 10 := by
  obtain ⟨kd, key, val⟩ := x
  simp only [callCells]
  refine CallW_of_CW Try.func17 rfl Try.ntmps17 Try.results17 rfl ?_
  have hG := Grow.refl hS
  (refine CW_seq ?_; refine CW_region rfl ?_)
  (refine S_op (W_boxAgg hS (by rfl) ?_)); intro H w _ hG' hx; replace hG := hG.trans hG'; replace hS := hG'.sub; replace hc := hc.grow hG'; clear hG'
  have hc' := hc.mut
  (refine S_op ?_; refine W_assignInt (by first | rfl | assumption) ?_; refine S_nil ?_; refine CW_seq ?_; refine CW_seq ?_; refine CW_region rfl ?_; refine S_op ?_; refine W_movePtr (by first | rfl | assumption) ?_; refine S_op ?_; refine W_peqnil (by first | rfl | assumption) (by first | rfl | assumption) ?_; refine S_op ?_; refine W_moveBool (by first | rfl | assumption) ?_; refine S_want (by rfl) ?_; refine W_movePtr (by first | rfl | assumption) ?_; refine S_want (by rfl) ?_; refine W_nilCheck (by first | rfl | assumption) ?_; refine S_want (by rfl) ?_; refine W_field (by first | rfl | assumption) ?_; refine S_want (by rfl) ?_; refine W_loadM (by first | rfl | assumption) (by assumption) (by rfl) ?_; refine S_want (by rfl) ?_; refine W_peqnil (by first | rfl | assumption) (by first | rfl | assumption) ?_; refine S_op ?_; refine W_pickF (by first | rfl | assumption) (by first | rfl | assumption) ?_; refine S_op ?_; refine W_moveBool (by first | rfl | assumption) ?_; refine S_want (by rfl) ?_; refine W_movePtr (by first | rfl | assumption) ?_)
  refine S_want (by rfl) ?_
  refine W_callW (by rfl) ((pending_c hS hc).mono ?_)
  rintro v w2 ⟨rfl, rfl⟩
  rw [show decide (k.stage ≠ 0) = true by simp [hp]]
  (refine S_op ?_; refine W_pickF (by first | rfl | assumption) (by first | rfl | assumption) ?_; refine S_nil ?_; refine CW_true (by first | rfl | assumption) ?_; refine CW_seq ?_; refine CW_region rfl ?_; refine S_op ?_; refine W_assignInt (by first | rfl | assumption) ?_; refine S_nil ?_; refine CW_ret ?_)
  exact ⟨_, ResW_one (v := .int _ _) rfl, H, hG, rfl⟩
theorem call_nil (x : Call) (hS : Sub H w) : CallW Try.prog 17 [.pointer none, .agg (callCells x).toArray].toArray w fun v w' => ∃ H', Grow H w H' w' ∧ v = .int .i64 10 := by
  obtain ⟨kd, key, val⟩ := x
  simp only [callCells]
  refine CallW_of_CW Try.func17 rfl Try.ntmps17 Try.results17 rfl ?_
  have hG := Grow.refl hS
  (refine CW_seq ?_; refine CW_region rfl ?_)
  (refine S_op (W_boxAgg hS (by rfl) ?_)); intro H w _ hG' hx; replace hG := hG.trans hG'; replace hS := hG'.sub; clear hG'
  (refine S_op ?_; refine W_assignInt (by first | rfl | assumption) ?_; refine S_nil ?_; refine CW_seq ?_; refine CW_seq ?_; refine CW_region rfl ?_; refine S_op ?_; refine W_movePtr (by first | rfl | assumption) ?_; refine S_op ?_; refine W_peqT (by first | rfl | assumption) (by first | rfl | assumption) (by first | rfl | assumption) ?_; refine S_op ?_; refine W_moveBool (by first | rfl | assumption) ?_; refine S_pass (by rfl) ?_; refine S_pass (by rfl) ?_; refine S_pass (by rfl) ?_; refine S_pass (by rfl) ?_; refine S_pass (by rfl) ?_; refine S_op ?_; refine W_pickT (by first | rfl | assumption) (by first | rfl | assumption) ?_; refine S_op ?_; refine W_moveBool (by first | rfl | assumption) ?_; refine S_pass (by rfl) ?_; refine S_pass (by rfl) ?_; refine S_op ?_; refine W_pickT (by first | rfl | assumption) (by first | rfl | assumption) ?_; refine S_nil ?_; refine CW_true (by first | rfl | assumption) ?_; refine CW_seq ?_; refine CW_region rfl ?_; refine S_op ?_; refine W_assignInt (by first | rfl | assumption) ?_; refine S_nil ?_; refine CW_ret ?_)
  exact ⟨_, ResW_one (v := .int _ _) rfl, H, hG, rfl⟩
theorem call_zero (x : Call) (hS : Sub H w) (hc : CliAt H w b (.pointer none) k) : CallW Try.prog 17 [.pointer (some ⟨b, 0, none⟩), .agg (callCells x).toArray].toArray w fun v w' => ∃ H', Grow H w H' w' ∧ v = .int .i64 10 := by
  obtain ⟨kd, key, val⟩ := x
  simp only [callCells]
  refine CallW_of_CW Try.func17 rfl Try.ntmps17 Try.results17 rfl ?_
  have hG := Grow.refl hS
  (refine CW_seq ?_; refine CW_region rfl ?_)
  (refine S_op (W_boxAgg hS (by rfl) ?_)); intro H w _ hG' hx; replace hG := hG.trans hG'; replace hS := hG'.sub; replace hc := hc.grow hG'; clear hG'
  have hc' := hc.mut
  (refine S_op ?_; refine W_assignInt (by first | rfl | assumption) ?_; refine S_nil ?_; refine CW_seq ?_; refine CW_seq ?_; refine CW_region rfl ?_; refine S_op ?_; refine W_movePtr (by first | rfl | assumption) ?_; refine S_op ?_; refine W_peqnil (by first | rfl | assumption) (by first | rfl | assumption) ?_; refine S_op ?_; refine W_moveBool (by first | rfl | assumption) ?_; refine S_want (by rfl) ?_; refine W_movePtr (by first | rfl | assumption) ?_; refine S_want (by rfl) ?_; refine W_nilCheck (by first | rfl | assumption) ?_; refine S_want (by rfl) ?_; refine W_field (by first | rfl | assumption) ?_; refine S_want (by rfl) ?_; refine W_loadM (by first | rfl | assumption) (by assumption) (by rfl) ?_; refine S_want (by rfl) ?_; refine W_peqT (by first | rfl | assumption) (by first | rfl | assumption) (by first | rfl | assumption) ?_; refine S_op ?_; refine W_pickF (by first | rfl | assumption) (by first | rfl | assumption) ?_; refine S_op ?_; refine W_moveBool (by first | rfl | assumption) ?_; refine S_pass (by rfl) ?_; refine S_pass (by rfl) ?_; refine S_op ?_; refine W_pickT (by first | rfl | assumption) (by first | rfl | assumption) ?_; refine S_nil ?_; refine CW_true (by first | rfl | assumption) ?_; refine CW_seq ?_; refine CW_region rfl ?_; refine S_op ?_; refine W_assignInt (by first | rfl | assumption) ?_; refine S_nil ?_; refine CW_ret ?_)
  exact ⟨_, ResW_one (v := .int _ _) rfl, H, hG, rfl⟩
theorem call_no (x : Call) (hS : Sub H w) (hp : k.stage = 0) (hx : checkE x ≠ 0) (hc : CliAt H w b (.pointer (some m)) k) : CallW Try.prog 17 [.pointer (some ⟨b, 0, none⟩), .agg (callCells x).toArray].toArray w fun v w' => ∃ H', Grow H w H' w' ∧ v = .int .i64 (checkE x : Nat) := by
  have he := hx
  clear hx
  skip
  obtain ⟨kd, key, val⟩ := x
  simp only [callCells]
  refine CallW_of_CW Try.func17 rfl Try.ntmps17 Try.results17 rfl ?_
  have hG := Grow.refl hS
  (refine CW_seq ?_; refine CW_region rfl ?_)
  (refine S_op (W_boxAgg hS (by rfl) ?_)); intro H w _ hG' hx; replace hG := hG.trans hG'; replace hS := hG'.sub; replace hc := hc.grow hG'; clear hG'
  have hc' := hc.mut
  (refine S_op ?_; refine W_assignInt (by first | rfl | assumption) ?_; refine S_nil ?_; refine CW_seq ?_; refine CW_seq ?_; refine CW_region rfl ?_; refine S_op ?_; refine W_movePtr (by first | rfl | assumption) ?_; refine S_op ?_; refine W_peqnil (by first | rfl | assumption) (by first | rfl | assumption) ?_; refine S_op ?_; refine W_moveBool (by first | rfl | assumption) ?_; refine S_want (by rfl) ?_; refine W_movePtr (by first | rfl | assumption) ?_; refine S_want (by rfl) ?_; refine W_nilCheck (by first | rfl | assumption) ?_; refine S_want (by rfl) ?_; refine W_field (by first | rfl | assumption) ?_; refine S_want (by rfl) ?_; refine W_loadM (by first | rfl | assumption) (by assumption) (by rfl) ?_; refine S_want (by rfl) ?_; refine W_peqnil (by first | rfl | assumption) (by first | rfl | assumption) ?_; refine S_op ?_; refine W_pickF (by first | rfl | assumption) (by first | rfl | assumption) ?_; refine S_op ?_; refine W_moveBool (by first | rfl | assumption) ?_; refine S_want (by rfl) ?_; refine W_movePtr (by first | rfl | assumption) ?_)
  refine S_want (by rfl) ?_
  refine W_callW (by rfl) ((pending_c hS hc).mono ?_)
  rintro v w2 ⟨rfl, rfl⟩
  rw [show decide (k.stage ≠ 0) = false by simp [hp]]
  (refine S_op ?_; refine W_pickF (by first | rfl | assumption) (by first | rfl | assumption) ?_; refine S_nil ?_; refine CW_false (by first | rfl | assumption) ?_; refine CW_skip ?_; refine CW_seq ?_; refine CW_seq ?_; refine CW_region rfl ?_; refine S_op ?_; refine W_loadWhole (by first | rfl | assumption) (by assumption) (by rfl) (by assumption) ?_)
  (refine S_op ?_; refine W_call hS (by rfl) (check_c H ⟨kd, key, val⟩) ?_); rintro v H w hG' rfl; replace hG := hG.trans hG'; replace hS := hG'.sub; replace hx := hG'.le _ _ hx; replace hc := hc.grow hG'; clear hG'
  clear hc'
  have he' : ((checkE ⟨kd, key, val⟩ : Nat) : Int) ≠ 0 := by omega
  (refine S_op ?_; refine W_assignInt (by first | rfl | assumption) ?_; refine S_nil ?_; refine CW_seq ?_; refine CW_region rfl ?_; refine S_op ?_; refine W_moveInt (by first | rfl | assumption) ?_; refine S_op ?_; refine W_neqT (by first | rfl | assumption) (by first | rfl | assumption) (by first | omega | rfl) ?_; refine S_nil ?_; refine CW_true (by first | rfl | assumption) ?_; refine CW_seq ?_; refine CW_region rfl ?_; refine S_op ?_; refine W_moveInt (by first | rfl | assumption) ?_; refine S_op ?_; refine W_assignInt (by first | rfl | assumption) ?_; refine S_nil ?_; refine CW_ret ?_)
  exact ⟨_, ResW_one (v := .int _ _) rfl, H, hG, rfl⟩
theorem call_yes (x : Call) (hS : Sub H w) (hp : k.stage = 0) (hx : checkE x = 0) (hc : CliAt H w b (.pointer (some m)) k) : CallW Try.prog 17 [.pointer (some ⟨b, 0, none⟩), .agg (callCells x).toArray].toArray w fun v w' => ∃ H', Turn (fun j => j = b) H w H' w' ∧ v = .int .i64 0 ∧ CliAt H' w' b (.pointer (some m)) { k with x := x, stage := 1, tries := 0 } := by
  have he := hx
  clear hx
  skip
  obtain ⟨kd, key, val⟩ := x
  simp only [callCells]
  refine CallW_of_CW Try.func17 rfl Try.ntmps17 Try.results17 rfl ?_
  have hG := Grow.refl hS
  (refine CW_seq ?_; refine CW_region rfl ?_)
  (refine S_op (W_boxAgg hS (by rfl) ?_)); intro H w _ hG' hx; replace hG := hG.trans hG'; replace hS := hG'.sub; replace hc := hc.grow hG'; clear hG'
  have hc' := hc.mut
  (refine S_op ?_; refine W_assignInt (by first | rfl | assumption) ?_; refine S_nil ?_; refine CW_seq ?_; refine CW_seq ?_; refine CW_region rfl ?_; refine S_op ?_; refine W_movePtr (by first | rfl | assumption) ?_; refine S_op ?_; refine W_peqnil (by first | rfl | assumption) (by first | rfl | assumption) ?_; refine S_op ?_; refine W_moveBool (by first | rfl | assumption) ?_; refine S_want (by rfl) ?_; refine W_movePtr (by first | rfl | assumption) ?_; refine S_want (by rfl) ?_; refine W_nilCheck (by first | rfl | assumption) ?_; refine S_want (by rfl) ?_; refine W_field (by first | rfl | assumption) ?_; refine S_want (by rfl) ?_; refine W_loadM (by first | rfl | assumption) (by assumption) (by rfl) ?_; refine S_want (by rfl) ?_; refine W_peqnil (by first | rfl | assumption) (by first | rfl | assumption) ?_; refine S_op ?_; refine W_pickF (by first | rfl | assumption) (by first | rfl | assumption) ?_; refine S_op ?_; refine W_moveBool (by first | rfl | assumption) ?_; refine S_want (by rfl) ?_; refine W_movePtr (by first | rfl | assumption) ?_)
  refine S_want (by rfl) ?_
  refine W_callW (by rfl) ((pending_c hS hc).mono ?_)
  rintro v w2 ⟨rfl, rfl⟩
  rw [show decide (k.stage ≠ 0) = false by simp [hp]]
  (refine S_op ?_; refine W_pickF (by first | rfl | assumption) (by first | rfl | assumption) ?_; refine S_nil ?_; refine CW_false (by first | rfl | assumption) ?_; refine CW_skip ?_; refine CW_seq ?_; refine CW_seq ?_; refine CW_region rfl ?_; refine S_op ?_; refine W_loadWhole (by first | rfl | assumption) (by assumption) (by rfl) (by assumption) ?_)
  (refine S_op ?_; refine W_call hS (by rfl) (check_c H ⟨kd, key, val⟩) ?_); rintro v H w hG' rfl; replace hG := hG.trans hG'; replace hS := hG'.sub; replace hx := hG'.le _ _ hx; replace hc := hc.grow hG'; clear hG'
  clear hc'
  rw [he]
  have hc' := hc.mut
  have hT := hG.turn (S := fun j => j = b)
  clear hc hG
  (refine S_op ?_; refine W_assignInt (by first | rfl | assumption) ?_; refine S_nil ?_; refine CW_seq ?_; refine CW_region rfl ?_; refine S_op ?_; refine W_moveInt (by first | rfl | assumption) ?_; refine S_op ?_; refine W_neqF (by first | rfl | assumption) (by first | rfl | assumption) (by first | omega | rfl) ?_; refine S_nil ?_; refine CW_false (by first | rfl | assumption) ?_; refine CW_skip ?_; refine CW_seq ?_; refine CW_region rfl ?_; refine S_op ?_; refine W_movePtr (by first | rfl | assumption) ?_; refine S_op ?_; refine W_movePtr (by first | rfl | assumption) ?_; refine S_op ?_; refine W_movePtr (by first | rfl | assumption) ?_; refine S_op ?_; refine W_loadWhole (by first | rfl | assumption) (by assumption) (by rfl) (by assumption) ?_; refine S_op ?_; refine W_nilCheck (by first | rfl | assumption) ?_; refine S_op ?_; refine W_field (by first | rfl | assumption) ?_)
  refine S_op0 (W_storeM (o := 1) (vs := [.int .i64 kd, .string key, .string val]) (by rfl) (by rfl) hc' (by rfl) (OneCells.of_all (by rfl)) (by rfl) (Nat.le_of_ble_eq_true (by rfl)) ?_)
  intro w1 hg1 hm1
  replace hT := hT.grownBy hg1 (fun g h => by cases h; exact ⟨hc'.out, .inr rfl⟩)
  replace hS := hT.sub
  clear hc'
  (refine S_op ?_; refine W_nilCheck (by first | rfl | assumption) ?_; refine S_op ?_; refine W_field (by first | rfl | assumption) ?_)
  refine S_op0 (W_storeM (o := 4) (vs := [.int .i64 1]) (by rfl) (by rfl) hm1 (by rfl) (OneCells.of_all (by rfl)) (by rfl) (Nat.le_of_ble_eq_true (by rfl)) ?_)
  intro w2 hg2 hm2
  replace hT := hT.grownBy hg2 (fun g h => by cases h; exact ⟨hm1.out, .inr rfl⟩)
  replace hS := hT.sub
  clear hm1
  (refine S_op ?_; refine W_nilCheck (by first | rfl | assumption) ?_; refine S_op ?_; refine W_field (by first | rfl | assumption) ?_)
  refine S_op0 (W_storeM (o := 5) (vs := [.int .i64 0]) (by rfl) (by rfl) hm2 (by rfl) (OneCells.of_all (by rfl)) (by rfl) (Nat.le_of_ble_eq_true (by rfl)) ?_)
  intro w3 hg3 hm3
  replace hT := hT.grownBy hg3 (fun g h => by cases h; exact ⟨hm2.out, .inr rfl⟩)
  replace hS := hT.sub
  clear hm2
  (refine S_nil ?_; refine CW_seq ?_; refine CW_region rfl ?_; refine S_op ?_; refine W_assignInt (by first | rfl | assumption) ?_; refine S_nil ?_; refine CW_ret ?_)
  exact ⟨_, ResW_one (v := .int _ _) rfl, H, hT, rfl, hm3⟩
end
end Go.Proofs.Ytglhnfficliaoaa
