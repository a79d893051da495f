/- The memory's methods, words of type *sapwood/node.Node. Conditions: sizes. -/
import Derived.Test.YtglhnfficliaoaaMemBase
import Derived.Test.YtglhnfficliaoaaTyb
import Derived.Test.YtglhnfficliaoaaPtrEq
namespace Go.Proofs.Ytglhnfficliaoaa
open Go.Proofs Go.RowKit
set_option linter.unusedVariables false
attribute [local irreducible] CW SeqW OpW
set_option maxHeartbeats 4000000
section
variable {H : HF} {w : World} {b : Nat} {A : Option Addr} {ws : List Tr} {s c : Nat}
theorem step_no_Tr (hS : Sub H w) (hm : IsMem H w b A (ws.map Tr.val) s c) (i : Int) (hi : i < 0 ∨ (ws.length : Int) ≤ i) :
    CallW Try.prog 37 #[.pointer (some ⟨b, 0, none⟩), .int .i64 i] w fun v w' => v = .int .i64 1 ∧ w' = w := by
  refine CallW_of_CW Try.func37 rfl Try.ntmps37 Try.results37 rfl ?_
  have hm1 := hm.cell
  rw [List.length_map] at hm1
  by_cases h0 : i < 0
  · (refine CW_seq ?_; refine CW_region rfl ?_; refine S_op ?_; refine W_assignInt (by first | rfl | assumption) ?_; refine S_nil ?_; refine CW_seq ?_; refine CW_seq ?_; refine CW_region rfl ?_; refine S_op ?_; refine W_movePtr (by first | rfl | assumption) ?_; refine S_op ?_; refine W_peqnil (by first | rfl | assumption) (by first | rfl | assumption) ?_; refine S_op ?_; refine W_moveBool (by first | rfl | assumption) ?_; refine S_want (by rfl) ?_; refine W_moveInt (by first | rfl | assumption) ?_; refine S_want (by rfl) ?_; refine W_lssT (by first | rfl | assumption) (by first | rfl | assumption) (by first | omega | rfl) ?_; refine S_op ?_; refine W_pickF (by first | rfl | assumption) (by first | rfl | assumption) ?_; refine S_op ?_; refine W_moveBool (by first | rfl | assumption) ?_; refine S_pass (by rfl) ?_; refine S_pass (by rfl) ?_; refine S_pass (by rfl) ?_; refine S_pass (by rfl) ?_; refine S_pass (by rfl) ?_; refine S_pass (by rfl) ?_; refine S_pass (by rfl) ?_; refine S_op ?_; refine W_pickT (by first | rfl | assumption) (by first | rfl | assumption) ?_; refine S_nil ?_; refine CW_true (by first | rfl | assumption) ?_; refine CW_seq ?_; refine CW_region rfl ?_; refine S_op ?_; refine W_assignInt (by first | rfl | assumption) ?_; refine S_nil ?_; refine CW_ret ?_)
    exact ⟨_, ResW_one (v := .int _ _) rfl, rfl, rfl⟩
  · have h1 : (ws.length : Int) ≤ i := by omega
    (refine CW_seq ?_; refine CW_region rfl ?_; refine S_op ?_; refine W_assignInt (by first | rfl | assumption) ?_; refine S_nil ?_; refine CW_seq ?_; refine CW_seq ?_; refine CW_region rfl ?_; refine S_op ?_; refine W_movePtr (by first | rfl | assumption) ?_; refine S_op ?_; refine W_peqnil (by first | rfl | assumption) (by first | rfl | assumption) ?_; refine S_op ?_; refine W_moveBool (by first | rfl | assumption) ?_; refine S_want (by rfl) ?_; refine W_moveInt (by first | rfl | assumption) ?_; refine S_want (by rfl) ?_; refine W_lssF (by first | rfl | assumption) (by first | rfl | assumption) (by first | omega | rfl) ?_; refine S_op ?_; refine W_pickF (by first | rfl | assumption) (by first | rfl | assumption) ?_; refine S_op ?_; refine W_moveBool (by first | rfl | assumption) ?_; refine S_want (by rfl) ?_; refine W_moveInt (by first | rfl | assumption) ?_; refine S_want (by rfl) ?_; refine W_movePtr (by first | rfl | assumption) ?_; refine S_want (by rfl) ?_; refine W_nilCheck (by first | rfl | assumption) ?_; refine S_want (by rfl) ?_; refine W_field (by first | rfl | assumption) ?_; refine S_want (by rfl) ?_; refine W_loadM (by first | rfl | assumption) (by assumption) (by rfl) ?_; refine S_want (by rfl) ?_; refine W_len (by first | rfl | assumption) ?_; refine S_want (by rfl) ?_; refine W_geqT (by first | rfl | assumption) (by first | rfl | assumption) (by first | omega | rfl) ?_; refine S_op ?_; refine W_pickF (by first | rfl | assumption) (by first | rfl | assumption) ?_; refine S_nil ?_; refine CW_true (by first | rfl | assumption) ?_; refine CW_seq ?_; refine CW_region rfl ?_; refine S_op ?_; refine W_assignInt (by first | rfl | assumption) ?_; refine S_nil ?_; refine CW_ret ?_)
    exact ⟨_, ResW_one (v := .int _ _) rfl, rfl, rfl⟩
theorem step_nil_Tr (w : World) (i : Int) :
    CallW Try.prog 37 #[.pointer none, .int .i64 i] w fun v w' => v = .int .i64 1 ∧ w' = w := by
  refine CallW_of_CW Try.func37 rfl Try.ntmps37 Try.results37 rfl ?_
  (refine CW_seq ?_; refine CW_region rfl ?_; refine S_op ?_; refine W_assignInt (by first | rfl | assumption) ?_; refine S_nil ?_; refine CW_seq ?_; refine CW_seq ?_; refine CW_region rfl ?_; refine S_op ?_; refine W_movePtr (by first | rfl | assumption) ?_; refine S_op ?_; refine W_peqT (by first | rfl | assumption) (by first | rfl | assumption) (by first | rfl | assumption) ?_; refine S_op ?_; refine W_moveBool (by first | rfl | assumption) ?_; refine S_pass (by rfl) ?_; refine S_pass (by rfl) ?_; refine S_op ?_; refine W_pickT (by first | rfl | assumption) (by first | rfl | assumption) ?_; refine S_op ?_; refine W_moveBool (by first | rfl | assumption) ?_; refine S_pass (by rfl) ?_; refine S_pass (by rfl) ?_; refine S_pass (by rfl) ?_; refine S_pass (by rfl) ?_; refine S_pass (by rfl) ?_; refine S_pass (by rfl) ?_; refine S_pass (by rfl) ?_; refine S_op ?_; refine W_pickT (by first | rfl | assumption) (by first | rfl | assumption) ?_; refine S_nil ?_; refine CW_true (by first | rfl | assumption) ?_; refine CW_seq ?_; refine CW_region rfl ?_; refine S_op ?_; refine W_assignInt (by first | rfl | assumption) ?_; refine S_nil ?_; refine CW_ret ?_)
  exact ⟨_, ResW_one (v := .int _ _) rfl, rfl, rfl⟩
theorem step_yes_Tr (hS : Sub H w) (hm : IsMem H w b A (ws.map Tr.val) s c) (q : Nat) (hq : q < ws.length) (hs : s ≤ 1000000000) :
    CallW Try.prog 37 #[.pointer (some ⟨b, 0, none⟩), .int .i64 (q : Int)] w fun v w' => v = .int .i64 0 ∧ Turn (memS b A) H w H w' ∧ IsMem H w' b A (ws.map Tr.val) (s + 1) c := by
  refine CallW_of_CW Try.func37 rfl Try.ntmps37 Try.results37 rfl ?_
  have hm1 := hm.cell
  rw [List.length_map] at hm1
  have h0 : ¬ (q : Int) < 0 := by omega
  (refine CW_seq ?_; refine CW_region rfl ?_; refine S_op ?_; refine W_assignInt (by first | rfl | assumption) ?_; refine S_nil ?_; refine CW_seq ?_; refine CW_seq ?_; refine CW_region rfl ?_; refine S_op ?_; refine W_movePtr (by first | rfl | assumption) ?_; refine S_op ?_; refine W_peqnil (by first | rfl | assumption) (by first | rfl | assumption) ?_; refine S_op ?_; refine W_moveBool (by first | rfl | assumption) ?_; refine S_want (by rfl) ?_; refine W_moveInt (by first | rfl | assumption) ?_; refine S_want (by rfl) ?_; refine W_lssF (by first | rfl | assumption) (by first | rfl | assumption) (by first | omega | rfl) ?_; refine S_op ?_; refine W_pickF (by first | rfl | assumption) (by first | rfl | assumption) ?_; refine S_op ?_; refine W_moveBool (by first | rfl | assumption) ?_; refine S_want (by rfl) ?_; refine W_moveInt (by first | rfl | assumption) ?_; refine S_want (by rfl) ?_; refine W_movePtr (by first | rfl | assumption) ?_; refine S_want (by rfl) ?_; refine W_nilCheck (by first | rfl | assumption) ?_; refine S_want (by rfl) ?_; refine W_field (by first | rfl | assumption) ?_; refine S_want (by rfl) ?_; refine W_loadM (by first | rfl | assumption) (by assumption) (by rfl) ?_; refine S_want (by rfl) ?_; refine W_len (by first | rfl | assumption) ?_; refine S_want (by rfl) ?_; refine W_geqF (by first | rfl | assumption) (by first | rfl | assumption) (by first | omega | rfl) ?_; refine S_op ?_; refine W_pickF (by first | rfl | assumption) (by first | rfl | assumption) ?_; refine S_nil ?_; refine CW_false (by first | rfl | assumption) ?_; refine CW_skip ?_; refine CW_seq ?_; refine CW_region rfl ?_; refine S_op ?_; refine W_movePtr (by first | rfl | assumption) ?_; refine S_op ?_; refine W_nilCheck (by first | rfl | assumption) ?_; refine S_op ?_; refine W_field (by first | rfl | assumption) ?_; refine S_op ?_; refine W_loadM (by first | rfl | assumption) (by assumption) (by rfl) ?_; refine S_op ?_; refine W_add1 (by first | rfl | assumption) (by omega) ?_; refine S_op ?_; refine W_nilCheck (by first | rfl | assumption) ?_; refine S_op ?_; refine W_field (by first | rfl | assumption) ?_)
  refine S_op0 ?_
  refine W_storeM (b := b) (o := 1) (vs := [.int .i64 ((s + 1 : Nat) : Int)]) (by rfl) (by rfl) hm1 (by rfl) (by intro u hu; simp at hu; subst hu; rfl) rfl (by show 1 + 1 ≤ 3; decide) ?_
  intro w1 hg1 hm2
  have hm3 := hm.count hg1 (s' := s + 1) (c' := c) (by rw [List.length_map]; exact hm2)
  have hT := (Turn.refl (S := memS b A) hS).grownBy hg1 (fun g h => by cases h; exact ⟨hm1.out, .inr (.inl rfl)⟩)
  clear hm1 hm2
  (refine S_nil ?_; refine CW_seq ?_; refine CW_region rfl ?_; refine S_op ?_; refine W_assignInt (by first | rfl | assumption) ?_; refine S_nil ?_; refine CW_ret ?_)
  exact ⟨_, ResW_one (v := .int _ _) rfl, rfl, hT, hm3⟩
/-! ### Load -/
theorem load_no_Tr (hS : Sub H w) (hm : IsMem H w b A (ws.map Tr.val) s c) (i : Int) (hi : i < 0 ∨ (ws.length : Int) ≤ i) :
    CallW Try.prog 41 #[.pointer (some ⟨b, 0, none⟩), .int .i64 i] w fun v w' => v = .tuple #[.pointer none, .int .i64 1] ∧ w' = w := by
  refine CallW_of_CW Try.func41 rfl Try.ntmps41 Try.results41 rfl ?_
  (refine CW_seq ?_; refine CW_region rfl ?_; refine S_op ?_; refine W_assignPtr (by first | rfl | assumption) ?_; refine S_op ?_; refine W_assignInt (by first | rfl | assumption) ?_; refine S_nil ?_; refine CW_seq ?_; refine CW_seq ?_; refine CW_region rfl ?_; refine S_op ?_; refine W_movePtr (by first | rfl | assumption) ?_; refine S_op ?_; refine W_moveInt (by first | rfl | assumption) ?_)
  refine S_op ?_
  refine W_callW (by rfl) ((step_no_Tr hS hm i hi).mono ?_)
  rintro v w1 ⟨rfl, rfl⟩
  (refine S_op ?_; refine W_assignInt (by first | rfl | assumption) ?_; refine S_nil ?_; refine CW_seq ?_; refine CW_region rfl ?_; refine S_op ?_; refine W_moveInt (by first | rfl | assumption) ?_; refine S_op ?_; refine W_neqT (by first | rfl | assumption) (by first | rfl | assumption) (by first | omega | rfl) ?_; refine S_nil ?_; refine CW_true (by first | rfl | assumption) ?_; refine CW_seq ?_; refine CW_region rfl ?_; refine S_op ?_; refine W_assignPtr (by first | rfl | assumption) ?_; refine S_nil ?_; refine CW_seq ?_; refine CW_region rfl ?_; refine S_op ?_; refine W_movePtr (by first | rfl | assumption) ?_; refine S_op ?_; refine W_moveInt (by first | rfl | assumption) ?_; refine S_op ?_; refine W_assignPtr (by first | rfl | assumption) ?_; refine S_op ?_; refine W_assignInt (by first | rfl | assumption) ?_; refine S_nil ?_; refine CW_ret ?_)
  exact ⟨_, ResW_two (v1 := .pointer none) (v2 := .int _ _) rfl rfl, rfl, rfl⟩
theorem load_nil_Tr (w : World) (i : Int) :
    CallW Try.prog 41 #[.pointer none, .int .i64 i] w fun v w' => v = .tuple #[.pointer none, .int .i64 1] ∧ w' = w := by
  refine CallW_of_CW Try.func41 rfl Try.ntmps41 Try.results41 rfl ?_
  (refine CW_seq ?_; refine CW_region rfl ?_; refine S_op ?_; refine W_assignPtr (by first | rfl | assumption) ?_; refine S_op ?_; refine W_assignInt (by first | rfl | assumption) ?_; refine S_nil ?_; refine CW_seq ?_; refine CW_seq ?_; refine CW_region rfl ?_; refine S_op ?_; refine W_movePtr (by first | rfl | assumption) ?_; refine S_op ?_; refine W_moveInt (by first | rfl | assumption) ?_)
  refine S_op ?_
  refine W_callW (by rfl) ((step_nil_Tr w i).mono ?_)
  rintro v w1 ⟨rfl, rfl⟩
  (refine S_op ?_; refine W_assignInt (by first | rfl | assumption) ?_; refine S_nil ?_; refine CW_seq ?_; refine CW_region rfl ?_; refine S_op ?_; refine W_moveInt (by first | rfl | assumption) ?_; refine S_op ?_; refine W_neqT (by first | rfl | assumption) (by first | rfl | assumption) (by first | omega | rfl) ?_; refine S_nil ?_; refine CW_true (by first | rfl | assumption) ?_; refine CW_seq ?_; refine CW_region rfl ?_; refine S_op ?_; refine W_assignPtr (by first | rfl | assumption) ?_; refine S_nil ?_; refine CW_seq ?_; refine CW_region rfl ?_; refine S_op ?_; refine W_movePtr (by first | rfl | assumption) ?_; refine S_op ?_; refine W_moveInt (by first | rfl | assumption) ?_; refine S_op ?_; refine W_assignPtr (by first | rfl | assumption) ?_; refine S_op ?_; refine W_assignInt (by first | rfl | assumption) ?_; refine S_nil ?_; refine CW_ret ?_)
  exact ⟨_, ResW_two (v1 := .pointer none) (v2 := .int _ _) rfl rfl, rfl, rfl⟩
theorem load_yes_Tr (hS : Sub H w) (hm : IsMem H w b A (ws.map Tr.val) s c) (q : Nat) (hq : q < ws.length) (hs : s ≤ 1000000000) :
    CallW Try.prog 41 #[.pointer (some ⟨b, 0, none⟩), .int .i64 (q : Int)] w fun v w' => v = .tuple #[Tr.val (nth ws q), .int .i64 0] ∧ Turn (memS b A) H w H w' ∧ IsMem H w' b A (ws.map Tr.val) (s + 1) c := by
  refine CallW_of_CW Try.func41 rfl Try.ntmps41 Try.results41 rfl ?_
  (refine CW_seq ?_; refine CW_region rfl ?_; refine S_op ?_; refine W_assignPtr (by first | rfl | assumption) ?_; refine S_op ?_; refine W_assignInt (by first | rfl | assumption) ?_; refine S_nil ?_; refine CW_seq ?_; refine CW_seq ?_; refine CW_region rfl ?_; refine S_op ?_; refine W_movePtr (by first | rfl | assumption) ?_; refine S_op ?_; refine W_moveInt (by first | rfl | assumption) ?_)
  refine S_op ?_
  refine W_callW (by rfl) ((step_yes_Tr hS hm q hq hs).mono ?_)
  rintro v w1 ⟨rfl, hT, hm1⟩
  have hc1 := hm1.cell
  rw [List.length_map] at hc1
  obtain ⟨g, hA, hne, hr⟩ := hm1.wordRow (q := q) (by simpa using hq)
  have hget := nth_get hq Tr.val
  (refine S_op ?_; refine W_assignInt (by first | rfl | assumption) ?_; refine S_nil ?_; refine CW_seq ?_; refine CW_region rfl ?_; refine S_op ?_; refine W_moveInt (by first | rfl | assumption) ?_; refine S_op ?_; refine W_neqF (by first | rfl | assumption) (by first | rfl | assumption) (by first | omega | rfl) ?_; refine S_nil ?_; refine CW_false (by first | rfl | assumption) ?_; refine CW_skip ?_; refine CW_seq ?_; refine CW_region rfl ?_; refine S_op ?_; refine W_movePtr (by first | rfl | assumption) ?_; refine S_op ?_; refine W_nilCheck (by first | rfl | assumption) ?_; refine S_op ?_; refine W_field (by first | rfl | assumption) ?_; refine S_op ?_; refine W_loadM (by first | rfl | assumption) (by assumption) (by rfl) ?_; refine S_op ?_; refine W_moveInt (by first | rfl | assumption) ?_; refine S_op ?_; refine W_index (by first | rfl | assumption) (by first | rfl | assumption) (by first | assumption | omega | decide) (by first | rfl | assumption) ?_)
  refine S_op ?_
  refine W_loadM (o := 0 + q * 1) (by rfl) hr (by simpa using hget) ?_
  (refine S_op ?_; refine W_assignPtr (by first | rfl | assumption) ?_; refine S_op ?_; refine W_assignInt (by first | rfl | assumption) ?_; refine S_nil ?_; refine CW_ret ?_)
  exact ⟨_, ResW_two (v1 := Tr.val _) (v2 := .int _ _) rfl rfl, rfl, hT, hm1⟩
/-! ### Store -/
theorem store_no_Tr (hS : Sub H w) (hm : IsMem H w b A (ws.map Tr.val) s c) (i : Int) (x : Tr) (hi : i < 0 ∨ (ws.length : Int) ≤ i) :
    CallW Try.prog 13 #[.pointer (some ⟨b, 0, none⟩), .int .i64 i, Tr.val x] w fun v w' => v = .int .i64 1 ∧ w' = w := by
  refine CallW_of_CW Try.func13 rfl Try.ntmps13 Try.results13 rfl ?_
  (refine CW_seq ?_; refine CW_region rfl ?_; refine S_op ?_; refine W_assignInt (by first | rfl | assumption) ?_; refine S_nil ?_; refine CW_seq ?_; refine CW_region rfl ?_; refine S_op ?_; refine W_movePtr (by first | rfl | assumption) ?_; refine S_op ?_; refine W_moveInt (by first | rfl | assumption) ?_)
  refine S_op ?_
  refine W_callW (by rfl) ((step_no_Tr hS hm i hi).mono ?_)
  rintro v w1 ⟨rfl, rfl⟩
  (refine S_op ?_; refine W_assignInt (by first | rfl | assumption) ?_; refine S_nil ?_; refine CW_seq ?_; refine CW_seq ?_; refine CW_region rfl ?_; refine S_op ?_; refine W_moveInt (by first | rfl | assumption) ?_; refine S_op ?_; refine W_eqlF (by first | rfl | assumption) (by first | rfl | assumption) (by first | omega | rfl) ?_; refine S_nil ?_; refine CW_false (by first | rfl | assumption) ?_; refine CW_skip ?_; refine CW_seq ?_; refine CW_region rfl ?_; refine S_op ?_; refine W_moveInt (by first | rfl | assumption) ?_; refine S_op ?_; refine W_assignInt (by first | rfl | assumption) ?_; refine S_nil ?_; refine CW_ret ?_)
  exact ⟨_, ResW_one (v := .int _ _) rfl, rfl, rfl⟩
theorem store_nil_Tr (w : World) (i : Int) (x : Tr) :
    CallW Try.prog 13 #[.pointer none, .int .i64 i, Tr.val x] w fun v w' => v = .int .i64 1 ∧ w' = w := by
  refine CallW_of_CW Try.func13 rfl Try.ntmps13 Try.results13 rfl ?_
  (refine CW_seq ?_; refine CW_region rfl ?_; refine S_op ?_; refine W_assignInt (by first | rfl | assumption) ?_; refine S_nil ?_; refine CW_seq ?_; refine CW_region rfl ?_; refine S_op ?_; refine W_movePtr (by first | rfl | assumption) ?_; refine S_op ?_; refine W_moveInt (by first | rfl | assumption) ?_)
  refine S_op ?_
  refine W_callW (by rfl) ((step_nil_Tr w i).mono ?_)
  rintro v w1 ⟨rfl, rfl⟩
  (refine S_op ?_; refine W_assignInt (by first | rfl | assumption) ?_; refine S_nil ?_; refine CW_seq ?_; refine CW_seq ?_; refine CW_region rfl ?_; refine S_op ?_; refine W_moveInt (by first | rfl | assumption) ?_; refine S_op ?_; refine W_eqlF (by first | rfl | assumption) (by first | rfl | assumption) (by first | omega | rfl) ?_; refine S_nil ?_; refine CW_false (by first | rfl | assumption) ?_; refine CW_skip ?_; refine CW_seq ?_; refine CW_region rfl ?_; refine S_op ?_; refine W_moveInt (by first | rfl | assumption) ?_; refine S_op ?_; refine W_assignInt (by first | rfl | assumption) ?_; refine S_nil ?_; refine CW_ret ?_)
  exact ⟨_, ResW_one (v := .int _ _) rfl, rfl, rfl⟩
theorem store_yes_Tr (hS : Sub H w) (hm : IsMem H w b A (ws.map Tr.val) s c) (q : Nat) (x : Tr) (hq : q < ws.length) (hs : s ≤ 1000000000) :
    CallW Try.prog 13 #[.pointer (some ⟨b, 0, none⟩), .int .i64 (q : Int), Tr.val x] w fun v w' => v = .int .i64 0 ∧ Turn (memS b A) H w H w' ∧ IsMem H w' b A ((ws.set q x).map Tr.val) (s + 1) c := by
  refine CallW_of_CW Try.func13 rfl Try.ntmps13 Try.results13 rfl ?_
  (refine CW_seq ?_; refine CW_region rfl ?_; refine S_op ?_; refine W_assignInt (by first | rfl | assumption) ?_; refine S_nil ?_; refine CW_seq ?_; refine CW_region rfl ?_; refine S_op ?_; refine W_movePtr (by first | rfl | assumption) ?_; refine S_op ?_; refine W_moveInt (by first | rfl | assumption) ?_)
  refine S_op ?_
  refine W_callW (by rfl) ((step_yes_Tr hS hm q hq hs).mono ?_)
  rintro v w1 ⟨rfl, hT, hm1⟩
  have hc1 := hm1.cell
  rw [List.length_map] at hc1
  obtain ⟨g, hA, hne, hr⟩ := hm1.wordRow (q := q) (by simpa using hq)
  (refine S_op ?_; refine W_assignInt (by first | rfl | assumption) ?_; refine S_nil ?_; refine CW_seq ?_; refine CW_seq ?_; refine CW_region rfl ?_; refine S_op ?_; refine W_moveInt (by first | rfl | assumption) ?_; refine S_op ?_; refine W_eqlT (by first | rfl | assumption) (by first | rfl | assumption) (by first | omega | rfl) ?_; refine S_nil ?_; refine CW_true (by first | rfl | assumption) ?_; refine CW_region rfl ?_; refine S_op ?_; refine W_movePtr (by first | rfl | assumption) ?_; refine S_op ?_; refine W_nilCheck (by first | rfl | assumption) ?_; refine S_op ?_; refine W_field (by first | rfl | assumption) ?_; refine S_op ?_; refine W_loadM (by first | rfl | assumption) (by assumption) (by rfl) ?_; refine S_op ?_; refine W_moveInt (by first | rfl | assumption) ?_; refine S_op ?_; refine W_movePtr (by first | rfl | assumption) ?_; refine S_op ?_; refine W_index (by first | rfl | assumption) (by first | rfl | assumption) (by first | assumption | omega | decide) (by first | rfl | assumption) ?_)
  refine S_op0 ?_
  refine W_storeM (b := g) (o := 0 + q * 1) (vs := [Tr.val x]) (by rfl) (by rfl) hr (by rfl) (by intro u hu; simp at hu; subst hu; rfl) rfl (by simp; omega) ?_
  intro w2 hg2 hr2
  rw [splice_one _ _ _ (by simp; omega), show 0 + q * 1 = q by omega, ← List.map_set] at hr2
  have hm2 := hm1.word hA hne hg2 hr2 (by simp)
  have hT2 := hT.grownBy hg2 (fun g' h => by cases h; exact ⟨hr.out, .inr (.inr ⟨_, hA, rfl⟩)⟩)
  (refine S_nil ?_; refine CW_seq ?_; refine CW_region rfl ?_; refine S_op ?_; refine W_moveInt (by first | rfl | assumption) ?_; refine S_op ?_; refine W_assignInt (by first | rfl | assumption) ?_; refine S_nil ?_; refine CW_ret ?_)
  exact ⟨_, ResW_one (v := .int _ _) rfl, rfl, hT2, hm2⟩
/-! ### CAS -/
theorem cas_no_Tr (hS : Sub H w) (hm : IsMem H w b A (ws.map Tr.val) s c) (i : Int) (x y : Tr) (hi : i < 0 ∨ (ws.length : Int) ≤ i) :
    CallW Try.prog 46 #[.pointer (some ⟨b, 0, none⟩), .int .i64 i, Tr.val x, Tr.val y] w fun v w' => v = .tuple #[.bool false, .int .i64 1] ∧ w' = w := by
  refine CallW_of_CW Try.func46 rfl Try.ntmps46 Try.results46 rfl ?_
  (refine CW_seq ?_; refine CW_region rfl ?_; refine S_op ?_; refine W_assignBool (by first | rfl | assumption) ?_; refine S_op ?_; refine W_assignInt (by first | rfl | assumption) ?_; refine S_nil ?_; refine CW_seq ?_; refine CW_seq ?_; refine CW_region rfl ?_; refine S_op ?_; refine W_movePtr (by first | rfl | assumption) ?_; refine S_op ?_; refine W_moveInt (by first | rfl | assumption) ?_)
  refine S_op ?_
  refine W_callW (by rfl) ((step_no_Tr hS hm i hi).mono ?_)
  rintro v w1 ⟨rfl, rfl⟩
  (refine S_op ?_; refine W_assignInt (by first | rfl | assumption) ?_; refine S_nil ?_; refine CW_seq ?_; refine CW_region rfl ?_; refine S_op ?_; refine W_moveInt (by first | rfl | assumption) ?_; refine S_op ?_; refine W_neqT (by first | rfl | assumption) (by first | rfl | assumption) (by first | omega | rfl) ?_; refine S_nil ?_; refine CW_true (by first | rfl | assumption) ?_; refine CW_seq ?_; refine CW_region rfl ?_; refine S_op ?_; refine W_moveInt (by first | rfl | assumption) ?_; refine S_op ?_; refine W_assignBool (by first | rfl | assumption) ?_; refine S_op ?_; refine W_assignInt (by first | rfl | assumption) ?_; refine S_nil ?_; refine CW_ret ?_)
  exact ⟨_, ResW_two (v1 := .bool _) (v2 := .int _ _) rfl rfl, rfl, rfl⟩
theorem cas_nil_Tr (w : World) (i : Int) (x y : Tr) :
    CallW Try.prog 46 #[.pointer none, .int .i64 i, Tr.val x, Tr.val y] w fun v w' => v = .tuple #[.bool false, .int .i64 1] ∧ w' = w := by
  refine CallW_of_CW Try.func46 rfl Try.ntmps46 Try.results46 rfl ?_
  (refine CW_seq ?_; refine CW_region rfl ?_; refine S_op ?_; refine W_assignBool (by first | rfl | assumption) ?_; refine S_op ?_; refine W_assignInt (by first | rfl | assumption) ?_; refine S_nil ?_; refine CW_seq ?_; refine CW_seq ?_; refine CW_region rfl ?_; refine S_op ?_; refine W_movePtr (by first | rfl | assumption) ?_; refine S_op ?_; refine W_moveInt (by first | rfl | assumption) ?_)
  refine S_op ?_
  refine W_callW (by rfl) ((step_nil_Tr w i).mono ?_)
  rintro v w1 ⟨rfl, rfl⟩
  (refine S_op ?_; refine W_assignInt (by first | rfl | assumption) ?_; refine S_nil ?_; refine CW_seq ?_; refine CW_region rfl ?_; refine S_op ?_; refine W_moveInt (by first | rfl | assumption) ?_; refine S_op ?_; refine W_neqT (by first | rfl | assumption) (by first | rfl | assumption) (by first | omega | rfl) ?_; refine S_nil ?_; refine CW_true (by first | rfl | assumption) ?_; refine CW_seq ?_; refine CW_region rfl ?_; refine S_op ?_; refine W_moveInt (by first | rfl | assumption) ?_; refine S_op ?_; refine W_assignBool (by first | rfl | assumption) ?_; refine S_op ?_; refine W_assignInt (by first | rfl | assumption) ?_; refine S_nil ?_; refine CW_ret ?_)
  exact ⟨_, ResW_two (v1 := .bool _) (v2 := .int _ _) rfl rfl, rfl, rfl⟩
theorem cas_yes_Tr (hS : Sub H w) (hm : IsMem H w b A (ws.map Tr.val) s c) (q : Nat) (x y : Tr) (hq : q < ws.length) (hs : s ≤ 1000000000) (hc : c ≤ 1000000000) (hat : Tr.At H (nth ws q)) (hxt : Tr.At H x) :
    CallW Try.prog 46 #[.pointer (some ⟨b, 0, none⟩), .int .i64 (q : Int), Tr.val x, Tr.val y] w fun v w' => v = .tuple #[.bool (sameT (nth ws q) x), .int .i64 0] ∧ Turn (memS b A) H w H w' ∧
      IsMem H w' b A ((if sameT (nth ws q) x = true then ws.set q y else ws).map Tr.val) (s + 1) (if sameT (nth ws q) x = true then c + 1 else c) := by
  refine CallW_of_CW Try.func46 rfl Try.ntmps46 Try.results46 rfl ?_
  (refine CW_seq ?_; refine CW_region rfl ?_; refine S_op ?_; refine W_assignBool (by first | rfl | assumption) ?_; refine S_op ?_; refine W_assignInt (by first | rfl | assumption) ?_; refine S_nil ?_; refine CW_seq ?_; refine CW_seq ?_; refine CW_region rfl ?_; refine S_op ?_; refine W_movePtr (by first | rfl | assumption) ?_; refine S_op ?_; refine W_moveInt (by first | rfl | assumption) ?_)
  refine S_op ?_
  refine W_callW (by rfl) ((step_yes_Tr hS hm q hq hs).mono ?_)
  rintro v w1 ⟨rfl, hT, hm1⟩
  have hc1 := hm1.cell
  rw [List.length_map] at hc1
  obtain ⟨g, hA, hne, hr⟩ := hm1.wordRow (q := q) (by simpa using hq)
  have hget := nth_get hq Tr.val
  have hS1 := hT.sub
  (refine S_op ?_; refine W_assignInt (by first | rfl | assumption) ?_; refine S_nil ?_; refine CW_seq ?_; refine CW_region rfl ?_; refine S_op ?_; refine W_moveInt (by first | rfl | assumption) ?_; refine S_op ?_; refine W_neqF (by first | rfl | assumption) (by first | rfl | assumption) (by first | omega | rfl) ?_; refine S_nil ?_; refine CW_false (by first | rfl | assumption) ?_; refine CW_skip ?_; refine CW_seq ?_; refine CW_seq ?_; refine CW_region rfl ?_; refine S_op ?_; refine W_movePtr (by first | rfl | assumption) ?_; refine S_op ?_; refine W_nilCheck (by first | rfl | assumption) ?_; refine S_op ?_; refine W_field (by first | rfl | assumption) ?_; refine S_op ?_; refine W_loadM (by first | rfl | assumption) (by assumption) (by rfl) ?_; refine S_op ?_; refine W_moveInt (by first | rfl | assumption) ?_; refine S_op ?_; refine W_index (by first | rfl | assumption) (by first | rfl | assumption) (by first | assumption | omega | decide) (by first | rfl | assumption) ?_)
  refine S_op ?_
  refine W_loadM (o := 0 + q * 1) (by rfl) hr (by simpa using hget) ?_
  (refine S_op ?_; refine W_movePtr (by first | rfl | assumption) ?_)
  refine S_op (W_trNeq (s := nth ws q) (t := x) (by rfl) (by rfl) hat hxt hS1 ?_)
  cases he : sameT (nth ws q) x with
  | true =>
    (refine S_nil ?_; refine CW_false (by first | rfl | assumption) ?_; refine CW_skip ?_; refine CW_seq ?_; refine CW_region rfl ?_; refine S_op ?_; refine W_movePtr (by first | rfl | assumption) ?_; refine S_op ?_; refine W_nilCheck (by first | rfl | assumption) ?_; refine S_op ?_; refine W_field (by first | rfl | assumption) ?_; refine S_op ?_; refine W_loadM (by first | rfl | assumption) (by assumption) (by rfl) ?_; refine S_op ?_; refine W_moveInt (by first | rfl | assumption) ?_; refine S_op ?_; refine W_movePtr (by first | rfl | assumption) ?_; refine S_op ?_; refine W_index (by first | rfl | assumption) (by first | rfl | assumption) (by first | assumption | omega | decide) (by first | rfl | assumption) ?_)
    refine S_op0 ?_
    refine W_storeM (b := g) (o := 0 + q * 1) (vs := [Tr.val y]) (by rfl) (by rfl) hr (by rfl) (by intro u hu; simp at hu; subst hu; rfl) rfl (by simp; omega) ?_
    intro w2 hg2 hr2
    rw [splice_one _ _ _ (by simp; omega), show 0 + q * 1 = q by omega, ← List.map_set] at hr2
    have hm2 := hm1.word hA hne hg2 hr2 (by simp)
    have hT2 := hT.grownBy hg2 (fun g' h => by cases h; exact ⟨hr.out, .inr (.inr ⟨_, hA, rfl⟩)⟩)
    have hc2 := hm2.cell
    rw [List.length_map, List.length_set] at hc2
    clear hc1 hr hr2 hget
    (refine S_nil ?_; refine CW_seq ?_; refine CW_region rfl ?_; refine S_op ?_; refine W_movePtr (by first | rfl | assumption) ?_; refine S_op ?_; refine W_nilCheck (by first | rfl | assumption) ?_; refine S_op ?_; refine W_field (by first | rfl | assumption) ?_; refine S_op ?_; refine W_loadM (by first | rfl | assumption) (by assumption) (by rfl) ?_; refine S_op ?_; refine W_add1 (by first | rfl | assumption) (by omega) ?_; refine S_op ?_; refine W_nilCheck (by first | rfl | assumption) ?_; refine S_op ?_; refine W_field (by first | rfl | assumption) ?_)
    refine S_op0 ?_
    refine W_storeM (b := b) (o := 2) (vs := [.int .i64 ((c + 1 : Nat) : Int)]) (by rfl) (by rfl) hc2 (by rfl) (by intro u hu; simp at hu; subst hu; rfl) rfl (by show 2 + 1 ≤ 3; decide) ?_
    intro w3 hg3 hc3
    have hm3 := hm2.count hg3 (s' := s + 1) (c' := c + 1) (by rw [List.length_map, List.length_set]; exact hc3)
    have hT3 := hT2.grownBy hg3 (fun g h => by cases h; exact ⟨hc2.out, .inr (.inl rfl)⟩)
    clear hc2 hc3
    (refine S_nil ?_; refine CW_seq ?_; refine CW_region rfl ?_; refine S_op ?_; refine W_assignBool (by first | rfl | assumption) ?_; refine S_op ?_; refine W_assignInt (by first | rfl | assumption) ?_; refine S_nil ?_; refine CW_ret ?_)
    exact ⟨_, ResW_two (v1 := .bool _) (v2 := .int _ _) rfl rfl, rfl, hT3, hm3⟩
  | false =>
    (refine S_nil ?_; refine CW_true (by first | rfl | assumption) ?_; refine CW_seq ?_; refine CW_region rfl ?_; refine S_op ?_; refine W_assignBool (by first | rfl | assumption) ?_; refine S_op ?_; refine W_assignInt (by first | rfl | assumption) ?_; refine S_nil ?_; refine CW_ret ?_)
    exact ⟨_, ResW_two (v1 := .bool _) (v2 := .int _ _) rfl rfl, rfl, hT, hm1⟩
/-! ### Steps, Changes, New -/
theorem steps_Tr (hS : Sub H w) (hm : IsMem H w b A (ws.map Tr.val) s c) : CallW Try.prog 29 #[.pointer (some ⟨b, 0, none⟩)] w fun v w' => v = .int .i64 (s : Int) ∧ w' = w := by
  refine CallW_of_CW Try.func29 rfl Try.ntmps29 Try.results29 rfl ?_
  have hm1 := hm.cell
  (refine CW_seq ?_; refine CW_region rfl ?_; refine S_op ?_; refine W_assignInt (by first | rfl | assumption) ?_; refine S_nil ?_; refine CW_seq ?_; refine CW_seq ?_; refine CW_region rfl ?_; refine S_op ?_; refine W_movePtr (by first | rfl | assumption) ?_; refine S_op ?_; refine W_peqnil (by first | rfl | assumption) (by first | rfl | assumption) ?_; refine S_nil ?_; refine CW_false (by first | rfl | assumption) ?_; refine CW_skip ?_; refine CW_seq ?_; refine CW_region rfl ?_; refine S_op ?_; refine W_movePtr (by first | rfl | assumption) ?_; refine S_op ?_; refine W_nilCheck (by first | rfl | assumption) ?_; refine S_op ?_; refine W_field (by first | rfl | assumption) ?_; refine S_op ?_; refine W_loadM (by first | rfl | assumption) (by assumption) (by rfl) ?_; refine S_op ?_; refine W_assignInt (by first | rfl | assumption) ?_; refine S_nil ?_; refine CW_ret ?_)
  exact ⟨_, ResW_one (v := .int _ _) rfl, rfl, rfl⟩
theorem changes_Tr (hS : Sub H w) (hm : IsMem H w b A (ws.map Tr.val) s c) : CallW Try.prog 24 #[.pointer (some ⟨b, 0, none⟩)] w fun v w' => v = .int .i64 (c : Int) ∧ w' = w := by
  refine CallW_of_CW Try.func24 rfl Try.ntmps24 Try.results24 rfl ?_
  have hm1 := hm.cell
  (refine CW_seq ?_; refine CW_region rfl ?_; refine S_op ?_; refine W_assignInt (by first | rfl | assumption) ?_; refine S_nil ?_; refine CW_seq ?_; refine CW_seq ?_; refine CW_region rfl ?_; refine S_op ?_; refine W_movePtr (by first | rfl | assumption) ?_; refine S_op ?_; refine W_peqnil (by first | rfl | assumption) (by first | rfl | assumption) ?_; refine S_nil ?_; refine CW_false (by first | rfl | assumption) ?_; refine CW_skip ?_; refine CW_seq ?_; refine CW_region rfl ?_; refine S_op ?_; refine W_movePtr (by first | rfl | assumption) ?_; refine S_op ?_; refine W_nilCheck (by first | rfl | assumption) ?_; refine S_op ?_; refine W_field (by first | rfl | assumption) ?_; refine S_op ?_; refine W_loadM (by first | rfl | assumption) (by assumption) (by rfl) ?_; refine S_op ?_; refine W_assignInt (by first | rfl | assumption) ?_; refine S_nil ?_; refine CW_ret ?_)
  exact ⟨_, ResW_one (v := .int _ _) rfl, rfl, rfl⟩
theorem steps_nil_Tr (w : World) : CallW Try.prog 29 #[.pointer none] w fun v w' => v = .int .i64 0 ∧ w' = w := by
  refine CallW_of_CW Try.func29 rfl Try.ntmps29 Try.results29 rfl ?_
  (refine CW_seq ?_; refine CW_region rfl ?_; refine S_op ?_; refine W_assignInt (by first | rfl | assumption) ?_; refine S_nil ?_; refine CW_seq ?_; refine CW_seq ?_; refine CW_region rfl ?_; refine S_op ?_; refine W_movePtr (by first | rfl | assumption) ?_; refine S_op ?_; refine W_peqT (by first | rfl | assumption) (by first | rfl | assumption) (by first | rfl | assumption) ?_; refine S_nil ?_; refine CW_true (by first | rfl | assumption) ?_; refine CW_seq ?_; refine CW_region rfl ?_; refine S_op ?_; refine W_assignInt (by first | rfl | assumption) ?_; refine S_nil ?_; refine CW_ret ?_)
  exact ⟨_, ResW_one (v := .int _ _) rfl, rfl, rfl⟩
theorem changes_nil_Tr (w : World) : CallW Try.prog 24 #[.pointer none] w fun v w' => v = .int .i64 0 ∧ w' = w := by
  refine CallW_of_CW Try.func24 rfl Try.ntmps24 Try.results24 rfl ?_
  (refine CW_seq ?_; refine CW_region rfl ?_; refine S_op ?_; refine W_assignInt (by first | rfl | assumption) ?_; refine S_nil ?_; refine CW_seq ?_; refine CW_seq ?_; refine CW_region rfl ?_; refine S_op ?_; refine W_movePtr (by first | rfl | assumption) ?_; refine S_op ?_; refine W_peqT (by first | rfl | assumption) (by first | rfl | assumption) (by first | rfl | assumption) ?_; refine S_nil ?_; refine CW_true (by first | rfl | assumption) ?_; refine CW_seq ?_; refine CW_region rfl ?_; refine S_op ?_; refine W_assignInt (by first | rfl | assumption) ?_; refine S_nil ?_; refine CW_ret ?_)
  exact ⟨_, ResW_one (v := .int _ _) rfl, rfl, rfl⟩
end
theorem new_Tr (H : HF) (w : World) (hS : Sub H w) (n : Int) : CallW Try.prog 11 #[.int .i64 n] w fun v w' => ∃ b g, v = .pointer (some ⟨b, 0, none⟩) ∧ Grow H w H w' ∧ w.heap.size ≤ b ∧ w.heap.size ≤ g ∧ IsMem H w' b (some ⟨g, 0, none⟩) ((List.replicate (wordsOf n) default).map Tr.val) 0 0 := by
  refine CallW_of_CW Try.func11 rfl Try.ntmps11 Try.results11 rfl ?_
  (refine CW_seq ?_; refine CW_region rfl ?_; refine S_op ?_; refine W_assignPtr (by first | rfl | assumption) ?_; refine S_nil ?_; refine CW_seq ?_; refine CW_region rfl ?_; refine S_op ?_; refine W_moveInt (by first | rfl | assumption) ?_)
  refine S_op ?_
  refine W_min2 (by rfl) (by rfl) (q := min n 65536) rfl ?_
  refine S_op ?_
  have hw : wordsOf n ≤ 65536 := by unfold wordsOf; omega
  refine W_max2 (by rfl) (by rfl) (q := (wordsOf n : Int)) (by unfold wordsOf; omega) ?_
  refine S_op ?_
  refine W_make (l := wordsOf n) (c := wordsOf n) hS (by rfl) (by rfl) (Nat.le_refl _) (by omega) (by omega) (made_one (z := Tr.val default) _ rfl) ?_
  intro w1 g hG1 hg1 hm1
  (refine S_op ?_; refine W_build (by rfl) ?_)
  refine S_op ?_
  refine W_boxM (cs := [.slice (some ⟨g, 0, none⟩) (wordsOf n) (wordsOf n), .int .i64 0, .int .i64 0]) hG1.sub (by rfl) (by rfl) ?_
  intro w2 b hG2 hb2 hm2
  have hs1 := hG1.below.size
  have hgb : g ≠ b := by have := hm1.lt; omega
  have hm3 := hm1.grow hG2
  have hI : IsMem H w2 b (some ⟨g, 0, none⟩) ((List.replicate (wordsOf n) default).map Tr.val) 0 0 := ⟨by simpa using hm2, .inr ⟨g, rfl, hgb, by simpa using hm3⟩⟩
  clear hm1 hm2 hm3
  (refine S_op ?_; refine W_assignPtr (by first | rfl | assumption) ?_; refine S_nil ?_; refine CW_ret ?_)
  exact ⟨_, ResW_one (v := .pointer _) rfl, b, g, rfl, hG1.trans hG2, by omega, by omega, hI⟩
end Go.Proofs.Ytglhnfficliaoaa
