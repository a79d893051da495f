/- The reference's memory of layer 8. Conditions: sizes. -/
import Derived.Test.YtaimilhkfmpdoaaMemInt
namespace Go.Proofs.Ytaimilhkfmpdoaa
open Go.Proofs Go.RowKit
set_option linter.unusedVariables false
attribute [local irreducible] CW SeqW OpW
set_option maxHeartbeats 4000000
section
variable {H : HF} {w : World} {b : Nat} {A : Option Addr} {ws : List Int} {s c : Nat}
theorem rThere_no (hS : Sub H w) (hm : IsMem H w b A (ws.map vI) s c) (i : Int) (hi : i < 0 ∨ (ws.length : Int) ≤ i) :
    CallW Try.prog 48 #[.pointer (some ⟨b, 0, none⟩), .int .i64 i] w fun v w' => v = .bool false ∧ w' = w := by
  refine CallW_of_CW Try.func48 rfl Try.ntmps48 Try.results48 rfl ?_
  have hm1 := hm.cell
  rw [List.length_map] at hm1
  by_cases h0 : i < 0
  · (refine CW_seq ?_; refine CW_region rfl ?_; refine S_op ?_; refine W_assignBool (by first | rfl | assumption) ?_; refine S_nil ?_; refine CW_seq ?_; refine CW_region rfl ?_; refine S_op ?_; refine W_moveInt (by first | rfl | assumption) ?_; refine S_op ?_; refine W_geqF (by first | rfl | assumption) (by first | rfl | assumption) (by first | omega | rfl) ?_; refine S_op ?_; refine W_moveBool (by first | rfl | assumption) ?_; refine S_pass (by rfl) ?_; refine S_pass (by rfl) ?_; refine S_pass (by rfl) ?_; refine S_pass (by rfl) ?_; refine S_pass (by rfl) ?_; refine S_pass (by rfl) ?_; refine S_pass (by rfl) ?_; refine S_op ?_; refine W_pickF (by first | rfl | assumption) (by first | rfl | assumption) ?_; refine S_op ?_; refine W_assignBool (by first | rfl | assumption) ?_; refine S_nil ?_; refine CW_ret ?_)
    exact ⟨_, ResW_one (v := .bool _) rfl, rfl, rfl⟩
  · have h1 : (ws.length : Int) ≤ i := by omega
    (refine CW_seq ?_; refine CW_region rfl ?_; refine S_op ?_; refine W_assignBool (by first | rfl | assumption) ?_; refine S_nil ?_; refine CW_seq ?_; refine CW_region rfl ?_; refine S_op ?_; refine W_moveInt (by first | rfl | assumption) ?_; refine S_op ?_; refine W_geqT (by first | rfl | assumption) (by first | rfl | assumption) (by first | omega | rfl) ?_; refine S_op ?_; refine W_moveBool (by first | rfl | assumption) ?_; refine S_want (by rfl) ?_; refine W_moveInt (by first | rfl | assumption) ?_; refine S_want (by rfl) ?_; refine W_movePtr (by first | rfl | assumption) ?_; refine S_want (by rfl) ?_; refine W_nilCheck (by first | rfl | assumption) ?_; refine S_want (by rfl) ?_; refine W_field (by first | rfl | assumption) ?_; refine S_want (by rfl) ?_; refine W_loadM (by first | rfl | assumption) (by assumption) (by rfl) ?_; refine S_want (by rfl) ?_; refine W_len (by first | rfl | assumption) ?_; refine S_want (by rfl) ?_; refine W_lssF (by first | rfl | assumption) (by first | rfl | assumption) (by first | omega | rfl) ?_; refine S_op ?_; refine W_pickT (by first | rfl | assumption) (by first | rfl | assumption) ?_; refine S_op ?_; refine W_assignBool (by first | rfl | assumption) ?_; refine S_nil ?_; refine CW_ret ?_)
    exact ⟨_, ResW_one (v := .bool _) rfl, rfl, rfl⟩
theorem rThere_yes (hS : Sub H w) (hm : IsMem H w b A (ws.map vI) s c) (q : Nat) (hq : q < ws.length) :
    CallW Try.prog 48 #[.pointer (some ⟨b, 0, none⟩), .int .i64 (q : Int)] w fun v w' => v = .bool true ∧ w' = w := by
  refine CallW_of_CW Try.func48 rfl Try.ntmps48 Try.results48 rfl ?_
  have hm1 := hm.cell
  rw [List.length_map] at hm1
  (refine CW_seq ?_; refine CW_region rfl ?_; refine S_op ?_; refine W_assignBool (by first | rfl | assumption) ?_; refine S_nil ?_; refine CW_seq ?_; refine CW_region rfl ?_; refine S_op ?_; refine W_moveInt (by first | rfl | assumption) ?_; refine S_op ?_; refine W_geqT (by first | rfl | assumption) (by first | rfl | assumption) (by first | omega | rfl) ?_; refine S_op ?_; refine W_moveBool (by first | rfl | assumption) ?_; refine S_want (by rfl) ?_; refine W_moveInt (by first | rfl | assumption) ?_; refine S_want (by rfl) ?_; refine W_movePtr (by first | rfl | assumption) ?_; refine S_want (by rfl) ?_; refine W_nilCheck (by first | rfl | assumption) ?_; refine S_want (by rfl) ?_; refine W_field (by first | rfl | assumption) ?_; refine S_want (by rfl) ?_; refine W_loadM (by first | rfl | assumption) (by assumption) (by rfl) ?_; refine S_want (by rfl) ?_; refine W_len (by first | rfl | assumption) ?_; refine S_want (by rfl) ?_; refine W_lssT (by first | rfl | assumption) (by first | rfl | assumption) (by first | omega | rfl) ?_; refine S_op ?_; refine W_pickT (by first | rfl | assumption) (by first | rfl | assumption) ?_; refine S_op ?_; refine W_assignBool (by first | rfl | assumption) ?_; refine S_nil ?_; refine CW_ret ?_)
  exact ⟨_, ResW_one (v := .bool _) rfl, rfl, rfl⟩
theorem rLoad_no (hS : Sub H w) (hm : IsMem H w b A (ws.map vI) s c) (i : Int) (hi : i < 0 ∨ (ws.length : Int) ≤ i) :
    CallW Try.prog 18 #[.pointer (some ⟨b, 0, none⟩), .int .i64 i] w fun v w' => v = .tuple #[.int .i64 0, .int .i64 1] ∧ w' = w := by
  refine CallW_of_CW Try.func18 rfl Try.ntmps18 Try.results18 rfl ?_
  (refine CW_seq ?_; refine CW_region rfl ?_; refine S_op ?_; refine W_assignInt (by first | rfl | assumption) ?_; refine S_op ?_; refine W_assignInt (by first | rfl | assumption) ?_; refine S_nil ?_; refine CW_seq ?_; refine CW_seq ?_; refine CW_region rfl ?_; refine S_op ?_; refine W_movePtr (by first | rfl | assumption) ?_; refine S_op ?_; refine W_moveInt (by first | rfl | assumption) ?_)
  refine S_op ?_
  refine W_callW (by rfl) ((rThere_no hS hm i hi).mono ?_)
  rintro v w1 ⟨rfl, rfl⟩
  (refine S_op ?_; refine W_not (by first | rfl | assumption) ?_; refine S_nil ?_; refine CW_true (by first | rfl | assumption) ?_; refine CW_seq ?_; refine CW_region rfl ?_; refine S_op ?_; refine W_assignInt (by first | rfl | assumption) ?_; refine S_op ?_; refine W_assignInt (by first | rfl | assumption) ?_; refine S_nil ?_; refine CW_ret ?_)
  exact ⟨_, ResW_two (v1 := .int _ _) (v2 := .int _ _) rfl rfl, rfl, rfl⟩
theorem rLoad_yes (hS : Sub H w) (hm : IsMem H w b A (ws.map vI) s c) (q : Nat) (hq : q < ws.length) (hs : s ≤ 1000000000) :
    CallW Try.prog 18 #[.pointer (some ⟨b, 0, none⟩), .int .i64 (q : Int)] w fun v w' => v = .tuple #[vI (nth ws q), .int .i64 0] ∧ Turn (memS b A) H w H w' ∧ IsMem H w' b A (ws.map vI) (s + 1) c := by
  refine CallW_of_CW Try.func18 rfl Try.ntmps18 Try.results18 rfl ?_
  (refine CW_seq ?_; refine CW_region rfl ?_; refine S_op ?_; refine W_assignInt (by first | rfl | assumption) ?_; refine S_op ?_; refine W_assignInt (by first | rfl | assumption) ?_; refine S_nil ?_; refine CW_seq ?_; refine CW_seq ?_; refine CW_region rfl ?_; refine S_op ?_; refine W_movePtr (by first | rfl | assumption) ?_; refine S_op ?_; refine W_moveInt (by first | rfl | assumption) ?_)
  refine S_op ?_
  refine W_callW (by rfl) ((rThere_yes hS hm q hq).mono ?_)
  rintro v w1 ⟨rfl, rfl⟩
  have hc0 := hm.cell
  rw [List.length_map] at hc0
  (refine S_op ?_; refine W_not (by first | rfl | assumption) ?_; refine S_nil ?_; refine CW_false (by first | rfl | assumption) ?_; refine CW_skip ?_; refine CW_seq ?_; refine CW_region rfl ?_; refine S_op ?_; refine W_movePtr (by first | rfl | assumption) ?_; refine S_op ?_; refine W_nilCheck (by first | rfl | assumption) ?_; refine S_op ?_; refine W_field (by first | rfl | assumption) ?_; refine S_op ?_; refine W_loadM (by first | rfl | assumption) (by assumption) (by rfl) ?_; refine S_op ?_; refine W_add1 (by first | rfl | assumption) (by omega) ?_; refine S_op ?_; refine W_nilCheck (by first | rfl | assumption) ?_; refine S_op ?_; refine W_field (by first | rfl | assumption) ?_)
  refine S_op0 ?_
  refine W_storeM (b := b) (o := 1) (vs := [.int .i64 ((s + 1 : Nat) : Int)]) (by rfl) (by rfl) hc0 (by rfl) (by intro u hu; simp at hu; subst hu; rfl) rfl (by show 1 + 1 ≤ 3; decide) ?_
  intro w1 hg1 hm2
  have hm1 := hm.count hg1 (s' := s + 1) (c' := c) (by rw [List.length_map]; exact hm2)
  have hT := (Turn.refl (S := memS b A) hS).grownBy hg1 (fun g h => by cases h; exact ⟨hc0.out, .inr (.inl rfl)⟩)
  clear hc0 hm2
  have hc1 := hm1.cell
  rw [List.length_map] at hc1
  obtain ⟨g, hA, hne, hr⟩ := hm1.wordRow (q := q) (by simpa using hq)
  have hget := nth_get hq vI
  have hS1 := hT.sub
  (refine S_nil ?_; refine CW_seq ?_; refine CW_region rfl ?_; refine S_op ?_; refine W_movePtr (by first | rfl | assumption) ?_; refine S_op ?_; refine W_nilCheck (by first | rfl | assumption) ?_; refine S_op ?_; refine W_field (by first | rfl | assumption) ?_; refine S_op ?_; refine W_loadM (by first | rfl | assumption) (by assumption) (by rfl) ?_; refine S_op ?_; refine W_moveInt (by first | rfl | assumption) ?_; refine S_op ?_; refine W_index (by first | rfl | assumption) (by first | rfl | assumption) (by first | assumption | omega | decide) (by first | rfl | assumption) ?_)
  refine S_op ?_
  refine W_loadM (o := 0 + q * 1) (by rfl) hr (by simpa using hget) ?_
  simp only [vI]
  (refine S_op ?_; refine W_assignInt (by first | rfl | assumption) ?_; refine S_op ?_; refine W_assignInt (by first | rfl | assumption) ?_; refine S_nil ?_; refine CW_ret ?_)
  exact ⟨_, ResW_two (v1 := vI _) (v2 := .int _ _) rfl rfl, rfl, hT, hm1⟩
theorem rStore_no (hS : Sub H w) (hm : IsMem H w b A (ws.map vI) s c) (i x : Int) (hi : i < 0 ∨ (ws.length : Int) ≤ i) :
    CallW Try.prog 20 #[.pointer (some ⟨b, 0, none⟩), .int .i64 i, vI x] w fun v w' => v = .int .i64 1 ∧ w' = w := by
  refine CallW_of_CW Try.func20 rfl Try.ntmps20 Try.results20 rfl ?_
  (refine CW_seq ?_; refine CW_region rfl ?_; refine S_op ?_; refine W_assignInt (by first | rfl | assumption) ?_; refine S_nil ?_; refine CW_seq ?_; refine CW_seq ?_; refine CW_region rfl ?_; refine S_op ?_; refine W_movePtr (by first | rfl | assumption) ?_; refine S_op ?_; refine W_moveInt (by first | rfl | assumption) ?_)
  refine S_op ?_
  refine W_callW (by rfl) ((rThere_no hS hm i hi).mono ?_)
  rintro v w1 ⟨rfl, rfl⟩
  (refine S_op ?_; refine W_not (by first | rfl | assumption) ?_; refine S_nil ?_; refine CW_true (by first | rfl | assumption) ?_; refine CW_seq ?_; refine CW_region rfl ?_; refine S_op ?_; refine W_assignInt (by first | rfl | assumption) ?_; refine S_nil ?_; refine CW_ret ?_)
  exact ⟨_, ResW_one (v := .int _ _) rfl, rfl, rfl⟩
theorem rStore_yes (hS : Sub H w) (hm : IsMem H w b A (ws.map vI) s c) (q : Nat) (x : Int) (hq : q < ws.length) (hs : s ≤ 1000000000) :
    CallW Try.prog 20 #[.pointer (some ⟨b, 0, none⟩), .int .i64 (q : Int), vI x] w fun v w' => v = .int .i64 0 ∧ Turn (memS b A) H w H w' ∧ IsMem H w' b A ((ws.set q x).map vI) (s + 1) c := by
  refine CallW_of_CW Try.func20 rfl Try.ntmps20 Try.results20 rfl ?_
  (refine CW_seq ?_; refine CW_region rfl ?_; refine S_op ?_; refine W_assignInt (by first | rfl | assumption) ?_; refine S_nil ?_; refine CW_seq ?_; refine CW_seq ?_; refine CW_region rfl ?_; refine S_op ?_; refine W_movePtr (by first | rfl | assumption) ?_; refine S_op ?_; refine W_moveInt (by first | rfl | assumption) ?_)
  refine S_op ?_
  refine W_callW (by rfl) ((rThere_yes hS hm q hq).mono ?_)
  rintro v w1 ⟨rfl, rfl⟩
  have hc0 := hm.cell
  rw [List.length_map] at hc0
  (refine S_op ?_; refine W_not (by first | rfl | assumption) ?_; refine S_nil ?_; refine CW_false (by first | rfl | assumption) ?_; refine CW_skip ?_; refine CW_seq ?_; refine CW_region rfl ?_; refine S_op ?_; refine W_movePtr (by first | rfl | assumption) ?_; refine S_op ?_; refine W_nilCheck (by first | rfl | assumption) ?_; refine S_op ?_; refine W_field (by first | rfl | assumption) ?_; refine S_op ?_; refine W_loadM (by first | rfl | assumption) (by assumption) (by rfl) ?_; refine S_op ?_; refine W_add1 (by first | rfl | assumption) (by omega) ?_; refine S_op ?_; refine W_nilCheck (by first | rfl | assumption) ?_; refine S_op ?_; refine W_field (by first | rfl | assumption) ?_)
  refine S_op0 ?_
  refine W_storeM (b := b) (o := 1) (vs := [.int .i64 ((s + 1 : Nat) : Int)]) (by rfl) (by rfl) hc0 (by rfl) (by intro u hu; simp at hu; subst hu; rfl) rfl (by show 1 + 1 ≤ 3; decide) ?_
  intro w1 hg1 hm2
  have hm1 := hm.count hg1 (s' := s + 1) (c' := c) (by rw [List.length_map]; exact hm2)
  have hT := (Turn.refl (S := memS b A) hS).grownBy hg1 (fun g h => by cases h; exact ⟨hc0.out, .inr (.inl rfl)⟩)
  clear hc0 hm2
  have hc1 := hm1.cell
  rw [List.length_map] at hc1
  obtain ⟨g, hA, hne, hr⟩ := hm1.wordRow (q := q) (by simpa using hq)
  have hget := nth_get hq vI
  have hS1 := hT.sub
  (refine S_nil ?_; refine CW_seq ?_; refine CW_region rfl ?_; refine S_op ?_; refine W_movePtr (by first | rfl | assumption) ?_; refine S_op ?_; refine W_nilCheck (by first | rfl | assumption) ?_; refine S_op ?_; refine W_field (by first | rfl | assumption) ?_; refine S_op ?_; refine W_loadM (by first | rfl | assumption) (by assumption) (by rfl) ?_; refine S_op ?_; refine W_moveInt (by first | rfl | assumption) ?_; refine S_op ?_; refine W_moveInt (by first | rfl | assumption) ?_; refine S_op ?_; refine W_index (by first | rfl | assumption) (by first | rfl | assumption) (by first | assumption | omega | decide) (by first | rfl | assumption) ?_)
  refine S_op0 ?_
  refine W_storeM (b := g) (o := 0 + q * 1) (vs := [vI x]) (by rfl) (by rfl) hr (by rfl) (by intro u hu; simp at hu; subst hu; rfl) rfl (by simp; omega) ?_
  intro w2 hg2 hr2
  rw [splice_one _ _ _ (by simp; omega), show 0 + q * 1 = q by omega, ← List.map_set] at hr2
  have hm2 := hm1.word hA hne hg2 hr2 (by simp)
  have hT2 := hT.grownBy hg2 (fun g' h => by cases h; exact ⟨hr.out, .inr (.inr ⟨_, hA, rfl⟩)⟩)
  (refine S_nil ?_; refine CW_seq ?_; refine CW_region rfl ?_; refine S_op ?_; refine W_assignInt (by first | rfl | assumption) ?_; refine S_nil ?_; refine CW_ret ?_)
  exact ⟨_, ResW_one (v := .int _ _) rfl, rfl, hT2, hm2⟩
theorem rCas_no (hS : Sub H w) (hm : IsMem H w b A (ws.map vI) s c) (i x y : Int) (hi : i < 0 ∨ (ws.length : Int) ≤ i) :
    CallW Try.prog 22 #[.pointer (some ⟨b, 0, none⟩), .int .i64 i, vI x, vI y] w fun v w' => v = .tuple #[.bool false, .int .i64 1] ∧ w' = w := by
  refine CallW_of_CW Try.func22 rfl Try.ntmps22 Try.results22 rfl ?_
  (refine CW_seq ?_; refine CW_region rfl ?_; refine S_op ?_; refine W_assignBool (by first | rfl | assumption) ?_; refine S_op ?_; refine W_assignInt (by first | rfl | assumption) ?_; refine S_nil ?_; refine CW_seq ?_; refine CW_seq ?_; refine CW_region rfl ?_; refine S_op ?_; refine W_movePtr (by first | rfl | assumption) ?_; refine S_op ?_; refine W_moveInt (by first | rfl | assumption) ?_)
  refine S_op ?_
  refine W_callW (by rfl) ((rThere_no hS hm i hi).mono ?_)
  rintro v w1 ⟨rfl, rfl⟩
  (refine S_op ?_; refine W_not (by first | rfl | assumption) ?_; refine S_nil ?_; refine CW_true (by first | rfl | assumption) ?_; refine CW_seq ?_; refine CW_region rfl ?_; refine S_op ?_; refine W_assignBool (by first | rfl | assumption) ?_; refine S_op ?_; refine W_assignInt (by first | rfl | assumption) ?_; refine S_nil ?_; refine CW_ret ?_)
  exact ⟨_, ResW_two (v1 := .bool _) (v2 := .int _ _) rfl rfl, rfl, rfl⟩
theorem rCas_yes (hS : Sub H w) (hm : IsMem H w b A (ws.map vI) s c) (q : Nat) (x y : Int) (hq : q < ws.length) (hs : s ≤ 1000000000) (hc : c ≤ 1000000000) :
    CallW Try.prog 22 #[.pointer (some ⟨b, 0, none⟩), .int .i64 (q : Int), vI x, vI y] w fun v w' => v = .tuple #[.bool (decide (nth ws q = x)), .int .i64 0] ∧ Turn (memS b A) H w H w' ∧
      IsMem H w' b A ((if nth ws q = x then ws.set q y else ws).map vI) (s + 1) (if nth ws q = x then c + 1 else c) := by
  refine CallW_of_CW Try.func22 rfl Try.ntmps22 Try.results22 rfl ?_
  (refine CW_seq ?_; refine CW_region rfl ?_; refine S_op ?_; refine W_assignBool (by first | rfl | assumption) ?_; refine S_op ?_; refine W_assignInt (by first | rfl | assumption) ?_; refine S_nil ?_; refine CW_seq ?_; refine CW_seq ?_; refine CW_region rfl ?_; refine S_op ?_; refine W_movePtr (by first | rfl | assumption) ?_; refine S_op ?_; refine W_moveInt (by first | rfl | assumption) ?_)
  refine S_op ?_
  refine W_callW (by rfl) ((rThere_yes hS hm q hq).mono ?_)
  rintro v w1 ⟨rfl, rfl⟩
  have hc0 := hm.cell
  rw [List.length_map] at hc0
  (refine S_op ?_; refine W_not (by first | rfl | assumption) ?_; refine S_nil ?_; refine CW_false (by first | rfl | assumption) ?_; refine CW_skip ?_; refine CW_seq ?_; refine CW_region rfl ?_; refine S_op ?_; refine W_movePtr (by first | rfl | assumption) ?_; refine S_op ?_; refine W_nilCheck (by first | rfl | assumption) ?_; refine S_op ?_; refine W_field (by first | rfl | assumption) ?_; refine S_op ?_; refine W_loadM (by first | rfl | assumption) (by assumption) (by rfl) ?_; refine S_op ?_; refine W_add1 (by first | rfl | assumption) (by omega) ?_; refine S_op ?_; refine W_nilCheck (by first | rfl | assumption) ?_; refine S_op ?_; refine W_field (by first | rfl | assumption) ?_)
  refine S_op0 ?_
  refine W_storeM (b := b) (o := 1) (vs := [.int .i64 ((s + 1 : Nat) : Int)]) (by rfl) (by rfl) hc0 (by rfl) (by intro u hu; simp at hu; subst hu; rfl) rfl (by show 1 + 1 ≤ 3; decide) ?_
  intro w1 hg1 hm2
  have hm1 := hm.count hg1 (s' := s + 1) (c' := c) (by rw [List.length_map]; exact hm2)
  have hT := (Turn.refl (S := memS b A) hS).grownBy hg1 (fun g h => by cases h; exact ⟨hc0.out, .inr (.inl rfl)⟩)
  clear hc0 hm2
  have hc1 := hm1.cell
  rw [List.length_map] at hc1
  obtain ⟨g, hA, hne, hr⟩ := hm1.wordRow (q := q) (by simpa using hq)
  have hget := nth_get hq vI
  have hS1 := hT.sub
  (refine S_nil ?_; refine CW_seq ?_; refine CW_seq ?_; refine CW_region rfl ?_; refine S_op ?_; refine W_movePtr (by first | rfl | assumption) ?_; refine S_op ?_; refine W_nilCheck (by first | rfl | assumption) ?_; refine S_op ?_; refine W_field (by first | rfl | assumption) ?_; refine S_op ?_; refine W_loadM (by first | rfl | assumption) (by assumption) (by rfl) ?_; refine S_op ?_; refine W_moveInt (by first | rfl | assumption) ?_; refine S_op ?_; refine W_index (by first | rfl | assumption) (by first | rfl | assumption) (by first | assumption | omega | decide) (by first | rfl | assumption) ?_)
  refine S_op ?_
  refine W_loadM (o := 0 + q * 1) (by rfl) hr (by simpa using hget) ?_
  simp only [vI]
  by_cases he : nth ws q = x
  · (refine S_op ?_; refine W_moveInt (by first | rfl | assumption) ?_; refine S_op ?_; refine W_neqF (by first | rfl | assumption) (by first | rfl | assumption) (by first | omega | rfl) ?_; refine S_nil ?_; refine CW_false (by first | rfl | assumption) ?_; refine CW_skip ?_; refine CW_seq ?_; refine CW_region rfl ?_; refine S_op ?_; refine W_movePtr (by first | rfl | assumption) ?_; refine S_op ?_; refine W_nilCheck (by first | rfl | assumption) ?_; refine S_op ?_; refine W_field (by first | rfl | assumption) ?_; refine S_op ?_; refine W_loadM (by first | rfl | assumption) (by assumption) (by rfl) ?_; refine S_op ?_; refine W_moveInt (by first | rfl | assumption) ?_; refine S_op ?_; refine W_moveInt (by first | rfl | assumption) ?_; refine S_op ?_; refine W_index (by first | rfl | assumption) (by first | rfl | assumption) (by first | assumption | omega | decide) (by first | rfl | assumption) ?_)
    refine S_op0 ?_
    refine W_storeM (b := g) (o := 0 + q * 1) (vs := [vI y]) (by rfl) (by rfl) hr (by rfl) (by intro u hu; simp at hu; subst hu; rfl) rfl (by simp; omega) ?_
    intro w2 hg2 hr2
    rw [splice_one _ _ _ (by simp; omega), show 0 + q * 1 = q by omega, ← List.map_set] at hr2
    have hm2 := hm1.word hA hne hg2 hr2 (by simp)
    have hT2 := hT.grownBy hg2 (fun g' h => by cases h; exact ⟨hr.out, .inr (.inr ⟨_, hA, rfl⟩)⟩)
    have hc2 := hm2.cell
    rw [List.length_map, List.length_set] at hc2
    clear hc1 hr hr2 hget
    (refine S_nil ?_; refine CW_seq ?_; refine CW_region rfl ?_; refine S_op ?_; refine W_movePtr (by first | rfl | assumption) ?_; refine S_op ?_; refine W_nilCheck (by first | rfl | assumption) ?_; refine S_op ?_; refine W_field (by first | rfl | assumption) ?_; refine S_op ?_; refine W_loadM (by first | rfl | assumption) (by assumption) (by rfl) ?_; refine S_op ?_; refine W_add1 (by first | rfl | assumption) (by omega) ?_; refine S_op ?_; refine W_nilCheck (by first | rfl | assumption) ?_; refine S_op ?_; refine W_field (by first | rfl | assumption) ?_)
    refine S_op0 ?_
    refine W_storeM (b := b) (o := 2) (vs := [.int .i64 ((c + 1 : Nat) : Int)]) (by rfl) (by rfl) hc2 (by rfl) (by intro u hu; simp at hu; subst hu; rfl) rfl (by show 2 + 1 ≤ 3; decide) ?_
    intro w3 hg3 hc3
    have hm3 := hm2.count hg3 (s' := s + 1) (c' := c + 1) (by rw [List.length_map, List.length_set]; exact hc3)
    have hT3 := hT2.grownBy hg3 (fun g h => by cases h; exact ⟨hc2.out, .inr (.inl rfl)⟩)
    clear hc2 hc3
    (refine S_nil ?_; refine CW_seq ?_; refine CW_region rfl ?_; refine S_op ?_; refine W_assignBool (by first | rfl | assumption) ?_; refine S_op ?_; refine W_assignInt (by first | rfl | assumption) ?_; refine S_nil ?_; refine CW_ret ?_)
    exact ⟨_, ResW_two (v1 := .bool _) (v2 := .int _ _) rfl rfl, by simp [he], hT3, by simpa [he] using hm3⟩
  · (refine S_op ?_; refine W_moveInt (by first | rfl | assumption) ?_; refine S_op ?_; refine W_neqT (by first | rfl | assumption) (by first | rfl | assumption) (by first | omega | rfl) ?_; refine S_nil ?_; refine CW_true (by first | rfl | assumption) ?_; refine CW_seq ?_; refine CW_region rfl ?_; refine S_op ?_; refine W_assignBool (by first | rfl | assumption) ?_; refine S_op ?_; refine W_assignInt (by first | rfl | assumption) ?_; refine S_nil ?_; refine CW_ret ?_)
    exact ⟨_, ResW_two (v1 := .bool _) (v2 := .int _ _) rfl rfl, by simp [he], hT, by simpa [he] using hm1⟩
end
theorem rNew (H : HF) (w : World) (hS : Sub H w) (n : Int) : CallW Try.prog 16 #[.int .i64 n] w fun v w' => ∃ b g, v = .pointer (some ⟨b, 0, none⟩) ∧ Grow H w H w' ∧ w.heap.size ≤ b ∧ w.heap.size ≤ g ∧ IsMem H w' b (some ⟨g, 0, none⟩) ((List.replicate (wordsOf n) default).map vI) 0 0 := by
  refine CallW_of_CW Try.func16 rfl Try.ntmps16 Try.results16 rfl ?_
  (refine CW_seq ?_; refine CW_region rfl ?_; refine S_op ?_; refine W_assignPtr (by first | rfl | assumption) ?_; refine S_nil ?_; refine CW_seq ?_; refine CW_region rfl ?_; refine S_op ?_; refine W_moveInt (by first | rfl | assumption) ?_)
  refine S_op ?_
  refine W_min2 (by rfl) (by rfl) (q := min n 65536) rfl ?_
  refine S_op ?_
  have hw : wordsOf n ≤ 65536 := by unfold wordsOf; omega
  refine W_max2 (by rfl) (by rfl) (q := (wordsOf n : Int)) (by unfold wordsOf; omega) ?_
  refine S_op ?_
  refine W_make (l := wordsOf n) (c := wordsOf n) hS (by rfl) (by rfl) (Nat.le_refl _) (by omega) (by omega) (made_one (z := vI default) _ rfl) ?_
  intro w1 g hG1 hg1 hm1
  (refine S_op ?_; refine W_build (by rfl) ?_)
  refine S_op ?_
  refine W_boxM (cs := [.slice (some ⟨g, 0, none⟩) (wordsOf n) (wordsOf n), .int .i64 0, .int .i64 0]) hG1.sub (by rfl) (by rfl) ?_
  intro w2 b hG2 hb2 hm2
  have hs1 := hG1.below.size
  have hgb : g ≠ b := by have := hm1.lt; omega
  have hm3 := hm1.grow hG2
  have hI : IsMem H w2 b (some ⟨g, 0, none⟩) ((List.replicate (wordsOf n) default).map vI) 0 0 := ⟨by simpa using hm2, .inr ⟨g, rfl, hgb, by simpa using hm3⟩⟩
  clear hm1 hm2 hm3
  (refine S_op ?_; refine W_assignPtr (by first | rfl | assumption) ?_; refine S_nil ?_; refine CW_ret ?_)
  exact ⟨_, ResW_one (v := .pointer _) rfl, b, g, rfl, hG1.trans hG2, by omega, by omega, hI⟩
end Go.Proofs.Ytaimilhkfmpdoaa
