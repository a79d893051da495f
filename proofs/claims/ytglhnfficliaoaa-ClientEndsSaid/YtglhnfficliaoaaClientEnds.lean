/- ClientEnds, walked. Conditions: sizes. -/
import Derived.Test.YtglhnfficliaoaaCli7
import Derived.Test.YtglhnfficliaoaaHeightC
namespace Go.Proofs.Ytglhnfficliaoaa
open Go.Proofs Go.RowKit
set_option linter.unusedVariables false
attribute [local irreducible] CW CWD SeqW OpW
set_option maxHeartbeats 4000000
theorem refGo_le : ∀ (k h least many : Nat), refGo k h least many ≤ h + k
  | 0, h, _, _ => Nat.le_refl _
  | k + 1, h, least, many => by
    have := refGo_le k (h + 1) (least * 3) many
    simp only [refGo]
    split <;> omega
theorem refH_le (n : Nat) : refH n ≤ n + 1 := by
  unfold refH
  split
  · omega
  · have := refGo_le n 1 4 n; omega
/-- How many steps a client has done since somebody ended. -/
structure EndsOk (k : Cl) (f most : Nat) (t : Tr) : Prop where
  idle : k.stage = 0 → f = 0
  load : k.stage = 1 → f ≤ most + 1
  high : 2 ≤ k.stage → k.old.height ≤ most
  read : k.stage = 2 → f + k.left ≤ most ∨ (k.old = t ∧ f + k.left ≤ 2 * most + 2)
  swap : k.stage = 3 → f ≤ most ∨ (k.old = t ∧ f ≤ 2 * most + 2)
theorem EndsOk.more {k : Cl} {f most most' : Nat} {t : Tr} (h : EndsOk k f most t) (hm : most ≤ most') : EndsOk k f most' t :=
  ⟨h.idle, fun e => Nat.le_trans (h.load e) (by omega), fun e => Nat.le_trans (h.high e) hm, fun e => (h.read e).imp (fun h => by omega) (fun h => ⟨h.1, by omega⟩), fun e => (h.swap e).imp (fun h => by omega) (fun h => ⟨h.1, by omega⟩)⟩
theorem EndsOk.le {k : Cl} {f most : Nat} {t : Tr} (hg : k.stage ≤ 3) (h : EndsOk k f most t) : f ≤ 2 * most + 2 := by
  rcases (by omega : k.stage = 0 ∨ k.stage = 1 ∨ k.stage = 2 ∨ k.stage = 3) with e | e | e | e
  · have := h.idle e; omega
  · have := h.load e; omega
  · rcases h.read e with h | h <;> omega
  · rcases h.swap e with h | h <;> omega
theorem EndsOk.reset {H : HF} {k : Cl} {f most : Nat} {t : Tr} (hg : ClGood H k) (h : EndsOk k f most t) (t' : Tr) : EndsOk k 0 most t' :=
  ⟨fun _ => rfl, fun _ => by omega, h.high, fun e => .inl (by have := (hg.made (by omega)).2.2.2.1; have := h.high (by omega); omega), fun _ => .inl (by omega)⟩
theorem endsOk_step {H : HF} {k : Cl} {f most : Nat} {t m : Tr} (hg : ClGood H k) (hk : k.stage ≠ 0) (ht : TreeAt H t) (hm : k.stage = 1 → MadeOf H t k.x m) (hti : t.items.length ≤ 800000) (hh : t.height ≤ most) (h : EndsOk k f most t) :
    ((stepF k t m).2.2 = false → EndsOk (stepF k t m).1 (f + 1) most t ∧ swaps k t = false) ∧ ((stepF k t m).2.2 = true → (stepF k t m).1.stage = 0) ∧ (stepF k t m).1.tries ≤ k.tries + 1 := by
  have h3 := hg.stage
  rcases (by omega : k.stage = 1 ∨ k.stage = 2 ∨ k.stage = 3) with e | e | e
  · have e2 : stepF k t m = lookedK { k with old := t, new := m, left := t.height, rep := doesR t.items k.x } := by simp [stepF, e]
    obtain ⟨_, _, l3, l4⟩ := lookedK_cases (k := { k with old := t, new := m, left := t.height, rep := doesR t.items k.x }) (hg.call hk) ht (hm e) rfl (Nat.le_refl _) hti
    have hf := h.load e
    rw [e2]
    refine ⟨fun hz => ⟨?_, by simp [swaps, e]⟩, fun hz => ?_, by rw [l3]; exact Nat.le_succ _⟩
    · rcases l4 with ⟨_, e⟩ | ⟨_, _, e⟩ | ⟨_, _, e⟩
      · rw [e]
        exact ⟨(fun h => by cases h), (fun h => by cases h), fun _ => hh, fun _ => .inr ⟨rfl, by show f + 1 + t.height ≤ _; omega⟩, (fun h => by cases h)⟩
      · rw [e] at hz; cases hz
      · rw [e]
        exact ⟨(fun h => by cases h), (fun h => by cases h), fun _ => hh, (fun h => by cases h), fun _ => .inr ⟨rfl, by omega⟩⟩
    · rcases l4 with ⟨_, e⟩ | ⟨_, _, e⟩ | ⟨_, _, e⟩
      · rw [e] at hz; cases hz
      · rw [e]; rfl
      · rw [e] at hz; cases hz
  · have e2 : stepF k t m = lookedK { k with left := k.left - 1 } := by simp [stepF, e]
    obtain ⟨m1, m2, m3, m4, m5⟩ := hg.made (by omega)
    obtain ⟨_, _, l3, l4⟩ := lookedK_cases (k := { k with left := k.left - 1 }) (hg.call hk) m1 m2 m3 (by show k.left - 1 ≤ k.old.height; omega) m5
    have hf := h.read e
    have h1 := hg.left e
    have ho := h.high (by omega)
    rw [e2]
    refine ⟨fun hz => ⟨?_, by simp [swaps, e]⟩, fun hz => ?_, by rw [l3]; exact Nat.le_succ _⟩
    · rcases l4 with ⟨_, e⟩ | ⟨_, _, e⟩ | ⟨hl0, _, e⟩
      · rw [e]
        exact ⟨(fun h => by cases h), (fun h => by cases h), fun _ => ho, fun _ => hf.imp (fun h => by show f + 1 + (k.left - 1) ≤ _; omega) (fun h => ⟨h.1, by show f + 1 + (k.left - 1) ≤ _; omega⟩), (fun h => by cases h)⟩
      · rw [e] at hz; cases hz
      · rw [e]
        exact ⟨(fun h => by cases h), (fun h => by cases h), fun _ => ho, (fun h => by cases h), fun _ => hf.imp (fun h => by omega) (fun h => ⟨h.1, by omega⟩)⟩
    · rcases l4 with ⟨_, e⟩ | ⟨_, _, e⟩ | ⟨_, _, e⟩
      · rw [e] at hz; cases hz
      · rw [e]; rfl
      · rw [e] at hz; cases hz
  · have e2 : stepF k t m = swapK k t := by simp [stepF, e]
    have e1 : swaps k t = sameT t k.old := by simp [swaps, e]
    have hf := h.swap e
    rw [e2, e1]
    unfold swapK
    cases hs : sameT t k.old with
    | true => exact ⟨(fun h => by cases h), fun _ => rfl, Nat.le_succ _⟩
    | false =>
      have hne : ¬ k.old = t := fun e => by rw [e, sameT_refl] at hs; cases hs
      have hf2 : f ≤ most := hf.resolve_right (fun h => hne h.1)
      exact ⟨fun _ => ⟨⟨(fun h => by cases h), fun _ => by omega, (fun h => absurd h (by show ¬ 2 ≤ 1; omega)), (fun h => by cases h), (fun h => by cases h)⟩, rfl⟩, (fun h => by cases h), Nat.le_refl _⟩
/- clients(law ;; counter's slot ;; slice's slot ;; how many): so many clients are made; behind it hsl, hy -/

theorem clientEnds_c (H0 : HF) (A : Option Addr) (c : Nat) (l : List Op16) (hl : PicksAt H0 A l) (hb : l.length ≤ 100000000000000) (hs : ∀ o ∈ l, o.x.key.size ≤ 150000000000000 ∧ o.x.val.size ≤ 150000000000000) :
    Fn Try.prog 7 [.slice A l.length c] H0 fun v _ => v = .bool true := by
  refine Fn_of_CW Try.func7 rfl Try.ntmps7 Try.results7 rfl fun w0 hS => ?_; have hG := Grow.refl hS
  (refine CW_seq ?_; refine CW_region rfl ?_; refine S_op ?_; refine W_assignBool (by first | rfl | assumption) ?_; refine S_nil ?_; refine CW_seq ?_; refine CW_seq ?_; refine CW_region rfl ?_)
  (refine S_op ?_; refine W_call hS (by rfl) (awake16_c H0) ?_); rintro v H w hG' rfl; replace hG := hG.trans hG'; replace hS := hG'.sub; replace hl := hl.mono hG'.le; clear hG'
  (refine S_op ?_; refine W_not (by first | rfl | assumption) ?_; refine S_op ?_; refine W_moveBool (by first | rfl | assumption) ?_; refine S_want (by rfl) ?_; refine W_moveSl (by first | rfl | assumption) ?_)
  (refine S_want (by rfl) ?_; refine W_call hS (by rfl) (few16_c H A c l hl hb hs) ?_); rintro v H w hG' ⟨z, rfl, hz⟩; replace hG := hG.trans hG'; replace hS := hG'.sub; replace hl := hl.mono hG'.le; clear hG'
  cases z with
  | false =>
    (refine S_want (by rfl) ?_; refine W_not (by first | rfl | assumption) ?_; refine S_op ?_; refine W_pickF (by first | rfl | assumption) (by first | rfl | assumption) ?_; refine S_nil ?_; refine CW_true (by first | rfl | assumption) ?_; refine CW_seq ?_; refine CW_region rfl ?_)
    (refine S_op ?_; refine W_call hS (by rfl) (awake16_c H) ?_); rintro v H w hG' rfl; replace hG := hG.trans hG'; replace hS := hG'.sub; clear hG'
    (refine S_op ?_; refine W_assignBool (by first | rfl | assumption) ?_; refine S_nil ?_; refine CW_ret ?_)
    exact ⟨_, ResW_one (v := .bool _) rfl, H, hG, rfl⟩
  | true =>
    have h400 := hz rfl
    clear hz
    (refine S_want (by rfl) ?_; refine W_not (by first | rfl | assumption) ?_; refine S_op ?_; refine W_pickF (by first | rfl | assumption) (by first | rfl | assumption) ?_; refine S_nil ?_; refine CW_false (by first | rfl | assumption) ?_; refine CW_skip ?_; refine CW_seq ?_; refine CW_region rfl ?_)
    refine S_op ?_
    refine W_callW (by rfl) ((sys_new (B := w0.heap.size) hS hG.below.size (fun _ => 0) (fun _ => cl0)).mono ?_)
    rintro v w ⟨mb, g, rfl, hG', hy⟩
    replace hG := hG.trans hG'
    replace hS := hG'.sub
    clear hG'
    (refine S_op ?_; refine W_assignPtr (by first | rfl | assumption) ?_; refine S_nil ?_; refine CW_seq ?_; refine CW_region rfl ?_; refine S_op ?_; refine W_assignSl (by first | rfl | assumption) ?_; refine S_nil ?_; refine CW_seq ?_; refine CW_seq ?_; refine CW_region rfl ?_; refine S_op ?_; refine W_moveInt (by first | rfl | assumption) ?_; refine S_nil ?_; refine CW_block ?_)
    refine CW_loopM [4, 21, 22, 23, 24, 25, 26, 27, 28]
      (fun m u w2 => ∃ (i : Nat) (bs : Nat → Nat) (A4 : Option Addr) (c4 : Nat) (H2 : HF), u 21 = .int .i64 (i : Int) ∧ u 4 = .slice A4 i c4 ∧ Grow H0 w0 H2 w2 ∧ HLe H H2 ∧ Sys H2 w2 w0.heap.size i mb g bs (fun _ => cl0) none 0 0 ∧ Own H2 w2 w0.heap.size 37 1 A4 i c4 (ptrs bs i) ∧ (∀ a, A4 = some a → ¬ sysS i mb g bs a.block) ∧ i ≤ 4 ∧ 4 ≤ i + m)
      (m := 4) ⟨0, fun _ => 0, none, 0, H, rfl, rfl, hG, HLe.refl _, hy, Own.nil _ _ _ _ _, (fun _ h => by cases h), by omega, by omega⟩ ?_
    clear hy hG hS
    rintro m u w ⟨i, bs, A4, c4, H, hu1, hu2, hG, hle, hy, hown, hA4, hi, hm⟩
    have hS := hG.sub
    replace hl := hl.mono hle
    by_cases hlt : i < 4
    · skip
      (refine CW_seq ?_; refine CW_region rfl ?_; refine S_op ?_; refine W_lssT (by first | rfl | assumption) (by first | rfl | assumption) (by first | omega | rfl) ?_; refine S_nil ?_; refine CW_seq ?_; refine CW_true (by first | rfl | assumption) ?_; refine CW_skip ?_; refine CW_seq ?_; refine CW_block ?_; refine CW_region rfl ?_; refine S_op ?_; refine W_moveSl (by first | rfl | assumption) ?_; refine S_op ?_; refine W_movePtr (by first | rfl | assumption) ?_)
      refine S_op ?_
      refine W_callW (by rfl) ((sys_add2 hS hG.below.size hy).mono ?_)
      rintro v w ⟨nb, rfl, hG', hnb, hy⟩
      have hA5 : ∀ a, A4 = some a → ¬ sysS (i + 1) mb g (setB bs i nb) a.block := fun a ha hj => by
        rcases sysS_succ hj with h | h
        · exact hA4 a ha h
        · have := (hown.block ha).2; omega
      replace hG := hG.trans hG'
      replace hS := hG'.sub
      replace hown := hown.grow hG'
      clear hG' hnb hA4
      skip
      refine S_op ?_
      refine W_build1 (sz := 1) (v := .pointer (some ⟨nb, 0, none⟩)) hS (by omega) (by rfl) (by rfl) ?_
      intro H w b2 hG' hb' _ _
      replace hG := hG.trans hG'
      replace hS := hG'.sub
      replace hy := hy.grow hG'
      replace hown := hown.grow hG'
      replace hle := hle.trans hG'.le
      clear hG'
      refine S_op ?_
      refine W_append (news := [.pointer (some ⟨nb, 0, none⟩)]) (by rfl) (by rfl) hG hown ((SlAt.of_row hb').cells hS) (by rfl) (by intro u hu; simp at hu; subst hu; rfl) (by decide) (by omega) (by omega) ?_
      intro A5 c5 w hG hown2 hgb hA6
      have hA7 : ∀ a, A5 = some a → ¬ sysS (i + 1) mb g (setB bs i nb) a.block := fun a ha hj => by
        rcases hA6 with ⟨e, _⟩ | ⟨g', e, hg'⟩
        · exact hA5 a (by rw [← e]; exact ha) hj
        · rw [e] at ha; cases ha
          exact Nat.lt_irrefl _ (Nat.lt_of_lt_of_le (show g' < _ from hy.lt hj) hg')
      have hrow : ∀ r, (Value.slice A4 i c4).ownBlock = some r → H r = none ∧ ¬ sysS (i + 1) mb g (setB bs i nb) r := fun r e => by
        cases A4 with
        | none => simp [Value.ownBlock] at e
        | some a => simp [Value.ownBlock] at e; subst e; exact ⟨hown.out a rfl, hA5 a rfl⟩
      replace hy := hy.otherO hS (fun r e => (hrow r e).1) hgb (fun r e => (hrow r e).2)
      rw [← ptrs_succ] at hown2
      replace hS := hG.sub
      (refine S_op ?_; refine W_assignSl (by first | rfl | assumption) ?_; refine S_nil ?_; refine CW_region rfl ?_; refine S_op ?_; refine W_add1 (by first | rfl | assumption) (by omega) ?_; refine S_op ?_; refine W_moveInt (by first | rfl | assumption) ?_; refine S_nil ?_)
      exact ⟨(by repeat (first | exact AgreeOff.over | refine AgreeOff.upd rfl ?_ | refine AgreeOff.over2 rfl ?_)), m - 1, by omega, i + 1, setB bs i nb, A5, c5, H, rfl, rfl, hG, hle, hy, hown2, hA7, by omega, by omega⟩
    · have hi4 : i = 4 := by omega
      subst hi4
      skip
      obtain ⟨H3, hle3, hG3, hsl, hoth⟩ := hown.freeze hG
      replace hy := hy.rebase hle3 (fun j hj => (hoth j (fun a ha e => hA4 a ha (by rw [← e]; exact hj))).trans (hy.out hj))
      replace hl := hl.mono hle3
      clear hown hA4 hoth hG hS hle hle3
      obtain ⟨H, hHH⟩ : ∃ x, x = H3 := ⟨_, rfl⟩
      rw [← hHH] at hy hl hG3 hsl
      have hG := hG3
      have hS := hG.sub
      clear hG3 hHH
      obtain ⟨b4, off4, rfl, hrow4⟩ := ptrs_some hsl (q := 0) (by omega)
      clear hsl
      (refine CW_seq ?_; refine CW_region rfl ?_; refine S_op ?_; refine W_lssF (by first | rfl | assumption) (by first | rfl | assumption) (by first | omega | rfl) ?_; refine S_nil ?_; refine CW_seq ?_; refine CW_false (by first | rfl | assumption) ?_; refine CW_exit ?_; refine CW_seq ?_; refine CW_region rfl ?_; refine S_op ?_; refine W_assignInt (by first | rfl | assumption) ?_; refine S_op ?_; refine W_assignInt (by first | rfl | assumption) ?_; refine S_nil ?_; refine CW_seq ?_; refine CW_seq ?_; refine CW_region rfl ?_; refine S_op ?_; refine W_moveSl (by first | rfl | assumption) ?_; refine S_op ?_; refine W_len (by first | rfl | assumption) ?_; refine S_op ?_; refine W_moveInt (by first | rfl | assumption) ?_; refine S_nil ?_; refine CW_block ?_)
      refine CW_loopM [2, 5, 6, 7, 8, 9, 10, 11, 31, 32, 33, 34, 35, 36, 37, 38, 39, 40, 41, 42, 43, 44, 45, 46, 47, 48, 49, 50, 51, 52, 53, 54, 55, 56, 57, 58, 59, 60, 61, 62, 63, 64, 65, 66, 67, 68, 69, 70, 71, 72, 73, 74, 75, 76, 77, 78]
        (fun m u w2 => ∃ (i : Nat) (ks : Nat → Cl) (t : Tr) (s c most : Nat) (fq : Nat → Nat) (H2 : HF), u 31 = .int .i64 (i : Int) ∧ u 5 = .int .i64 ((fq 0 + fq 1 + fq 2 + fq 3 : Nat) : Int) ∧ u 6 = .int .i64 (most : Int) ∧ Grow H0 w0 H2 w2 ∧ PicksAt H2 A l ∧ Row H2 b4 off4 (ptrs bs 4) ∧ Sys H2 w2 w0.heap.size 4 mb g bs ks t s c ∧
          (∀ q, q < 4 → EndsOk (ks q) (fq q) most t ∧ (ks q).tries ≤ i) ∧ s ≤ 2 * i ∧ c ≤ i ∧ t.items.length ≤ i ∧ most ≤ i + 1 ∧ i ≤ l.length ∧ l.length - i ≤ m)
        (m := l.length) ⟨0, fun _ => cl0, none, 0, 0, 0, fun _ => 0, H, rfl, rfl, rfl, hG, hl, hrow4, hy, ?_, Nat.le_refl _, Nat.le_refl _, Nat.le_refl _, by omega, by omega, by omega⟩ ?_
      · exact fun q hq => ⟨⟨fun _ => rfl, (fun h => by cases h), (fun h => absurd h (by show ¬ 2 ≤ 0; omega)), (fun h => by cases h), (fun h => by cases h)⟩, Nat.le_refl _⟩
      clear hy hG hS hu1 hm hi hlt hl hrow4
      rintro m u w ⟨i, ks, t, s, c, most, fq, H, h31, h5, h6, hG, hl, hrow4, hy, hok, hsi, hci, hti, hmi, hi, hm⟩
      have hS := hG.sub
      by_cases hlt : i < l.length
      · obtain ⟨b, off, hA, hrow⟩ := hl.some hlt
        (refine CW_seq ?_; refine CW_region rfl ?_; refine S_op ?_; refine W_lssT (by first | rfl | assumption) (by first | rfl | assumption) (by first | omega | rfl) ?_; refine S_nil ?_; refine CW_seq ?_; refine CW_true (by first | rfl | assumption) ?_; refine CW_skip ?_; refine CW_seq ?_; refine CW_block ?_; refine CW_seq ?_; refine CW_region rfl ?_; refine S_op ?_; refine W_moveInt (by first | rfl | assumption) ?_; refine S_op ?_; refine W_assignInt (by first | rfl | assumption) ?_; refine S_nil ?_; refine CW_seq ?_; refine CW_region rfl ?_; refine S_op ?_; refine W_moveSl (by first | rfl | assumption) ?_; refine S_op ?_; refine W_moveSl (by first | rfl | assumption) ?_; refine S_op ?_; refine W_moveInt (by first | rfl | assumption) ?_; refine S_op ?_; refine W_index (by first | rfl | assumption) (by first | rfl | assumption) (by first | assumption | omega | decide) (by first | rfl | assumption) ?_; refine S_op ?_; refine W_field (by first | rfl | assumption) ?_; refine S_op ?_; refine W_loadOm (by first | rfl | assumption) (by assumption) (by first | assumption | omega) (by assumption) ?_)
        refine S_op (W_remN (b := 4) (by rfl) (by rfl) (by decide) ?_)
        obtain ⟨q, hq⟩ : ∃ q, (pick l i).who % 4 = q := ⟨_, rfl⟩
        have hq4 : q < 4 := by omega
        rw [hq]
        (refine S_op ?_; refine W_index (by first | rfl | assumption) (by first | rfl | assumption) (by first | assumption | omega | decide) (by first | rfl | assumption) ?_)
        refine S_op ?_
        refine W_loadRow (j := q * 1) (by rfl) hrow4 (by rw [Nat.mul_one]; exact ptrs_get hq4) hS ?_
        (refine S_op ?_; refine W_assignPtr (by first | rfl | assumption) ?_; refine S_nil ?_; refine CW_seq ?_; refine CW_seq ?_; refine CW_region rfl ?_; refine S_op ?_; refine W_movePtr (by first | rfl | assumption) ?_)
        refine S_op ?_
        refine W_callW (by rfl) ((pending_c hS (hy.cl q hq4)).mono ?_)
        rintro v w2 ⟨rfl, rfl⟩
        by_cases hst : (ks q).stage = 0
        · rw [show decide ((ks q).stage ≠ 0) = false by simp [hst]]
          have hf0 := (hok q hq4).1.idle hst
          (refine S_op ?_; refine W_not (by first | rfl | assumption) ?_; refine S_nil ?_; refine CW_true (by first | rfl | assumption) ?_; refine CW_seq ?_; refine CW_region rfl ?_; refine S_op ?_; refine W_movePtr (by first | rfl | assumption) ?_; refine S_op ?_; refine W_moveSl (by first | rfl | assumption) ?_; refine S_op ?_; refine W_moveInt (by first | rfl | assumption) ?_; refine S_op ?_; refine W_index (by first | rfl | assumption) (by first | rfl | assumption) (by first | assumption | omega | decide) (by first | rfl | assumption) ?_; refine S_op ?_; refine W_field (by first | rfl | assumption) ?_; refine S_op ?_; refine W_loadOn (by first | rfl | assumption) (by assumption) (by first | assumption | omega) (by assumption) ?_)
          by_cases hx : checkE (pick l i).x = 0
          · (have hyg := fun j hj => hy.ge (j := j) hj; refine S_op ?_; refine W_callW (by rfl) ((sys_call hS hy hq4 hst _ hx).mono ?_)); rintro v w ⟨H, hT', rfl, hy⟩; replace hG := Turn.grow hG hT' hyg; replace hS := hG.sub; replace hl := hl.mono hT'.le; replace hrow4 := hrow4.mono hT'.le; clear hT' hyg
            (refine S_nil ?_; refine CW_exit ?_; refine CW_region rfl ?_; refine S_op ?_; refine W_add1 (by first | rfl | assumption) (by omega) ?_; refine S_op ?_; refine W_moveInt (by first | rfl | assumption) ?_; refine S_nil ?_)
            refine ⟨(by repeat (first | exact AgreeOff.over | refine AgreeOff.upd rfl ?_ | refine AgreeOff.over2 rfl ?_)), m - 1, by omega, i + 1, _, t, s, c, most, fq, H, rfl, h5, h6, hG, hl, hrow4, hy, ?_, by omega, by omega, by omega, by omega, by omega, by omega⟩
            intro p hp
            by_cases e : p = q
            · subst e
              rw [setF_same, hf0]
              exact ⟨⟨fun _ => rfl, fun _ => by omega, (fun h => absurd h (by show ¬ 2 ≤ 1; omega)), (fun h => by cases h), (fun h => by cases h)⟩, by show 0 ≤ i + 1; omega⟩
            · rw [setF_other e]
              have := hok p hp
              exact ⟨this.1, by omega⟩
          · have hx' : ((checkE (pick l i).x : Nat) : Int) ≠ 0 := by omega
            (refine S_op ?_; refine W_callW (by rfl) ((call_no _ hS hst hx (hy.cl q hq4)).mono ?_)); rintro v w ⟨H, hG', rfl⟩; replace hl := hl.mono hG'.le; replace hrow4 := hrow4.mono hG'.le; replace hy := hy.grow hG'; replace hG := hG.trans hG'; replace hS := hG'.sub; clear hG'
            (refine S_nil ?_; refine CW_exit ?_; refine CW_region rfl ?_; refine S_op ?_; refine W_add1 (by first | rfl | assumption) (by omega) ?_; refine S_op ?_; refine W_moveInt (by first | rfl | assumption) ?_; refine S_nil ?_)
            exact ⟨(by repeat (first | exact AgreeOff.over | refine AgreeOff.upd rfl ?_ | refine AgreeOff.over2 rfl ?_)), m - 1, by omega, i + 1, ks, t, s, c, most, fq, H, rfl, h5, h6, hG, hl, hrow4, hy, fun p hp => ⟨(hok p hp).1, by have := (hok p hp).2; omega⟩, by omega, by omega, by omega, by omega, by omega, by omega⟩
        · rw [show decide ((ks q).stage ≠ 0) = true by simp [hst]]
          (refine S_op ?_; refine W_not (by first | rfl | assumption) ?_; refine S_nil ?_; refine CW_false (by first | rfl | assumption) ?_; refine CW_skip ?_; refine CW_seq ?_; refine CW_region rfl ?_; refine S_op ?_; refine W_moveInt (by first | rfl | assumption) ?_; refine S_op ?_; refine W_movePtr (by first | rfl | assumption) ?_)
          (have hyg := fun j hj => hy.ge (j := j) hj; refine S_op ?_; refine W_callW (by rfl) ((root_c hS hy (by omega)).mono ?_)); rintro v w ⟨H, hT', rfl, hy⟩; replace hG := Turn.grow hG hT' hyg; replace hS := hG.sub; replace hl := hl.mono hT'.le; replace hrow4 := hrow4.mono hT'.le; clear hT' hyg
          skip
          (refine S_op ?_; refine W_call hS (by rfl) (items_t hy.tree.at_ (by omega)) ?_); rintro v H w hG' ⟨A9, c9, rfl, _, _⟩; replace hG := hG.trans hG'; replace hS := hG'.sub; replace hl := hl.mono hG'.le; replace hrow4 := hrow4.mono hG'.le; replace hy := hy.grow hG'; clear hG'
          (refine S_op ?_; refine W_len (by first | rfl | assumption) ?_)
          (refine S_op ?_; refine W_call hS (by rfl) (rHeight_c H t.items.length (by omega)) ?_); rintro v H w hG' rfl; replace hG := hG.trans hG'; replace hS := hG'.sub; replace hl := hl.mono hG'.le; replace hrow4 := hrow4.mono hG'.le; replace hy := hy.grow hG'; clear hG'
          have hrh := refH_le t.items.length
          have hhr := height_refH hy.tree
          refine S_op (W_max2 (by rfl) (by rfl) (q := ((max most (refH t.items.length) : Nat) : Int)) (by omega) ?_)
          obtain ⟨mo, hmo⟩ : ∃ z, z = max most (refH t.items.length) := ⟨_, rfl⟩
          rw [← hmo]
          have hmob : mo ≤ i + 1 := by omega
          have hok2 : ∀ p, p < 4 → EndsOk (ks p) (fq p) mo t ∧ (ks p).tries ≤ i := fun p hp => ⟨(hok p hp).1.more (by omega), (hok p hp).2⟩
          have hgd := hy.good q hq4
          have hgall := hy.good
          have ht0 := hy.tree
          have htq := (hok2 q hq4).2
          (refine S_op ?_; refine W_assignInt (by first | rfl | assumption) ?_; refine S_nil ?_; refine CW_seq ?_; refine CW_region rfl ?_; refine S_op ?_; refine W_movePtr (by first | rfl | assumption) ?_)
          (have hyg := fun j hj => hy.ge (j := j) hj; refine S_op ?_; refine W_callW (by rfl) ((sys_step hS hy hq4 hst (by omega) (by omega) (by omega) (by omega)).mono ?_)); rintro v w ⟨H, m2, s2, hT', hs2, hmade, hy, rfl⟩; replace hG := Turn.grow hG hT' hyg; replace hS := hG.sub; replace hl := hl.mono hT'.le; replace hrow4 := hrow4.mono hT'.le; replace hgd := hgd.mono hT'.le; replace ht0 := ht0.mono hT'.le; clear hT' hyg
          obtain ⟨hk1, hk2, hk3⟩ := endsOk_step hgd hst ht0 hmade (by omega) (by omega) (hok2 q hq4).1
          have hlen := treeF_len hgd ht0
          have hfb : ∀ p, p < 4 → fq p ≤ 2 * mo + 2 := fun p hp => (hok2 p hp).1.le (hgall p hp).stage
          obtain ⟨ks2, hks2, hk⟩ := setF_at (ks := ks) (q := q) (k := (stepF (ks q) t m2).1)
          have hoth : ∀ p, p ≠ q → ks2 p = ks p := fun p hp => by rw [hks2, setF_other hp]
          rw [← hks2] at hy
          obtain ⟨c2, hc2⟩ : ∃ z, z = (if swaps (ks q) t = true then c + 1 else c) := ⟨_, rfl⟩
          have hcc : c2 ≤ c + 1 := by rw [hc2]; split <;> omega
          have htr : ∀ p, p < 4 → (ks2 p).tries ≤ i + 1 := fun p hp => by
            by_cases e : p = q
            · subst e; rw [hk]; omega
            · rw [hoth p e]; have := (hok2 p hp).2; omega
          have hb4 := fun p hp => hfb p hp
          have b0 := hfb 0 (by omega)
          have b1 := hfb 1 (by omega)
          have b2 := hfb 2 (by omega)
          have b3 := hfb 3 (by omega)
          rw [← hc2] at hy
          obtain ⟨rr, hrr⟩ : ∃ z, z = (stepF (ks q) t m2).2.1 := ⟨_, rfl⟩
          rw [← hrr]
          cases hend : (stepF (ks q) t m2).2.2 with
          | true =>
            have hst0 := hk2 hend
            have hok3 : ∀ p, p < 4 → EndsOk (ks2 p) 0 mo (treeF (ks q) t) := fun p hp => by
              by_cases e : p = q
              · subst e
                rw [hk]
                exact ⟨fun _ => rfl, fun _ => by omega, (fun h => by omega), (fun h => by omega), (fun h => by omega)⟩
              · rw [hoth p e]; exact (hok2 p hp).1.reset (hgall p hp) _
            clear hmade hgd ht0 hk1 hk2 hk3 hgall hok hok2 hfb hb4 hmo
            (refine S_op ?_; refine W_moveTup (by first | rfl | assumption) ?_; refine S_op ?_; refine W_extract (by first | rfl | assumption) (by rfl) ?_; refine S_op ?_; refine W_extract (by first | rfl | assumption) (by rfl) ?_; refine S_op ?_; refine W_extract (by first | rfl | assumption) (by rfl) ?_)
            (have hyl := fun j hj => hy.lt (j := j) hj; refine S_op (W_alloc hS ?_)); intro w c9b hG' c9h c9; have n_c9 : _ → False := fun hj => absurd (hyl c9b hj) (by omega); replace hy := hy.grow hG'; replace hl := hl.mono hG'.le; replace hrow4 := hrow4.mono hG'.le; replace c9h := Nat.le_trans hG.below.size (Nat.le_of_eq c9h); replace hG := hG.trans hG'; replace hS := hG'.sub; clear hG' hyl
            skip
            have hS9 := hS; have ho9 := c9.out; (refine S_op0 (W_storeM (o := 0) (vs := repCells rr) (by rfl) (by rfl) c9 (by rfl) (OneCells.of_all (by rfl)) (by rfl) (Nat.le_of_ble_eq_true (by rfl)) ?_)); intro w hgb' hm'; replace hG := hG.grownBy hgb' (fun g h => by cases h; exact ⟨c9.out, c9h⟩); replace hS := hG.sub; replace c9 : Mut _ w c9b (repCells rr) := hm'; clear hm'; skip; replace hy := hy.other hS9 ho9 hgb' n_c9; clear hS9 ho9 hgb'
            (refine S_op ?_; refine W_assignBool (by first | rfl | assumption) ?_; refine S_op ?_; refine W_assignInt (by first | rfl | assumption) ?_; refine S_nil ?_; refine CW_seq ?_; refine CW_region rfl ?_; refine S_op ?_; refine W_moveInt (by first | rfl | assumption) ?_; refine S_op ?_; refine W_add1 (by first | rfl | assumption) (by omega) ?_; refine S_op ?_; refine W_assignInt (by first | rfl | assumption) ?_; refine S_nil ?_; refine CW_seq ?_; refine CW_seq ?_; refine CW_region rfl ?_; refine S_op ?_; refine W_moveBool (by first | rfl | assumption) ?_; refine S_nil ?_; refine CW_true (by first | rfl | assumption) ?_; refine CW_region rfl ?_; refine S_op ?_; refine W_assignInt (by first | rfl | assumption) ?_; refine S_nil ?_; refine CW_seq ?_; refine CW_region rfl ?_; refine S_op ?_; refine W_moveInt (by first | rfl | assumption) ?_; refine S_op ?_; refine W_neqF (by first | rfl | assumption) (by first | rfl | assumption) (by first | omega | rfl) ?_; refine S_op ?_; refine W_moveBool (by first | rfl | assumption) ?_; refine S_want (by rfl) ?_; refine W_moveInt (by first | rfl | assumption) ?_; refine S_want (by rfl) ?_; refine W_moveInt (by first | rfl | assumption) ?_; refine S_want (by rfl) ?_; refine W_add2 (by first | rfl | assumption) (by omega) ?_)
            refine S_want (by rfl) (W_mul (q := ((8 * (mo + 2) : Nat) : Int)) (by rfl) (by rfl) (by rw [IntWalk.i64_in _ (by omega)]; omega) ?_)
            (refine S_want (by rfl) ?_; refine W_gtrF (by first | rfl | assumption) (by first | rfl | assumption) (by first | omega | rfl) ?_; refine S_op ?_; refine W_pickF (by first | rfl | assumption) (by first | rfl | assumption) ?_; refine S_nil ?_; refine CW_false (by first | rfl | assumption) ?_; refine CW_skip ?_; refine CW_region rfl ?_; refine S_op ?_; refine W_add1 (by first | rfl | assumption) (by omega) ?_; refine S_op ?_; refine W_moveInt (by first | rfl | assumption) ?_; refine S_nil ?_)
            exact ⟨(by repeat (first | exact AgreeOff.over | refine AgreeOff.upd rfl ?_ | refine AgreeOff.over2 rfl ?_)), m - 1, by omega, i + 1, ks2, _, s2, c2, mo, fun _ => 0, H, rfl, rfl, rfl, hG, hl, hrow4, hy, fun p hp => ⟨hok3 p hp, htr p hp⟩, by omega, by omega, by omega, by omega, by omega, by omega⟩
          | false =>
            obtain ⟨hke, hsw⟩ := hk1 hend
            have et : treeF (ks q) t = t := by simp [treeF, hsw]
            rw [et] at hy hlen
            obtain ⟨fq2, hfq2⟩ : ∃ z : Nat → Nat, z = fun p => if p = q then fq q + 1 else fq p := ⟨_, rfl⟩
            have hok3 : ∀ p, p < 4 → EndsOk (ks2 p) (fq2 p) mo t := fun p hp => by
              by_cases e : p = q
              · subst e
                rw [hk, hfq2]
                simp only [if_true]
                exact hke
              · rw [hoth p e, hfq2]
                simp only [if_neg e]
                exact (hok2 p hp).1
            have hsum : fq 0 + fq 1 + fq 2 + fq 3 + 1 = fq2 0 + fq2 1 + fq2 2 + fq2 3 := by
              rw [hfq2]
              rcases (by omega : q = 0 ∨ q = 1 ∨ q = 2 ∨ q = 3) with rfl | rfl | rfl | rfl <;> simp <;> omega
            have hfb2 : fq2 0 + fq2 1 + fq2 2 + fq2 3 ≤ 8 * (mo + 2) := by
              have g0 := (hok3 0 (by omega)).le (hy.good 0 (by omega)).stage
              have g1 := (hok3 1 (by omega)).le (hy.good 1 (by omega)).stage
              have g2 := (hok3 2 (by omega)).le (hy.good 2 (by omega)).stage
              have g3 := (hok3 3 (by omega)).le (hy.good 3 (by omega)).stage
              omega
            clear hmade hgd ht0 hk1 hk2 hk3 hgall hok hok2 hfb hb4 hmo hfq2
            (refine S_op ?_; refine W_moveTup (by first | rfl | assumption) ?_; refine S_op ?_; refine W_extract (by first | rfl | assumption) (by rfl) ?_; refine S_op ?_; refine W_extract (by first | rfl | assumption) (by rfl) ?_; refine S_op ?_; refine W_extract (by first | rfl | assumption) (by rfl) ?_)
            (have hyl := fun j hj => hy.lt (j := j) hj; refine S_op (W_alloc hS ?_)); intro w c9b hG' c9h c9; have n_c9 : _ → False := fun hj => absurd (hyl c9b hj) (by omega); replace hy := hy.grow hG'; replace hl := hl.mono hG'.le; replace hrow4 := hrow4.mono hG'.le; replace c9h := Nat.le_trans hG.below.size (Nat.le_of_eq c9h); replace hG := hG.trans hG'; replace hS := hG'.sub; clear hG' hyl
            skip
            have hS9 := hS; have ho9 := c9.out; (refine S_op0 (W_storeM (o := 0) (vs := repCells rr) (by rfl) (by rfl) c9 (by rfl) (OneCells.of_all (by rfl)) (by rfl) (Nat.le_of_ble_eq_true (by rfl)) ?_)); intro w hgb' hm'; replace hG := hG.grownBy hgb' (fun g h => by cases h; exact ⟨c9.out, c9h⟩); replace hS := hG.sub; replace c9 : Mut _ w c9b (repCells rr) := hm'; clear hm'; skip; replace hy := hy.other hS9 ho9 hgb' n_c9; clear hS9 ho9 hgb'
            (refine S_op ?_; refine W_assignBool (by first | rfl | assumption) ?_; refine S_op ?_; refine W_assignInt (by first | rfl | assumption) ?_; refine S_nil ?_; refine CW_seq ?_; refine CW_region rfl ?_; refine S_op ?_; refine W_moveInt (by first | rfl | assumption) ?_; refine S_op ?_; refine W_add1 (by first | rfl | assumption) (by omega) ?_; refine S_op ?_; refine W_assignInt (by first | rfl | assumption) ?_; refine S_nil ?_; refine CW_seq ?_; refine CW_seq ?_; refine CW_region rfl ?_; refine S_op ?_; refine W_moveBool (by first | rfl | assumption) ?_; refine S_nil ?_; refine CW_false (by first | rfl | assumption) ?_; refine CW_skip ?_; refine CW_seq ?_; refine CW_region rfl ?_; refine S_op ?_; refine W_moveInt (by first | rfl | assumption) ?_; refine S_op ?_; refine W_neqF (by first | rfl | assumption) (by first | rfl | assumption) (by first | omega | rfl) ?_; refine S_op ?_; refine W_moveBool (by first | rfl | assumption) ?_; refine S_want (by rfl) ?_; refine W_moveInt (by first | rfl | assumption) ?_; refine S_want (by rfl) ?_; refine W_moveInt (by first | rfl | assumption) ?_; refine S_want (by rfl) ?_; refine W_add2 (by first | rfl | assumption) (by omega) ?_)
            rw [hsum]
            skip
            refine S_want (by rfl) (W_mul (q := ((8 * (mo + 2) : Nat) : Int)) (by rfl) (by rfl) (by rw [IntWalk.i64_in _ (by omega)]; omega) ?_)
            (refine S_want (by rfl) ?_; refine W_gtrF (by first | rfl | assumption) (by first | rfl | assumption) (by first | omega | rfl) ?_; refine S_op ?_; refine W_pickF (by first | rfl | assumption) (by first | rfl | assumption) ?_; refine S_nil ?_; refine CW_false (by first | rfl | assumption) ?_; refine CW_skip ?_; refine CW_region rfl ?_; refine S_op ?_; refine W_add1 (by first | rfl | assumption) (by omega) ?_; refine S_op ?_; refine W_moveInt (by first | rfl | assumption) ?_; refine S_nil ?_)
            exact ⟨(by repeat (first | exact AgreeOff.over | refine AgreeOff.upd rfl ?_ | refine AgreeOff.over2 rfl ?_)), m - 1, by omega, i + 1, ks2, t, s2, c2, mo, fq2, H, rfl, rfl, rfl, hG, hl, hrow4, hy, fun p hp => ⟨hok3 p hp, htr p hp⟩, by omega, by omega, by omega, by omega, by omega, by omega⟩
      · have hin : i = l.length := by omega
        subst hin
        (refine CW_seq ?_; refine CW_region rfl ?_; refine S_op ?_; refine W_lssF (by first | rfl | assumption) (by first | rfl | assumption) (by first | omega | rfl) ?_; refine S_nil ?_; refine CW_seq ?_; refine CW_false (by first | rfl | assumption) ?_; refine CW_exit ?_; refine CW_seq ?_; refine CW_region rfl ?_; refine S_op ?_; refine W_assignBool (by first | rfl | assumption) ?_; refine S_nil ?_; refine CW_ret ?_)
        exact ⟨_, ResW_one (v := .bool _) rfl, H, hG, rfl⟩
end Go.Proofs.Ytglhnfficliaoaa
