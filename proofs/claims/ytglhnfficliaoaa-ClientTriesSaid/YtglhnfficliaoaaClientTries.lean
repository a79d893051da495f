/- ClientTries, walked. Conditions: sizes. -/
import Derived.Test.YtglhnfficliaoaaCli7
namespace Go.Proofs.Ytglhnfficliaoaa
open Go.Proofs Go.RowKit
set_option linter.unusedVariables false
attribute [local irreducible] CW CWD SeqW OpW
set_option maxHeartbeats 4000000
/-- What a client's number of tries says: began, kind, how often the tree changed. -/
structure TriesOk (k : Cl) (bg : Int) (kd : Int) (t : Tr) (c : Nat) : Prop where
  b0 : 0 ≤ bg
  kind : k.stage ≠ 0 → kd = k.x.kind
  le : (k.tries : Int) + bg ≤ c
  old : k.stage = 2 ∨ k.stage = 3 → k.old = t ∨ (k.tries : Int) + bg + 1 ≤ c
  get : k.stage ≠ 0 → k.x.kind = 1 → k.tries = 0 ∧ k.stage ≠ 3
theorem triesOk_step {H : HF} {k : Cl} {bg kd : Int} {t m : Tr} {c : Nat} (hg : ClGood H k) (hk : k.stage ≠ 0) (ht : TreeAt H t) (hm : k.stage = 1 → MadeOf H t k.x m) (hti : t.items.length ≤ 800000) (h : TriesOk k bg kd t c) :
    TriesOk (stepF k t m).1 bg kd (treeF k t) (if swaps k t = true then c + 1 else c) ∧ (stepF k t m).1.x = k.x ∧ (k.x.kind = 1 → swaps k t = false) ∧ kd = k.x.kind ∧ ((stepF k t m).1.stage ≠ 0 → k.x.kind = 1 → (stepF k t m).1.tries = 0) := by
  have h3 := hg.stage
  obtain ⟨b0, hkd, hle, hold, hget⟩ := h
  rcases (by omega : k.stage = 1 ∨ k.stage = 2 ∨ k.stage = 3) with h | h | h
  · have e1 : swaps k t = false := by simp [swaps, h]
    have e2 : stepF k t m = lookedK { k with old := t, new := m, left := t.height, rep := doesR t.items k.x } := by simp [stepF, h]
    obtain ⟨_, l2, l3, l4⟩ := lookedK_cases (k := { k with old := t, new := m, left := t.height, rep := doesR t.items k.x }) (hg.call hk) ht (hm h) rfl (Nat.le_refl _) hti
    have hn1 : k.x.kind = 1 → m = t := fun h1 => (hm h).same (by simp [doesL, putsB, takesB, h1])
    rw [e2, treeF, e1]
    simp only [Bool.false_eq_true, if_false]
    refine ⟨⟨b0, fun _ => by rw [l2]; exact hkd hk, by rw [l3]; exact hle, ?_, ?_⟩, l2, fun _ => (by first | rfl | trivial), hkd hk, fun _ h1 => by rw [l3]; exact (hget hk h1).1⟩
    · rcases l4 with ⟨_, e⟩ | ⟨_, _, e⟩ | ⟨_, _, e⟩
      · rw [e]; exact fun _ => .inl rfl
      · rw [e]; intro h2; simp [endK] at h2
      · rw [e]; exact fun _ => .inl rfl
    · intro _ h1
      rw [l2] at h1
      have h0 := (hget hk h1).1
      refine ⟨by rw [l3]; exact h0, ?_⟩
      rcases l4 with ⟨_, e⟩ | ⟨_, _, e⟩ | ⟨_, hne, e⟩
      · rw [e]; show (2 : Nat) ≠ 3; omega
      · rw [e]; show (0 : Nat) ≠ 3; omega
      · exact absurd (hn1 h1) hne
  · have e1 : swaps k t = false := by simp [swaps, h]
    have e2 : stepF k t m = lookedK { k with left := k.left - 1 } := by simp [stepF, h]
    obtain ⟨m1, m2, m3, m4, m5⟩ := hg.made (by omega)
    obtain ⟨_, l2, l3, l4⟩ := lookedK_cases (k := { k with left := k.left - 1 }) (hg.call hk) m1 m2 m3 (by show k.left - 1 ≤ k.old.height; omega) m5
    have hn1 : k.x.kind = 1 → k.new = k.old := fun h1 => m2.same (by simp [doesL, putsB, takesB, h1])
    rw [e2, treeF, e1]
    simp only [Bool.false_eq_true, if_false]
    refine ⟨⟨b0, fun _ => by rw [l2]; exact hkd hk, by rw [l3]; exact hle, ?_, ?_⟩, l2, fun _ => (by first | rfl | trivial), hkd hk, fun _ h1 => by rw [l3]; exact (hget hk h1).1⟩
    · rcases l4 with ⟨_, e⟩ | ⟨_, _, e⟩ | ⟨_, _, e⟩
      · rw [e]; exact fun _ => hold (.inl h)
      · rw [e]; intro h2; simp [endK] at h2
      · rw [e]; exact fun _ => hold (.inl h)
    · intro _ h1
      rw [l2] at h1
      have h0 := (hget hk h1).1
      refine ⟨by rw [l3]; exact h0, ?_⟩
      rcases l4 with ⟨_, e⟩ | ⟨_, _, e⟩ | ⟨_, hne, e⟩
      · rw [e]; show (2 : Nat) ≠ 3; omega
      · rw [e]; show (0 : Nat) ≠ 3; omega
      · exact absurd (hn1 h1) hne
  · have e2 : stepF k t m = swapK k t := by simp [stepF, h]
    have e1 : swaps k t = sameT t k.old := by simp [swaps, h]
    have hno1 : k.x.kind ≠ 1 := fun h1 => (hget hk h1).2 h
    rw [e2, treeF, e1]
    unfold swapK
    cases hs : sameT t k.old with
    | true =>
      simp only [if_true]
      refine ⟨⟨b0, fun h => absurd rfl h, by show (k.tries : Int) + bg ≤ _; omega, fun h2 => by simp [endK] at h2, fun h => absurd rfl h⟩, (by first | rfl | trivial), fun h1 => absurd h1 hno1, hkd hk, fun h => absurd rfl h⟩
    | false =>
      simp only [Bool.false_eq_true, if_false]
      have hne : ¬ k.old = t := fun e => by rw [e, sameT_refl] at hs; cases hs
      have h2 : (k.tries : Int) + bg + 1 ≤ c := (hold (.inr h)).resolve_left hne
      refine ⟨⟨b0, fun _ => hkd hk, ?_, fun h2 => ?_, fun _ h1 => absurd h1 hno1⟩, (by first | rfl | trivial), fun h1 => absurd h1 hno1, hkd hk, fun _ h1 => absurd h1 hno1⟩
      · show ((k.tries + 1 : Nat) : Int) + bg ≤ c; omega
      · have h2 : (1 : Nat) = 2 ∨ (1 : Nat) = 3 := h2
        omega
/-- The others', where the tree changes. -/
theorem triesOk_other {k : Cl} {bg kd : Int} {t t' : Tr} {c : Nat} (h : TriesOk k bg kd t c) (sw : Bool) (hs : sw = false → t' = t) : TriesOk k bg kd t' (if sw = true then c + 1 else c) := by
  cases sw with
  | false => rw [hs rfl]; exact h
  | true =>
    have := h.le
    exact ⟨h.b0, h.kind, by simp only [if_true]; omega, fun _ => .inr (by simp only [if_true]; omega), h.get⟩
/- clients(law ;; counter's slot ;; slice's slot ;; how many): so many clients are made; behind it hsl, hy -/
theorem clientTries_c (H0 : HF) (A : Option Addr) (c : Nat) (l : List Op16) (hl : PicksAt H0 A l) (hb : l.length ≤ 100000000000000) (hs : ∀ o ∈ l, o.x.key.size ≤ 150000000000000 ∧ o.x.val.size ≤ 150000000000000) :
    Fn Try.prog 5 [.slice A l.length c] H0 fun v _ => v = .bool true := by
  refine Fn_of_CW Try.func5 rfl Try.ntmps5 Try.results5 rfl fun w0 hS => ?_; have hG := Grow.refl hS
  (refine CW_seq ?_; refine CW_region rfl ?_; refine S_op ?_; refine W_assignBool (by first | rfl | assumption) ?_; refine S_nil ?_; refine CW_seq ?_; refine CW_seq ?_; refine CW_region rfl ?_)
  (refine S_op ?_; refine W_call hS (by rfl) (awake16_c H0) ?_); rintro v H w hG' rfl; replace hG := hG.trans hG'; replace hS := hG'.sub; replace hl := hl.mono hG'.le; clear hG'
  (refine S_op ?_; refine W_not (by first | rfl | assumption) ?_; refine S_op ?_; refine W_moveBool (by first | rfl | assumption) ?_; refine S_want (by rfl) ?_; refine W_moveSl (by first | rfl | assumption) ?_)
  (refine S_want (by rfl) ?_; refine W_call hS (by rfl) (few16_c H A c l hl hb hs) ?_); rintro v H w hG' ⟨z, rfl, hz⟩; replace hG := hG.trans hG'; replace hS := hG'.sub; replace hl := hl.mono hG'.le; clear hG'
  cases z with
  | false =>
    (refine S_want (by rfl) ?_; refine W_not (by first | rfl | assumption) ?_; refine S_op ?_; refine W_pickF (by first | rfl | assumption) (by first | rfl | assumption) ?_; refine S_nil ?_; refine CW_true (by first | rfl | assumption) ?_; refine CW_seq ?_; refine CW_region rfl ?_)
    (refine S_op ?_; refine W_call hS (by rfl) (awake16_c H) ?_); rintro v H w hG' rfl; replace hG := hG.trans hG'; replace hS := hG'.sub; clear hG'
    (refine S_op ?_; refine W_assignBool (by first | rfl | assumption) ?_; refine S_nil ?_; refine CW_ret ?_)
    exact ⟨_, ResW_one (v := .bool _) rfl, H, hG, rfl⟩
  | true =>
    have h400 := hz rfl
    clear hz
    (refine S_want (by rfl) ?_; refine W_not (by first | rfl | assumption) ?_; refine S_op ?_; refine W_pickF (by first | rfl | assumption) (by first | rfl | assumption) ?_; refine S_nil ?_; refine CW_false (by first | rfl | assumption) ?_; refine CW_skip ?_; refine CW_seq ?_; refine CW_region rfl ?_)
    refine S_op ?_
    refine W_callW (by rfl) ((sys_new (B := w0.heap.size) hS hG.below.size (fun _ => 0) (fun _ => cl0)).mono ?_)
    rintro v w ⟨mb, g, rfl, hG', hy⟩
    replace hG := hG.trans hG'
    replace hS := hG'.sub
    clear hG'
    (refine S_op ?_; refine W_assignPtr (by first | rfl | assumption) ?_; refine S_nil ?_; refine CW_seq ?_; refine CW_region rfl ?_; refine S_op ?_; refine W_assignSl (by first | rfl | assumption) ?_; refine S_nil ?_; refine CW_seq ?_; refine CW_seq ?_; refine CW_region rfl ?_; refine S_op ?_; refine W_moveInt (by first | rfl | assumption) ?_; refine S_nil ?_; refine CW_block ?_)
    refine CW_loopM [4, 20, 21, 22, 23, 24, 25, 26, 27]
      (fun m u w2 => ∃ (i : Nat) (bs : Nat → Nat) (A4 : Option Addr) (c4 : Nat) (H2 : HF), u 20 = .int .i64 (i : Int) ∧ u 4 = .slice A4 i c4 ∧ Grow H0 w0 H2 w2 ∧ HLe H H2 ∧ Sys H2 w2 w0.heap.size i mb g bs (fun _ => cl0) none 0 0 ∧ Own H2 w2 w0.heap.size 37 1 A4 i c4 (ptrs bs i) ∧ (∀ a, A4 = some a → ¬ sysS i mb g bs a.block) ∧ i ≤ 4 ∧ 4 ≤ i + m)
      (m := 4) ⟨0, fun _ => 0, none, 0, H, rfl, rfl, hG, HLe.refl _, hy, Own.nil _ _ _ _ _, (fun _ h => by cases h), by omega, by omega⟩ ?_
    clear hy hG hS
    rintro m u w ⟨i, bs, A4, c4, H, hu1, hu2, hG, hle, hy, hown, hA4, hi, hm⟩
    have hS := hG.sub
    replace hl := hl.mono hle
    by_cases hlt : i < 4
    · skip
      (refine CW_seq ?_; refine CW_region rfl ?_; refine S_op ?_; refine W_lssT (by first | rfl | assumption) (by first | rfl | assumption) (by first | omega | rfl) ?_; refine S_nil ?_; refine CW_seq ?_; refine CW_true (by first | rfl | assumption) ?_; refine CW_skip ?_; refine CW_seq ?_; refine CW_block ?_; refine CW_region rfl ?_; refine S_op ?_; refine W_moveSl (by first | rfl | assumption) ?_; refine S_op ?_; refine W_movePtr (by first | rfl | assumption) ?_)
      refine S_op ?_
      refine W_callW (by rfl) ((sys_add2 hS hG.below.size hy).mono ?_)
      rintro v w ⟨nb, rfl, hG', hnb, hy⟩
      have hA5 : ∀ a, A4 = some a → ¬ sysS (i + 1) mb g (setB bs i nb) a.block := fun a ha hj => by
        rcases sysS_succ hj with h | h
        · exact hA4 a ha h
        · have := (hown.block ha).2; omega
      replace hG := hG.trans hG'
      replace hS := hG'.sub
      replace hown := hown.grow hG'
      clear hG' hnb hA4
      skip
      refine S_op ?_
      refine W_build1 (sz := 1) (v := .pointer (some ⟨nb, 0, none⟩)) hS (by omega) (by rfl) (by rfl) ?_
      intro H w b2 hG' hb' _ _
      replace hG := hG.trans hG'
      replace hS := hG'.sub
      replace hy := hy.grow hG'
      replace hown := hown.grow hG'
      replace hle := hle.trans hG'.le
      clear hG'
      refine S_op ?_
      refine W_append (news := [.pointer (some ⟨nb, 0, none⟩)]) (by rfl) (by rfl) hG hown ((SlAt.of_row hb').cells hS) (by rfl) (by intro u hu; simp at hu; subst hu; rfl) (by decide) (by omega) (by omega) ?_
      intro A5 c5 w hG hown2 hgb hA6
      have hA7 : ∀ a, A5 = some a → ¬ sysS (i + 1) mb g (setB bs i nb) a.block := fun a ha hj => by
        rcases hA6 with ⟨e, _⟩ | ⟨g', e, hg'⟩
        · exact hA5 a (by rw [← e]; exact ha) hj
        · rw [e] at ha; cases ha
          exact Nat.lt_irrefl _ (Nat.lt_of_lt_of_le (show g' < _ from hy.lt hj) hg')
      have hrow : ∀ r, (Value.slice A4 i c4).ownBlock = some r → H r = none ∧ ¬ sysS (i + 1) mb g (setB bs i nb) r := fun r e => by
        cases A4 with
        | none => simp [Value.ownBlock] at e
        | some a => simp [Value.ownBlock] at e; subst e; exact ⟨hown.out a rfl, hA5 a rfl⟩
      replace hy := hy.otherO hS (fun r e => (hrow r e).1) hgb (fun r e => (hrow r e).2)
      rw [← ptrs_succ] at hown2
      replace hS := hG.sub
      (refine S_op ?_; refine W_assignSl (by first | rfl | assumption) ?_; refine S_nil ?_; refine CW_region rfl ?_; refine S_op ?_; refine W_add1 (by first | rfl | assumption) (by omega) ?_; refine S_op ?_; refine W_moveInt (by first | rfl | assumption) ?_; refine S_nil ?_)
      exact ⟨(by repeat (first | exact AgreeOff.over | refine AgreeOff.upd rfl ?_ | refine AgreeOff.over2 rfl ?_)), m - 1, by omega, i + 1, setB bs i nb, A5, c5, H, rfl, rfl, hG, hle, hy, hown2, hA7, by omega, by omega⟩
    · have hi4 : i = 4 := by omega
      subst hi4
      skip
      obtain ⟨H3, hle3, hG3, hsl, hoth⟩ := hown.freeze hG
      replace hy := hy.rebase hle3 (fun j hj => (hoth j (fun a ha e => hA4 a ha (by rw [← e]; exact hj))).trans (hy.out hj))
      replace hl := hl.mono hle3
      clear hown hA4 hoth hG hS hle hle3
      obtain ⟨H, hHH⟩ : ∃ x, x = H3 := ⟨_, rfl⟩
      rw [← hHH] at hy hl hG3 hsl
      have hG := hG3
      have hS := hG.sub
      clear hG3 hHH
      obtain ⟨b4, off4, rfl, hrow4⟩ := ptrs_some hsl (q := 0) (by omega)
      clear hsl
      (refine CW_seq ?_; refine CW_region rfl ?_; refine S_op ?_; refine W_lssF (by first | rfl | assumption) (by first | rfl | assumption) (by first | omega | rfl) ?_; refine S_nil ?_; refine CW_seq ?_; refine CW_false (by first | rfl | assumption) ?_; refine CW_exit ?_; refine CW_seq ?_; refine CW_region rfl ?_)
      refine S_op ?_
      refine W_make (l := 4) (c := 4) hS (by rfl) (by rfl) (Nat.le_refl _) (by decide) (by decide) (made_one (z := .int .i64 0) 4 rfl) ?_
      intro w bgb hG' bgh bg
      have n_bg : ¬ sysS 4 mb g bs bgb := fun hj => by have := hy.lt hj; omega
      replace hy := hy.grow hG'
      replace bgh : w0.heap.size ≤ bgb := by have := hG.below.size; omega
      replace hG := hG.trans hG'
      replace hS := hG'.sub
      clear hG'
      (refine S_op ?_; refine W_assignSl (by first | rfl | assumption) ?_; refine S_nil ?_; refine CW_seq ?_; refine CW_region rfl ?_)
      refine S_op ?_
      refine W_make (l := 4) (c := 4) hS (by rfl) (by rfl) (Nat.le_refl _) (by decide) (by decide) (made_one (z := .int .i64 0) 4 rfl) ?_
      intro w knb hG' knh kn
      have n_kn : ¬ sysS 4 mb g bs knb := fun hj => by have := hy.lt hj; omega
      have n_bk : bgb ≠ knb := by have := bg.lt; omega
      replace hy := hy.grow hG'
      replace bg := bg.grow hG'
      replace knh : w0.heap.size ≤ knb := by have := hG.below.size; omega
      replace hG := hG.trans hG'
      replace hS := hG'.sub
      clear hG'
      (refine S_op ?_; refine W_assignSl (by first | rfl | assumption) ?_; refine S_nil ?_; refine CW_seq ?_; refine CW_seq ?_; refine CW_region rfl ?_; refine S_op ?_; refine W_moveSl (by first | rfl | assumption) ?_; refine S_op ?_; refine W_len (by first | rfl | assumption) ?_; refine S_op ?_; refine W_moveInt (by first | rfl | assumption) ?_; refine S_nil ?_; refine CW_block ?_)
      refine CW_loopM [2, 7, 8, 9, 10, 32, 33, 34, 35, 36, 37, 38, 39, 40, 41, 42, 43, 44, 45, 46, 47, 48, 49, 50, 51, 52, 53, 54, 55, 56, 57, 58, 59, 60, 61, 62, 63, 64, 65, 66, 67, 68, 69, 70, 71, 72, 73, 74, 75, 76, 77, 78, 79, 80, 81, 82, 83, 84, 85, 86, 87, 88, 89, 90, 91, 92, 93, 94, 95, 96, 97, 98, 99, 100, 101, 102, 103, 104, 105, 106, 107, 108, 109, 110]
        (fun m u w2 => ∃ (i : Nat) (ks : Nat → Cl) (t : Tr) (s c : Nat) (bl kl : List Int) (H2 : HF), u 32 = .int .i64 (i : Int) ∧ Grow H0 w0 H2 w2 ∧ PicksAt H2 A l ∧ Row H2 b4 off4 (ptrs bs 4) ∧ Sys H2 w2 w0.heap.size 4 mb g bs ks t s c ∧ Mut H2 w2 bgb (bl.map vI) ∧ Mut H2 w2 knb (kl.map vI) ∧ bl.length = 4 ∧ kl.length = 4 ∧
          (∀ q, q < 4 → TriesOk (ks q) (nth bl q) (nth kl q) t c) ∧ s ≤ i ∧ c ≤ i ∧ t.items.length ≤ i ∧ i ≤ l.length ∧ l.length - i ≤ m)
        (m := l.length) ⟨0, fun _ => cl0, none, 0, 0, [0, 0, 0, 0], [0, 0, 0, 0], H, rfl, hG, hl, hrow4, hy, bg, kn, rfl, rfl, ?_, Nat.le_refl _, Nat.le_refl _, Nat.le_refl _, by omega, by omega⟩ ?_
      · intro q hq
        have : nth [0, 0, 0, 0] q = (0 : Int) := by rcases (by omega : q = 0 ∨ q = 1 ∨ q = 2 ∨ q = 3) with rfl | rfl | rfl | rfl <;> rfl
        exact ⟨by rw [this]; omega, fun h => absurd rfl h, by rw [this]; show ((0 : Nat) : Int) + 0 ≤ ((0 : Nat) : Int); omega, (fun h => by rcases h with h | h <;> cases h), fun h => absurd rfl h⟩
      clear hy bg kn hG hS hu1 hm hi hlt hl hrow4
      rintro m u w ⟨i, ks, t, s, c, bl, kl, H, h32, hG, hl, hrow4, hy, bg, kn, hbl, hkl, htr, hsi, hci, hti, hi, hm⟩
      have hS := hG.sub
      by_cases hlt : i < l.length
      · obtain ⟨b, off, hA, hrow⟩ := hl.some hlt
        (refine CW_seq ?_; refine CW_region rfl ?_; refine S_op ?_; refine W_lssT (by first | rfl | assumption) (by first | rfl | assumption) (by first | omega | rfl) ?_; refine S_nil ?_; refine CW_seq ?_; refine CW_true (by first | rfl | assumption) ?_; refine CW_skip ?_; refine CW_seq ?_; refine CW_block ?_; refine CW_seq ?_; refine CW_region rfl ?_; refine S_op ?_; refine W_moveInt (by first | rfl | assumption) ?_; refine S_op ?_; refine W_assignInt (by first | rfl | assumption) ?_; refine S_nil ?_; refine CW_seq ?_; refine CW_region rfl ?_; refine S_op ?_; refine W_moveSl (by first | rfl | assumption) ?_; refine S_op ?_; refine W_moveInt (by first | rfl | assumption) ?_; refine S_op ?_; refine W_index (by first | rfl | assumption) (by first | rfl | assumption) (by first | assumption | omega | decide) (by first | rfl | assumption) ?_; refine S_op ?_; refine W_field (by first | rfl | assumption) ?_; refine S_op ?_; refine W_loadOm (by first | rfl | assumption) (by assumption) (by first | assumption | omega) (by assumption) ?_)
        refine S_op (W_remN (b := 4) (by rfl) (by rfl) (by decide) ?_)
        obtain ⟨q, hq⟩ : ∃ q, (pick l i).who % 4 = q := ⟨_, rfl⟩
        have hq4 : q < 4 := by omega
        rw [hq]
        (refine S_op ?_; refine W_convN (by first | rfl | assumption) (by omega) ?_; refine S_op ?_; refine W_assignInt (by first | rfl | assumption) ?_; refine S_nil ?_; refine CW_seq ?_; refine CW_region rfl ?_; refine S_op ?_; refine W_moveSl (by first | rfl | assumption) ?_; refine S_op ?_; refine W_moveInt (by first | rfl | assumption) ?_; refine S_op ?_; refine W_index (by first | rfl | assumption) (by first | rfl | assumption) (by first | assumption | omega | decide) (by first | rfl | assumption) ?_)
        refine S_op ?_
        refine W_loadRow (j := q * 1) (by rfl) hrow4 (by rw [Nat.mul_one]; exact ptrs_get hq4) hS ?_
        (refine S_op ?_; refine W_assignPtr (by first | rfl | assumption) ?_; refine S_nil ?_; refine CW_seq ?_; refine CW_seq ?_; refine CW_region rfl ?_; refine S_op ?_; refine W_movePtr (by first | rfl | assumption) ?_)
        refine S_op ?_
        refine W_callW (by rfl) ((pending_c hS (hy.cl q hq4)).mono ?_)
        rintro v w2 ⟨rfl, rfl⟩
        by_cases hst : (ks q).stage = 0
        · rw [show decide ((ks q).stage ≠ 0) = false by simp [hst]]
          (refine S_op ?_; refine W_not (by first | rfl | assumption) ?_; refine S_nil ?_; refine CW_true (by first | rfl | assumption) ?_; refine CW_seq ?_; refine CW_seq ?_; refine CW_region rfl ?_; refine S_op ?_; refine W_movePtr (by first | rfl | assumption) ?_; refine S_op ?_; refine W_moveSl (by first | rfl | assumption) ?_; refine S_op ?_; refine W_moveInt (by first | rfl | assumption) ?_; refine S_op ?_; refine W_index (by first | rfl | assumption) (by first | rfl | assumption) (by first | assumption | omega | decide) (by first | rfl | assumption) ?_; refine S_op ?_; refine W_field (by first | rfl | assumption) ?_; refine S_op ?_; refine W_loadOn (by first | rfl | assumption) (by assumption) (by first | assumption | omega) (by assumption) ?_)
          by_cases hx : checkE (pick l i).x = 0
          · (have hyg := fun j hj => hy.ge (j := j) hj; refine S_op ?_; refine W_callW (by rfl) ((sys_call hS hy hq4 hst _ hx).mono ?_)); rintro v w ⟨H, hT', rfl, hy⟩; replace hG := Turn.grow hG hT' hyg; replace hS := hG.sub; replace hl := hl.mono hT'.le; replace hrow := hrow.mono hT'.le; replace hrow4 := hrow4.mono hT'.le; replace bg := bg.turn hT' n_bg; replace kn := kn.turn hT' n_kn; clear hT' hyg
            have hG9 := hG
            (refine S_op ?_; refine W_eqlT (by first | rfl | assumption) (by first | rfl | assumption) (by first | omega | rfl) ?_; refine S_nil ?_; refine CW_true (by first | rfl | assumption) ?_)
            apply CW_region_gn (fun p H w => Sys H w w0.heap.size 4 mb g bs (setF ks q { ks q with x := (pick l i).x, stage := 1, tries := 0 }) t s c ∧ Mut H w bgb ((if p = 0 then bl else bl.set q (c : Int)).map vI) ∧ Mut H w knb ((if p ≤ 1 then kl else kl.set q (pick l i).x.kind).map vI)) 1 [_, _, _, _, _, _, _, _, _, _, _, _, _, _, _, _] [none, none, none, none, none, none, none, none, none, none, none, none, none, some 0, none, some 1] [some 57, some 58, some 59, some 60, some 61, some 62, some 63, some 64, some 65, some 66, some 67, some 68, some 69, none, some 70, none] [57, 58, 59, 60, 61, 62, 63, 64, 65, 66, 67, 68, 69, 70] mixed rfl rfl rfl rfl (by decide) rfl rfl rfl (by assumption)
            · exact ⟨hy, bg, kn⟩
            · exact fun p H w H' w' h hg => ⟨h.1.grow hg, h.2.1.grow hg, h.2.2.grow hg⟩
            · ((apply steps_cons; case h1 => (apply A_pure; intro c u H' w' hG; have hS' := hG.sub; have hS2' := hG.subOld; (repeat (first | refine depGo_eq rfl rfl rfl ?_ | (refine depGo_fact rfl rfl rfl ?_; intro v hv) | refine depGo_skip rfl ?_ | refine depGo_none rfl ?_)); apply Pure1.mk; intro K hk; exact W_moveSl (by first | rfl | assumption) hk)); (apply steps_cons; case h1 => (apply A_pure; intro c u H' w' hG; have hS' := hG.sub; have hS2' := hG.subOld; (repeat (first | refine depGo_eq rfl rfl rfl ?_ | (refine depGo_fact rfl rfl rfl ?_; intro v hv) | refine depGo_skip rfl ?_ | refine depGo_none rfl ?_)); apply Pure1.mk; intro K hk; exact W_moveInt (by first | rfl | assumption) hk)); (apply steps_cons; case h1 => (apply A_pure; intro c u H' w' hG; have hS' := hG.sub; have hS2' := hG.subOld; (repeat (first | refine depGo_eq rfl rfl rfl ?_ | (refine depGo_fact rfl rfl rfl ?_; intro v hv) | refine depGo_skip rfl ?_ | refine depGo_none rfl ?_)); apply Pure1.mk; intro K hk; exact W_moveSl (by first | rfl | assumption) hk)); (apply steps_cons; case h1 => (apply A_pure; intro c u H' w' hG; have hS' := hG.sub; have hS2' := hG.subOld; (repeat (first | refine depGo_eq rfl rfl rfl ?_ | (refine depGo_fact rfl rfl rfl ?_; intro v hv) | refine depGo_skip rfl ?_ | refine depGo_none rfl ?_)); apply Pure1.mk; intro K hk; exact W_moveInt (by first | rfl | assumption) hk)); (apply steps_cons; case h1 => (apply A_pure; intro c u H' w' hG; have hS' := hG.sub; have hS2' := hG.subOld; (repeat (first | refine depGo_eq rfl rfl rfl ?_ | (refine depGo_fact rfl rfl rfl ?_; intro v hv) | refine depGo_skip rfl ?_ | refine depGo_none rfl ?_)); apply Pure1.mk; intro K hk; exact W_movePtr (by first | rfl | assumption) hk)))
              (apply steps_cons; case h1 => (apply A_pure; intro c u H' w' hG; have hS' := hG.sub; have hS2' := hG.subOld; (repeat (first | refine depGo_eq rfl rfl rfl ?_ | (refine depGo_fact rfl rfl rfl ?_; intro v hv) | refine depGo_skip rfl ?_ | refine depGo_none rfl ?_)); apply Pure1.mk; intro K hk; exact W_callP (by rfl) (changes_Tr hS' hG.m.1.mem) hk))
              ((apply steps_cons; case h1 => (apply A_pure; intro c u H' w' hG; have hS' := hG.sub; have hS2' := hG.subOld; (repeat (first | refine depGo_eq rfl rfl rfl ?_ | (refine depGo_fact rfl rfl rfl ?_; intro v hv) | refine depGo_skip rfl ?_ | refine depGo_none rfl ?_)); apply Pure1.mk; intro K hk; exact W_moveSl (by first | rfl | assumption) hk)); (apply steps_cons; case h1 => (apply A_pure; intro c u H' w' hG; have hS' := hG.sub; have hS2' := hG.subOld; (repeat (first | refine depGo_eq rfl rfl rfl ?_ | (refine depGo_fact rfl rfl rfl ?_; intro v hv) | refine depGo_skip rfl ?_ | refine depGo_none rfl ?_)); apply Pure1.mk; intro K hk; exact W_moveInt (by first | rfl | assumption) hk)); (apply steps_cons; case h1 => (apply A_pure; intro c u H' w' hG; have hS' := hG.sub; have hS2' := hG.subOld; (repeat (first | refine depGo_eq rfl rfl rfl ?_ | (refine depGo_fact rfl rfl rfl ?_; intro v hv) | refine depGo_skip rfl ?_ | refine depGo_none rfl ?_)); apply Pure1.mk; intro K hk; exact W_index (by first | rfl | assumption) (by first | rfl | assumption) (by first | assumption | omega | decide) (by first | rfl | assumption) hk)); (apply steps_cons; case h1 => (apply A_pure; intro c u H' w' hG; have hS' := hG.sub; have hS2' := hG.subOld; (repeat (first | refine depGo_eq rfl rfl rfl ?_ | (refine depGo_fact rfl rfl rfl ?_; intro v hv) | refine depGo_skip rfl ?_ | refine depGo_none rfl ?_)); apply Pure1.mk; intro K hk; exact W_field (by first | rfl | assumption) hk)); (apply steps_cons; case h1 => (apply A_pure; intro c u H' w' hG; have hS' := hG.sub; have hS2' := hG.subOld; (repeat (first | refine depGo_eq rfl rfl rfl ?_ | (refine depGo_fact rfl rfl rfl ?_; intro v hv) | refine depGo_skip rfl ?_ | refine depGo_none rfl ?_)); apply Pure1.mk; intro K hk; exact W_field (by first | rfl | assumption) hk)); (apply steps_cons; case h1 => (apply A_pure; intro c u H' w' hG; have hS' := hG.sub; have hS2' := hG.subOld; (repeat (first | refine depGo_eq rfl rfl rfl ?_ | (refine depGo_fact rfl rfl rfl ?_; intro v hv) | refine depGo_skip rfl ?_ | refine depGo_none rfl ?_)); apply Pure1.mk; intro K hk; exact W_loadOo (by first | rfl | assumption) (by assumption) (by first | assumption | omega) (by assumption) hk)); (apply steps_cons; case h1 => (apply A_pure; intro c u H' w' hG; have hS' := hG.sub; have hS2' := hG.subOld; (repeat (first | refine depGo_eq rfl rfl rfl ?_ | (refine depGo_fact rfl rfl rfl ?_; intro v hv) | refine depGo_skip rfl ?_ | refine depGo_none rfl ?_)); apply Pure1.mk; intro K hk; exact W_index (by first | rfl | assumption) (by first | rfl | assumption) (by first | assumption | omega | decide) (by first | rfl | assumption) hk)))
              apply steps_cons
              · refine A_eff (φ := fun _ _ => True) ?_
                intro u' H' w' hG'
                have hS' := hG'.sub
                obtain ⟨q1, q2, q3⟩ := hG'.m
                replace q2 : Mut H' w' bgb (bl.map vI) := q2
                (repeat (first | refine depGo_eq rfl rfl rfl ?_ | (refine depGo_fact rfl rfl rfl ?_; intro v hv) | refine depGo_skip rfl ?_ | refine depGo_none rfl ?_))
                refine depGo_nil ?_
                refine W_storeM (o := 0 + q * 1) (vs := [.int .i64 (c : Int)]) (by rfl) (by rfl) q2 (by rfl) (OneCells.of_all (by rfl)) (by rfl) (by simp [hbl]; omega) ?_
                intro w3 hgb hm3
                rw [splice_one _ _ _ (by simp [hbl]; omega), show 0 + q * 1 = q by omega, show (Value.int .i64 (c : Int)) = vI c from rfl, ← List.map_set] at hm3
                exact ⟨H', HLe.refl _, hG'.next (hG'.grow.grownBy hgb (fun g h => by cases h; exact ⟨q2.out, bgh⟩)) ⟨q1.other hS' q2.out hgb n_bg, hm3, q3.other hgb (by intro e2; cases e2; exact n_bk rfl)⟩, fun _ _ => trivial⟩
              ((apply steps_cons; case h1 => (apply A_pure; intro c u H' w' hG; have hS' := hG.sub; have hS2' := hG.subOld; (repeat (first | refine depGo_eq rfl rfl rfl ?_ | (refine depGo_fact rfl rfl rfl ?_; intro v hv) | refine depGo_skip rfl ?_ | refine depGo_none rfl ?_)); apply Pure1.mk; intro K hk; exact W_index (by first | rfl | assumption) (by first | rfl | assumption) (by first | assumption | omega | decide) (by first | rfl | assumption) hk)))
              apply steps_cons
              · refine A_eff (φ := fun _ _ => True) ?_
                intro u' H' w' hG'
                have hS' := hG'.sub
                obtain ⟨q1, q2, q3⟩ := hG'.m
                replace q3 : Mut H' w' knb (kl.map vI) := q3
                (repeat (first | refine depGo_eq rfl rfl rfl ?_ | (refine depGo_fact rfl rfl rfl ?_; intro v hv) | refine depGo_skip rfl ?_ | refine depGo_none rfl ?_))
                refine depGo_nil ?_
                refine W_storeM (o := 0 + q * 1) (vs := [.int .i64 (pick l i).x.kind]) (by rfl) (by rfl) q3 (by rfl) (OneCells.of_all (by rfl)) (by rfl) (by simp [hkl]; omega) ?_
                intro w3 hgb hm3
                rw [splice_one _ _ _ (by simp [hkl]; omega), show 0 + q * 1 = q by omega, show (Value.int .i64 (pick l i).x.kind) = vI (pick l i).x.kind from rfl, ← List.map_set] at hm3
                exact ⟨H', HLe.refl _, hG'.next (hG'.grow.grownBy hgb (fun g h => by cases h; exact ⟨q3.out, knh⟩)) ⟨q1.other hS' q3.out hgb n_kn, q2.other hgb (by intro e2; cases e2; exact n_bk rfl), hm3⟩, fun _ _ => trivial⟩
              (exact trivial)
            · intro p H' w' hp hG hle hM
              (repeat (first | refine fin_eq rfl rfl ?_ | (refine fin_fact rfl ?_; intro v hv) | refine fin_none rfl ?_)); refine fin_nil ?_
              obtain ⟨p, rfl⟩ : ∃ j, p = j + 2 := ⟨p - 2, by omega⟩
              obtain ⟨hy, bg, kn⟩ := hM
              replace bg : Mut H' w' bgb ((bl.set q (c : Int)).map vI) := bg
              replace kn : Mut H' w' knb ((kl.set q (pick l i).x.kind).map vI) := by
                rw [if_neg (by omega)] at kn; exact kn
              (refine CW_exit ?_; refine CW_region rfl ?_; refine S_op ?_; refine W_add1 (by first | rfl | assumption) (by omega) ?_; refine S_op ?_; refine W_moveInt (by first | rfl | assumption) ?_; refine S_nil ?_)
              refine ⟨(by repeat (first | exact AgreeOff.over | refine AgreeOff.upd rfl ?_ | refine AgreeOff.over2 rfl ?_)), m - 1, by omega, i + 1, _, t, s, c, _, _, H', rfl, hG, hl.mono hle, hrow4.mono hle, hy, bg, kn, by simp [hbl], by simp [hkl], ?_, by omega, by omega, by omega, by omega, by omega⟩
              intro p hp
              by_cases e : p = q
              · subst e
                rw [setF_same, nth_set_same (by omega), nth_set_same (by omega)]
                exact ⟨by omega, fun _ => rfl, by show ((0 : Nat) : Int) + c ≤ c; omega, (fun h => by rcases h with h | h <;> cases h), fun _ _ => ⟨rfl, by show (1 : Nat) ≠ 3; omega⟩⟩
              · rw [setF_other e, nth_set_other e, nth_set_other e]; exact htr p hp
          · have hx' : ((checkE (pick l i).x : Nat) : Int) ≠ 0 := by omega
            (refine S_op ?_; refine W_callW (by rfl) ((call_no _ hS hst hx (hy.cl q hq4)).mono ?_)); rintro v w ⟨H, hG', rfl⟩; replace hl := hl.mono hG'.le; replace hrow4 := hrow4.mono hG'.le; replace hy := hy.grow hG'; replace bg := bg.grow hG'; replace kn := kn.grow hG'; replace hG := hG.trans hG'; replace hS := hG'.sub; clear hG'
            (refine S_op ?_; refine W_eqlF (by first | rfl | assumption) (by first | rfl | assumption) (by first | omega | rfl) ?_; refine S_nil ?_; refine CW_false (by first | rfl | assumption) ?_; refine CW_skip ?_; refine CW_exit ?_; refine CW_region rfl ?_; refine S_op ?_; refine W_add1 (by first | rfl | assumption) (by omega) ?_; refine S_op ?_; refine W_moveInt (by first | rfl | assumption) ?_; refine S_nil ?_)
            exact ⟨(by repeat (first | exact AgreeOff.over | refine AgreeOff.upd rfl ?_ | refine AgreeOff.over2 rfl ?_)), m - 1, by omega, i + 1, ks, t, s, c, bl, kl, H, rfl, hG, hl, hrow4, hy, bg, kn, hbl, hkl, htr, by omega, by omega, by omega, by omega, by omega⟩
        · rw [show decide ((ks q).stage ≠ 0) = true by simp [hst]]
          (refine S_op ?_; refine W_not (by first | rfl | assumption) ?_; refine S_nil ?_; refine CW_false (by first | rfl | assumption) ?_; refine CW_skip ?_; refine CW_seq ?_; refine CW_region rfl ?_; refine S_op ?_; refine W_movePtr (by first | rfl | assumption) ?_)
          refine S_op (W_callP (by rfl) (changes_Tr hS hy.mem) ?_)
          (refine S_op ?_; refine W_assignInt (by first | rfl | assumption) ?_; refine S_nil ?_; refine CW_seq ?_; refine CW_region rfl ?_; refine S_op ?_; refine W_movePtr (by first | rfl | assumption) ?_)
          have hgd := hy.good q hq4
          have ht0 := hy.tree
          have htq := (htr q hq4).le
          have htb := (htr q hq4).b0
          (have hyg := fun j hj => hy.ge (j := j) hj; refine S_op ?_; refine W_callW (by rfl) ((sys_step hS hy hq4 hst (by omega) (by omega) (by omega) (by omega)).mono ?_)); rintro v w ⟨H, m2, s2, hT', hs2, hmade, hy, rfl⟩; replace hG := Turn.grow hG hT' hyg; replace hS := hG.sub; replace hl := hl.mono hT'.le; replace hrow4 := hrow4.mono hT'.le; replace hgd := hgd.mono hT'.le; replace ht0 := ht0.mono hT'.le; replace bg := bg.turn hT' n_bg; replace kn := kn.turn hT' n_kn; clear hT' hyg
          obtain ⟨hk1, hk2, hk3, hk4, hk5⟩ := triesOk_step hgd hst ht0 hmade (by omega) (htr q hq4)
          have hlen := treeF_len hgd ht0
          obtain ⟨ks2, hks2, hk⟩ := setF_at (ks := ks) (q := q) (k := (stepF (ks q) t m2).1)
          have hoth : ∀ p, p ≠ q → ks2 p = ks p := fun p hp => by rw [hks2, setF_other hp]
          rw [← hks2] at hy
          have htr2 : ∀ p, p < 4 → TriesOk (ks2 p) (nth bl p) (nth kl p) (treeF (ks q) t) (if swaps (ks q) t = true then c + 1 else c) := fun p hp => by
            by_cases e : p = q
            · subst e; rw [hk]; exact hk1
            · rw [hoth p e]; exact triesOk_other (htr p hp) _ (fun h => by simp [treeF, h])
          obtain ⟨c2, hc2⟩ : ∃ z, z = (if swaps (ks q) t = true then c + 1 else c) := ⟨_, rfl⟩
          obtain ⟨t2, ht2⟩ : ∃ z, z = treeF (ks q) t := ⟨_, rfl⟩
          rw [← hc2, ← ht2] at hy htr2
          rw [← ht2] at hlen
          have hcc : c2 ≤ c + 1 ∧ c ≤ c2 := by rw [hc2]; split <;> omega
          obtain ⟨T, hT⟩ : ∃ z, z = (if (ks2 q).stage = 0 then 0 else (ks2 q).tries) := ⟨_, rfl⟩
          have hb0 := htb
          have hTle : (T : Int) + nth bl q ≤ c2 := by
            rw [hT]
            have h9 := (htr2 q hq4).le
            split <;> omega
          have hget : nth kl q = 1 → T = 0 ∧ c2 = c := fun h1 => by
            have h1' : (ks q).x.kind = 1 := by rw [← hk4]; exact h1
            refine ⟨?_, by rw [hc2, hk3 h1']; rfl⟩
            rw [hT]
            split
            · rfl
            · rename_i h8; rw [hk] at h8 ⊢; exact hk5 h8 h1'
          have hgb : (bl.map vI)[q]? = some (.int .i64 (nth bl q)) := nth_get (by omega) vI
          have hgk : (kl.map vI)[q]? = some (.int .i64 (nth kl q)) := nth_get (by omega) vI
          have htc : ∀ H' w', Grow H w H' w' → CallW Try.prog 21 [.pointer (some ⟨bs q, 0, none⟩)].toArray w' fun v w'' => v = .int .i64 (T : Nat) ∧ w'' = w' := fun H' w' hg => by
            rw [hT]; exact tries_c hg.sub ((hy.grow hg).cl q hq4)
          clear hmade hgd ht0 hk1 hk2 hk3 hk5
          (refine S_nil ?_; refine CW_seq ?_)
          have hG9 := hG
          by_cases hk1 : nth kl q = 1
          · obtain ⟨hT0, hc20⟩ := hget hk1
            apply CW_region_grow [_, _, _, _, _, _, _, _, _, _, _, _, _, _, _, _, _, _, _, _, _, _, _, _, _, _, _, _, _, _, _, _, _, _, _] [none, none, none, none, none, none, none, none, none, none, none, none, none, none, none, none, none, none, none, none, none, none, none, none, none, none, none, none, none, none, none, none, none, none, none] [some 75, some 76, some 77, some 78, some 79, some 80, some 81, some 82, some 83, some 84, some 85, some 86, some 87, some 88, some 89, some 90, some 91, some 92, some 93, some 94, some 95, some 96, some 97, some 98, some 99, some 100, some 101, some 102, some 103, some 104, some 105, some 106, some 107, some 108, some 109] [75, 76, 77, 78, 79, 80, 81, 82, 83, 84, 85, 86, 87, 88, 89, 90, 91, 92, 93, 94, 95, 96, 97, 98, 99, 100, 101, 102, 103, 104, 105, 106, 107, 108, 109] mixed rfl rfl rfl rfl (by decide) rfl (by assumption)
            · skip
              ((apply steps_cons; case h1 => (apply A_pure; intro c u H' w' hG; have hS' := hG.sub; have hS2' := hG.subOld; (repeat (first | refine depGo_eq rfl rfl rfl ?_ | (refine depGo_fact rfl rfl rfl ?_; intro v hv) | refine depGo_skip rfl ?_ | refine depGo_none rfl ?_)); apply Pure1.mk; intro K hk; exact W_movePtr (by first | rfl | assumption) hk)))
              (apply steps_cons; case h1 => (apply A_pure; intro c u H' w' hG; have hS' := hG.sub; have hS2' := hG.subOld; (repeat (first | refine depGo_eq rfl rfl rfl ?_ | (refine depGo_fact rfl rfl rfl ?_; intro v hv) | refine depGo_skip rfl ?_ | refine depGo_none rfl ?_)); apply Pure1.mk; intro K hk; exact W_callP (by rfl) (htc _ _ hG) hk))
              ((apply steps_cons; case h1 => (apply A_pure; intro c u H' w' hG; have hS' := hG.sub; have hS2' := hG.subOld; (repeat (first | refine depGo_eq rfl rfl rfl ?_ | (refine depGo_fact rfl rfl rfl ?_; intro v hv) | refine depGo_skip rfl ?_ | refine depGo_none rfl ?_)); apply Pure1.mk; intro K hk; exact W_movePtr (by first | rfl | assumption) hk)))
              (apply steps_cons; case h1 => (apply A_pure; intro c u H' w' hG; have hS' := hG.sub; have hS2' := hG.subOld; (repeat (first | refine depGo_eq rfl rfl rfl ?_ | (refine depGo_fact rfl rfl rfl ?_; intro v hv) | refine depGo_skip rfl ?_ | refine depGo_none rfl ?_)); apply Pure1.mk; intro K hk; exact W_callP (by rfl) (changes_Tr hS' (hy.grow hG).mem) hk))
              ((apply steps_cons; case h1 => (apply A_pure; intro c u H' w' hG; have hS' := hG.sub; have hS2' := hG.subOld; (repeat (first | refine depGo_eq rfl rfl rfl ?_ | (refine depGo_fact rfl rfl rfl ?_; intro v hv) | refine depGo_skip rfl ?_ | refine depGo_none rfl ?_)); apply Pure1.mk; intro K hk; exact W_moveSl (by first | rfl | assumption) hk)); (apply steps_cons; case h1 => (apply A_pure; intro c u H' w' hG; have hS' := hG.sub; have hS2' := hG.subOld; (repeat (first | refine depGo_eq rfl rfl rfl ?_ | (refine depGo_fact rfl rfl rfl ?_; intro v hv) | refine depGo_skip rfl ?_ | refine depGo_none rfl ?_)); apply Pure1.mk; intro K hk; exact W_moveInt (by first | rfl | assumption) hk)); (apply steps_cons; case h1 => (apply A_pure; intro c u H' w' hG; have hS' := hG.sub; have hS2' := hG.subOld; (repeat (first | refine depGo_eq rfl rfl rfl ?_ | (refine depGo_fact rfl rfl rfl ?_; intro v hv) | refine depGo_skip rfl ?_ | refine depGo_none rfl ?_)); apply Pure1.mk; intro K hk; exact W_index (by first | rfl | assumption) (by first | rfl | assumption) (by first | assumption | omega | decide) (by first | rfl | assumption) hk)))
              (apply steps_cons; case h1 => (apply A_pure; intro c u H' w' hG; have hS' := hG.sub; have hS2' := hG.subOld; (repeat (first | refine depGo_eq rfl rfl rfl ?_ | (refine depGo_fact rfl rfl rfl ?_; intro v hv) | refine depGo_skip rfl ?_ | refine depGo_none rfl ?_)); apply Pure1.mk; intro K hk; exact W_loadM (o := 0 + q * 1) (by rfl) (bg.grow hG) (by simpa using hgb) hk))
              (apply steps_cons; case h1 => (apply A_pure; intro c u H' w' hG; have hS' := hG.sub; have hS2' := hG.subOld; (repeat (first | refine depGo_eq rfl rfl rfl ?_ | (refine depGo_fact rfl rfl rfl ?_; intro v hv) | refine depGo_skip rfl ?_ | refine depGo_none rfl ?_)); apply Pure1.mk; intro K hk; exact W_sub (q := (c2 : Int) - nth bl q) (by rfl) (by rfl) (IntWalk.i64_in _ (by omega)) hk))
              ((apply steps_cons; case h1 => (apply A_pure; intro c u H' w' hG; have hS' := hG.sub; have hS2' := hG.subOld; (repeat (first | refine depGo_eq rfl rfl rfl ?_ | (refine depGo_fact rfl rfl rfl ?_; intro v hv) | refine depGo_skip rfl ?_ | refine depGo_none rfl ?_)); apply Pure1.mk; intro K hk; exact W_gtrF (by first | rfl | assumption) (by first | rfl | assumption) (by first | omega | rfl) hk)); (apply steps_cons; case h1 => (apply A_pure; intro c u H' w' hG; have hS' := hG.sub; have hS2' := hG.subOld; (repeat (first | refine depGo_eq rfl rfl rfl ?_ | (refine depGo_fact rfl rfl rfl ?_; intro v hv) | refine depGo_skip rfl ?_ | refine depGo_none rfl ?_)); apply Pure1.mk; intro K hk; exact W_moveBool (by first | rfl | assumption) hk)); (apply steps_cons; case h1 => (apply A_want; intro c u H' w' hG; have hS' := hG.sub; have hS2' := hG.subOld; (repeat (first | refine depGo_eq rfl rfl rfl ?_ | (refine depGo_fact rfl rfl rfl ?_; intro v hv) | refine depGo_skip rfl ?_ | refine depGo_none rfl ?_)); apply Pure2.mk; (case want => rfl); intro K hk; exact W_moveSl (by first | rfl | assumption) hk)); (apply steps_cons; case h1 => (apply A_want; intro c u H' w' hG; have hS' := hG.sub; have hS2' := hG.subOld; (repeat (first | refine depGo_eq rfl rfl rfl ?_ | (refine depGo_fact rfl rfl rfl ?_; intro v hv) | refine depGo_skip rfl ?_ | refine depGo_none rfl ?_)); apply Pure2.mk; (case want => rfl); intro K hk; exact W_moveInt (by first | rfl | assumption) hk)); (apply steps_cons; case h1 => (apply A_want; intro c u H' w' hG; have hS' := hG.sub; have hS2' := hG.subOld; (repeat (first | refine depGo_eq rfl rfl rfl ?_ | (refine depGo_fact rfl rfl rfl ?_; intro v hv) | refine depGo_skip rfl ?_ | refine depGo_none rfl ?_)); apply Pure2.mk; (case want => rfl); intro K hk; exact W_index (by first | rfl | assumption) (by first | rfl | assumption) (by first | assumption | omega | decide) (by first | rfl | assumption) hk)))
              (apply steps_cons; case h1 => (apply A_want; intro c u H' w' hG; have hS' := hG.sub; have hS2' := hG.subOld; (repeat (first | refine depGo_eq rfl rfl rfl ?_ | (refine depGo_fact rfl rfl rfl ?_; intro v hv) | refine depGo_skip rfl ?_ | refine depGo_none rfl ?_)); apply Pure2.mk; (case want => rfl); intro K hk; exact W_loadM (o := 0 + q * 1) (by rfl) (kn.grow hG) (by simpa using hgk) hk))
              ((apply steps_cons; case h1 => (apply A_want; intro c u H' w' hG; have hS' := hG.sub; have hS2' := hG.subOld; (repeat (first | refine depGo_eq rfl rfl rfl ?_ | (refine depGo_fact rfl rfl rfl ?_; intro v hv) | refine depGo_skip rfl ?_ | refine depGo_none rfl ?_)); apply Pure2.mk; (case want => rfl); intro K hk; exact W_eqlT (by first | rfl | assumption) (by first | rfl | assumption) (by first | omega | rfl) hk)); (apply steps_cons; case h1 => (apply A_want; intro c u H' w' hG; have hS' := hG.sub; have hS2' := hG.subOld; (repeat (first | refine depGo_eq rfl rfl rfl ?_ | (refine depGo_fact rfl rfl rfl ?_; intro v hv) | refine depGo_skip rfl ?_ | refine depGo_none rfl ?_)); apply Pure2.mk; (case want => rfl); intro K hk; exact W_moveBool (by first | rfl | assumption) hk)); (apply steps_cons; case h1 => (apply A_want; intro c u H' w' hG; have hS' := hG.sub; have hS2' := hG.subOld; (repeat (first | refine depGo_eq rfl rfl rfl ?_ | (refine depGo_fact rfl rfl rfl ?_; intro v hv) | refine depGo_skip rfl ?_ | refine depGo_none rfl ?_)); apply Pure2.mk; (case want => rfl); intro K hk; exact W_movePtr (by first | rfl | assumption) hk)))
              (apply steps_cons; case h1 => (apply A_want; intro c u H' w' hG; have hS' := hG.sub; have hS2' := hG.subOld; (repeat (first | refine depGo_eq rfl rfl rfl ?_ | (refine depGo_fact rfl rfl rfl ?_; intro v hv) | refine depGo_skip rfl ?_ | refine depGo_none rfl ?_)); apply Pure2.mk; (case want => rfl); intro K hk; exact W_callP (by rfl) (htc _ _ hG) hk))
              ((apply steps_cons; case h1 => (apply A_want; intro c u H' w' hG; have hS' := hG.sub; have hS2' := hG.subOld; (repeat (first | refine depGo_eq rfl rfl rfl ?_ | (refine depGo_fact rfl rfl rfl ?_; intro v hv) | refine depGo_skip rfl ?_ | refine depGo_none rfl ?_)); apply Pure2.mk; (case want => rfl); intro K hk; exact W_neqF (by first | rfl | assumption) (by first | rfl | assumption) (by first | omega | rfl) hk)); (apply steps_cons; case h1 => (apply A_want; intro c u H' w' hG; have hS' := hG.sub; have hS2' := hG.subOld; (repeat (first | refine depGo_eq rfl rfl rfl ?_ | (refine depGo_fact rfl rfl rfl ?_; intro v hv) | refine depGo_skip rfl ?_ | refine depGo_none rfl ?_)); apply Pure2.mk; (case want => rfl); intro K hk; exact W_moveBool (by first | rfl | assumption) hk)); (apply steps_cons; case h1 => (apply A_want; intro c u H' w' hG; have hS' := hG.sub; have hS2' := hG.subOld; (repeat (first | refine depGo_eq rfl rfl rfl ?_ | (refine depGo_fact rfl rfl rfl ?_; intro v hv) | refine depGo_skip rfl ?_ | refine depGo_none rfl ?_)); apply Pure2.mk; (case want => rfl); intro K hk; exact W_movePtr (by first | rfl | assumption) hk)))
              (apply steps_cons; case h1 => (apply A_want; intro c u H' w' hG; have hS' := hG.sub; have hS2' := hG.subOld; (repeat (first | refine depGo_eq rfl rfl rfl ?_ | (refine depGo_fact rfl rfl rfl ?_; intro v hv) | refine depGo_skip rfl ?_ | refine depGo_none rfl ?_)); apply Pure2.mk; (case want => rfl); intro K hk; exact W_callP (by rfl) (changes_Tr hS' (hy.grow hG).mem) hk))
              ((apply steps_cons; case h1 => (apply A_want; intro c u H' w' hG; have hS' := hG.sub; have hS2' := hG.subOld; (repeat (first | refine depGo_eq rfl rfl rfl ?_ | (refine depGo_fact rfl rfl rfl ?_; intro v hv) | refine depGo_skip rfl ?_ | refine depGo_none rfl ?_)); apply Pure2.mk; (case want => rfl); intro K hk; exact W_moveInt (by first | rfl | assumption) hk)); (apply steps_cons; case h1 => (apply A_want; intro c u H' w' hG; have hS' := hG.sub; have hS2' := hG.subOld; (repeat (first | refine depGo_eq rfl rfl rfl ?_ | (refine depGo_fact rfl rfl rfl ?_; intro v hv) | refine depGo_skip rfl ?_ | refine depGo_none rfl ?_)); apply Pure2.mk; (case want => rfl); intro K hk; exact W_neqF (by first | rfl | assumption) (by first | rfl | assumption) (by first | omega | rfl) hk)); (apply steps_cons; case h1 => (apply A_want; intro c u H' w' hG; have hS' := hG.sub; have hS2' := hG.subOld; (repeat (first | refine depGo_eq rfl rfl rfl ?_ | (refine depGo_fact rfl rfl rfl ?_; intro v hv) | refine depGo_skip rfl ?_ | refine depGo_none rfl ?_)); apply Pure2.mk; (case want => rfl); intro K hk; exact W_pickF (by first | rfl | assumption) (by first | rfl | assumption) hk)); (apply steps_cons; case h1 => (apply A_want; intro c u H' w' hG; have hS' := hG.sub; have hS2' := hG.subOld; (repeat (first | refine depGo_eq rfl rfl rfl ?_ | (refine depGo_fact rfl rfl rfl ?_; intro v hv) | refine depGo_skip rfl ?_ | refine depGo_none rfl ?_)); apply Pure2.mk; (case want => rfl); intro K hk; exact W_pickT (by first | rfl | assumption) (by first | rfl | assumption) hk)); (apply steps_cons; case h1 => (apply A_pure; intro c u H' w' hG; have hS' := hG.sub; have hS2' := hG.subOld; (repeat (first | refine depGo_eq rfl rfl rfl ?_ | (refine depGo_fact rfl rfl rfl ?_; intro v hv) | refine depGo_skip rfl ?_ | refine depGo_none rfl ?_)); apply Pure1.mk; intro K hk; exact W_pickF (by first | rfl | assumption) (by first | rfl | assumption) hk)); (apply steps_cons; case h1 => (apply A_pure; intro c u H' w' hG; have hS' := hG.sub; have hS2' := hG.subOld; (repeat (first | refine depGo_eq rfl rfl rfl ?_ | (refine depGo_fact rfl rfl rfl ?_; intro v hv) | refine depGo_skip rfl ?_ | refine depGo_none rfl ?_)); apply Pure1.mk; intro K hk; exact W_moveBool (by first | rfl | assumption) hk)); (apply steps_cons; case h1 => (apply A_want; intro c u H' w' hG; have hS' := hG.sub; have hS2' := hG.subOld; (repeat (first | refine depGo_eq rfl rfl rfl ?_ | (refine depGo_fact rfl rfl rfl ?_; intro v hv) | refine depGo_skip rfl ?_ | refine depGo_none rfl ?_)); apply Pure2.mk; (case want => rfl); intro K hk; exact W_movePtr (by first | rfl | assumption) hk)))
              (apply steps_cons; case h1 => (apply A_want; intro c u H' w' hG; have hS' := hG.sub; have hS2' := hG.subOld; (repeat (first | refine depGo_eq rfl rfl rfl ?_ | (refine depGo_fact rfl rfl rfl ?_; intro v hv) | refine depGo_skip rfl ?_ | refine depGo_none rfl ?_)); apply Pure2.mk; (case want => rfl); intro K hk; exact W_callP (by rfl) (changes_Tr hS' (hy.grow hG).mem) hk))
              ((apply steps_cons; case h1 => (apply A_want; intro c u H' w' hG; have hS' := hG.sub; have hS2' := hG.subOld; (repeat (first | refine depGo_eq rfl rfl rfl ?_ | (refine depGo_fact rfl rfl rfl ?_; intro v hv) | refine depGo_skip rfl ?_ | refine depGo_none rfl ?_)); apply Pure2.mk; (case want => rfl); intro K hk; exact W_moveInt (by first | rfl | assumption) hk)); (apply steps_cons; case h1 => (apply A_want; intro c u H' w' hG; have hS' := hG.sub; have hS2' := hG.subOld; (repeat (first | refine depGo_eq rfl rfl rfl ?_ | (refine depGo_fact rfl rfl rfl ?_; intro v hv) | refine depGo_skip rfl ?_ | refine depGo_none rfl ?_)); apply Pure2.mk; (case want => rfl); intro K hk; exact W_add1 (by first | rfl | assumption) (by omega) hk)); (apply steps_cons; case h1 => (apply A_want; intro c u H' w' hG; have hS' := hG.sub; have hS2' := hG.subOld; (repeat (first | refine depGo_eq rfl rfl rfl ?_ | (refine depGo_fact rfl rfl rfl ?_; intro v hv) | refine depGo_skip rfl ?_ | refine depGo_none rfl ?_)); apply Pure2.mk; (case want => rfl); intro K hk; exact W_gtrF (by first | rfl | assumption) (by first | rfl | assumption) (by first | omega | rfl) hk)); (apply steps_cons; case h1 => (apply A_pure; intro c u H' w' hG; have hS' := hG.sub; have hS2' := hG.subOld; (repeat (first | refine depGo_eq rfl rfl rfl ?_ | (refine depGo_fact rfl rfl rfl ?_; intro v hv) | refine depGo_skip rfl ?_ | refine depGo_none rfl ?_)); apply Pure1.mk; intro K hk; exact W_pickF (by first | rfl | assumption) (by first | rfl | assumption) hk)); exact trivial)
            · skip
              (intro H' w' hG; (repeat (first | refine fin_eq rfl rfl ?_ | (refine fin_fact rfl ?_; intro v hv) | refine fin_none rfl ?_)); refine fin_nil ?_)
              (refine CW_false (by first | rfl | assumption) ?_; refine CW_skip ?_; refine CW_region rfl ?_; refine S_op ?_; refine W_add1 (by first | rfl | assumption) (by omega) ?_; refine S_op ?_; refine W_moveInt (by first | rfl | assumption) ?_; refine S_nil ?_)
              exact ⟨(by repeat (first | exact AgreeOff.over | refine AgreeOff.upd rfl ?_ | refine AgreeOff.over2 rfl ?_)), m - 1, by omega, i + 1, ks2, t2, s2, c2, bl, kl, _, rfl, hG9.trans hG, hl.mono hG.le, hrow4.mono hG.le, hy.grow hG, bg.grow hG, kn.grow hG, hbl, hkl, htr2, by omega, by omega, by omega, by omega, by omega⟩
          · apply CW_region_grow [_, _, _, _, _, _, _, _, _, _, _, _, _, _, _, _, _, _, _, _, _, _, _, _, _, _, _, _, _, _, _, _, _, _, _] [none, none, none, none, none, none, none, none, none, none, none, none, none, none, none, none, none, none, none, none, none, none, none, none, none, none, none, none, none, none, none, none, none, none, none] [some 75, some 76, some 77, some 78, some 79, some 80, some 81, some 82, some 83, some 84, some 85, some 86, some 87, some 88, some 89, some 90, some 91, some 92, some 93, some 94, some 95, some 96, some 97, some 98, some 99, some 100, some 101, some 102, some 103, some 104, some 105, some 106, some 107, some 108, some 109] [75, 76, 77, 78, 79, 80, 81, 82, 83, 84, 85, 86, 87, 88, 89, 90, 91, 92, 93, 94, 95, 96, 97, 98, 99, 100, 101, 102, 103, 104, 105, 106, 107, 108, 109] mixed rfl rfl rfl rfl (by decide) rfl (by assumption)
            · skip
              ((apply steps_cons; case h1 => (apply A_pure; intro c u H' w' hG; have hS' := hG.sub; have hS2' := hG.subOld; (repeat (first | refine depGo_eq rfl rfl rfl ?_ | (refine depGo_fact rfl rfl rfl ?_; intro v hv) | refine depGo_skip rfl ?_ | refine depGo_none rfl ?_)); apply Pure1.mk; intro K hk; exact W_movePtr (by first | rfl | assumption) hk)))
              (apply steps_cons; case h1 => (apply A_pure; intro c u H' w' hG; have hS' := hG.sub; have hS2' := hG.subOld; (repeat (first | refine depGo_eq rfl rfl rfl ?_ | (refine depGo_fact rfl rfl rfl ?_; intro v hv) | refine depGo_skip rfl ?_ | refine depGo_none rfl ?_)); apply Pure1.mk; intro K hk; exact W_callP (by rfl) (htc _ _ hG) hk))
              ((apply steps_cons; case h1 => (apply A_pure; intro c u H' w' hG; have hS' := hG.sub; have hS2' := hG.subOld; (repeat (first | refine depGo_eq rfl rfl rfl ?_ | (refine depGo_fact rfl rfl rfl ?_; intro v hv) | refine depGo_skip rfl ?_ | refine depGo_none rfl ?_)); apply Pure1.mk; intro K hk; exact W_movePtr (by first | rfl | assumption) hk)))
              (apply steps_cons; case h1 => (apply A_pure; intro c u H' w' hG; have hS' := hG.sub; have hS2' := hG.subOld; (repeat (first | refine depGo_eq rfl rfl rfl ?_ | (refine depGo_fact rfl rfl rfl ?_; intro v hv) | refine depGo_skip rfl ?_ | refine depGo_none rfl ?_)); apply Pure1.mk; intro K hk; exact W_callP (by rfl) (changes_Tr hS' (hy.grow hG).mem) hk))
              ((apply steps_cons; case h1 => (apply A_pure; intro c u H' w' hG; have hS' := hG.sub; have hS2' := hG.subOld; (repeat (first | refine depGo_eq rfl rfl rfl ?_ | (refine depGo_fact rfl rfl rfl ?_; intro v hv) | refine depGo_skip rfl ?_ | refine depGo_none rfl ?_)); apply Pure1.mk; intro K hk; exact W_moveSl (by first | rfl | assumption) hk)); (apply steps_cons; case h1 => (apply A_pure; intro c u H' w' hG; have hS' := hG.sub; have hS2' := hG.subOld; (repeat (first | refine depGo_eq rfl rfl rfl ?_ | (refine depGo_fact rfl rfl rfl ?_; intro v hv) | refine depGo_skip rfl ?_ | refine depGo_none rfl ?_)); apply Pure1.mk; intro K hk; exact W_moveInt (by first | rfl | assumption) hk)); (apply steps_cons; case h1 => (apply A_pure; intro c u H' w' hG; have hS' := hG.sub; have hS2' := hG.subOld; (repeat (first | refine depGo_eq rfl rfl rfl ?_ | (refine depGo_fact rfl rfl rfl ?_; intro v hv) | refine depGo_skip rfl ?_ | refine depGo_none rfl ?_)); apply Pure1.mk; intro K hk; exact W_index (by first | rfl | assumption) (by first | rfl | assumption) (by first | assumption | omega | decide) (by first | rfl | assumption) hk)))
              (apply steps_cons; case h1 => (apply A_pure; intro c u H' w' hG; have hS' := hG.sub; have hS2' := hG.subOld; (repeat (first | refine depGo_eq rfl rfl rfl ?_ | (refine depGo_fact rfl rfl rfl ?_; intro v hv) | refine depGo_skip rfl ?_ | refine depGo_none rfl ?_)); apply Pure1.mk; intro K hk; exact W_loadM (o := 0 + q * 1) (by rfl) (bg.grow hG) (by simpa using hgb) hk))
              (apply steps_cons; case h1 => (apply A_pure; intro c u H' w' hG; have hS' := hG.sub; have hS2' := hG.subOld; (repeat (first | refine depGo_eq rfl rfl rfl ?_ | (refine depGo_fact rfl rfl rfl ?_; intro v hv) | refine depGo_skip rfl ?_ | refine depGo_none rfl ?_)); apply Pure1.mk; intro K hk; exact W_sub (q := (c2 : Int) - nth bl q) (by rfl) (by rfl) (IntWalk.i64_in _ (by omega)) hk))
              ((apply steps_cons; case h1 => (apply A_pure; intro c u H' w' hG; have hS' := hG.sub; have hS2' := hG.subOld; (repeat (first | refine depGo_eq rfl rfl rfl ?_ | (refine depGo_fact rfl rfl rfl ?_; intro v hv) | refine depGo_skip rfl ?_ | refine depGo_none rfl ?_)); apply Pure1.mk; intro K hk; exact W_gtrF (by first | rfl | assumption) (by first | rfl | assumption) (by first | omega | rfl) hk)); (apply steps_cons; case h1 => (apply A_pure; intro c u H' w' hG; have hS' := hG.sub; have hS2' := hG.subOld; (repeat (first | refine depGo_eq rfl rfl rfl ?_ | (refine depGo_fact rfl rfl rfl ?_; intro v hv) | refine depGo_skip rfl ?_ | refine depGo_none rfl ?_)); apply Pure1.mk; intro K hk; exact W_moveBool (by first | rfl | assumption) hk)); (apply steps_cons; case h1 => (apply A_want; intro c u H' w' hG; have hS' := hG.sub; have hS2' := hG.subOld; (repeat (first | refine depGo_eq rfl rfl rfl ?_ | (refine depGo_fact rfl rfl rfl ?_; intro v hv) | refine depGo_skip rfl ?_ | refine depGo_none rfl ?_)); apply Pure2.mk; (case want => rfl); intro K hk; exact W_moveSl (by first | rfl | assumption) hk)); (apply steps_cons; case h1 => (apply A_want; intro c u H' w' hG; have hS' := hG.sub; have hS2' := hG.subOld; (repeat (first | refine depGo_eq rfl rfl rfl ?_ | (refine depGo_fact rfl rfl rfl ?_; intro v hv) | refine depGo_skip rfl ?_ | refine depGo_none rfl ?_)); apply Pure2.mk; (case want => rfl); intro K hk; exact W_moveInt (by first | rfl | assumption) hk)); (apply steps_cons; case h1 => (apply A_want; intro c u H' w' hG; have hS' := hG.sub; have hS2' := hG.subOld; (repeat (first | refine depGo_eq rfl rfl rfl ?_ | (refine depGo_fact rfl rfl rfl ?_; intro v hv) | refine depGo_skip rfl ?_ | refine depGo_none rfl ?_)); apply Pure2.mk; (case want => rfl); intro K hk; exact W_index (by first | rfl | assumption) (by first | rfl | assumption) (by first | assumption | omega | decide) (by first | rfl | assumption) hk)))
              (apply steps_cons; case h1 => (apply A_want; intro c u H' w' hG; have hS' := hG.sub; have hS2' := hG.subOld; (repeat (first | refine depGo_eq rfl rfl rfl ?_ | (refine depGo_fact rfl rfl rfl ?_; intro v hv) | refine depGo_skip rfl ?_ | refine depGo_none rfl ?_)); apply Pure2.mk; (case want => rfl); intro K hk; exact W_loadM (o := 0 + q * 1) (by rfl) (kn.grow hG) (by simpa using hgk) hk))
              ((apply steps_cons; case h1 => (apply A_want; intro c u H' w' hG; have hS' := hG.sub; have hS2' := hG.subOld; (repeat (first | refine depGo_eq rfl rfl rfl ?_ | (refine depGo_fact rfl rfl rfl ?_; intro v hv) | refine depGo_skip rfl ?_ | refine depGo_none rfl ?_)); apply Pure2.mk; (case want => rfl); intro K hk; exact W_eqlF (by first | rfl | assumption) (by first | rfl | assumption) (by first | omega | rfl) hk)); (apply steps_cons; case h1 => (apply A_want; intro c u H' w' hG; have hS' := hG.sub; have hS2' := hG.subOld; (repeat (first | refine depGo_eq rfl rfl rfl ?_ | (refine depGo_fact rfl rfl rfl ?_; intro v hv) | refine depGo_skip rfl ?_ | refine depGo_none rfl ?_)); apply Pure2.mk; (case want => rfl); intro K hk; exact W_moveBool (by first | rfl | assumption) hk)); (apply steps_cons; case h1 => (apply A_pass; intro c u H' w' hG; (repeat (first | refine depGo_eq rfl rfl rfl ?_ | (refine depGo_fact rfl rfl rfl ?_; intro v hv) | refine depGo_skip rfl ?_ | refine depGo_none rfl ?_)); exact Pass1.mk rfl)); (apply steps_cons; case h1 => (apply A_pass; intro c u H' w' hG; (repeat (first | refine depGo_eq rfl rfl rfl ?_ | (refine depGo_fact rfl rfl rfl ?_; intro v hv) | refine depGo_skip rfl ?_ | refine depGo_none rfl ?_)); exact Pass1.mk rfl)); (apply steps_cons; case h1 => (apply A_pass; intro c u H' w' hG; (repeat (first | refine depGo_eq rfl rfl rfl ?_ | (refine depGo_fact rfl rfl rfl ?_; intro v hv) | refine depGo_skip rfl ?_ | refine depGo_none rfl ?_)); exact Pass1.mk rfl)); (apply steps_cons; case h1 => (apply A_pass; intro c u H' w' hG; (repeat (first | refine depGo_eq rfl rfl rfl ?_ | (refine depGo_fact rfl rfl rfl ?_; intro v hv) | refine depGo_skip rfl ?_ | refine depGo_none rfl ?_)); exact Pass1.mk rfl)); (apply steps_cons; case h1 => (apply A_passU; intro c u H' w' hG; (repeat (first | refine depGo_eq rfl rfl rfl ?_ | (refine depGo_fact rfl rfl rfl ?_; intro v hv) | refine depGo_skip rfl ?_ | refine depGo_none rfl ?_)); exact Pass2.mk rfl)); (apply steps_cons; case h1 => (apply A_passU; intro c u H' w' hG; (repeat (first | refine depGo_eq rfl rfl rfl ?_ | (refine depGo_fact rfl rfl rfl ?_; intro v hv) | refine depGo_skip rfl ?_ | refine depGo_none rfl ?_)); exact Pass2.mk rfl)); (apply steps_cons; case h1 => (apply A_passU; intro c u H' w' hG; (repeat (first | refine depGo_eq rfl rfl rfl ?_ | (refine depGo_fact rfl rfl rfl ?_; intro v hv) | refine depGo_skip rfl ?_ | refine depGo_none rfl ?_)); exact Pass2.mk rfl)); (apply steps_cons; case h1 => (apply A_passU; intro c u H' w' hG; (repeat (first | refine depGo_eq rfl rfl rfl ?_ | (refine depGo_fact rfl rfl rfl ?_; intro v hv) | refine depGo_skip rfl ?_ | refine depGo_none rfl ?_)); exact Pass2.mk rfl)); (apply steps_cons; case h1 => (apply A_pass; intro c u H' w' hG; (repeat (first | refine depGo_eq rfl rfl rfl ?_ | (refine depGo_fact rfl rfl rfl ?_; intro v hv) | refine depGo_skip rfl ?_ | refine depGo_none rfl ?_)); exact Pass1.mk rfl)); (apply steps_cons; case h1 => (apply A_want; intro c u H' w' hG; have hS' := hG.sub; have hS2' := hG.subOld; (repeat (first | refine depGo_eq rfl rfl rfl ?_ | (refine depGo_fact rfl rfl rfl ?_; intro v hv) | refine depGo_skip rfl ?_ | refine depGo_none rfl ?_)); apply Pure2.mk; (case want => rfl); intro K hk; exact W_pickF (by first | rfl | assumption) (by first | rfl | assumption) hk)); (apply steps_cons; case h1 => (apply A_pure; intro c u H' w' hG; have hS' := hG.sub; have hS2' := hG.subOld; (repeat (first | refine depGo_eq rfl rfl rfl ?_ | (refine depGo_fact rfl rfl rfl ?_; intro v hv) | refine depGo_skip rfl ?_ | refine depGo_none rfl ?_)); apply Pure1.mk; intro K hk; exact W_pickF (by first | rfl | assumption) (by first | rfl | assumption) hk)); (apply steps_cons; case h1 => (apply A_pure; intro c u H' w' hG; have hS' := hG.sub; have hS2' := hG.subOld; (repeat (first | refine depGo_eq rfl rfl rfl ?_ | (refine depGo_fact rfl rfl rfl ?_; intro v hv) | refine depGo_skip rfl ?_ | refine depGo_none rfl ?_)); apply Pure1.mk; intro K hk; exact W_moveBool (by first | rfl | assumption) hk)); (apply steps_cons; case h1 => (apply A_want; intro c u H' w' hG; have hS' := hG.sub; have hS2' := hG.subOld; (repeat (first | refine depGo_eq rfl rfl rfl ?_ | (refine depGo_fact rfl rfl rfl ?_; intro v hv) | refine depGo_skip rfl ?_ | refine depGo_none rfl ?_)); apply Pure2.mk; (case want => rfl); intro K hk; exact W_movePtr (by first | rfl | assumption) hk)))
              (apply steps_cons; case h1 => (apply A_want; intro c u H' w' hG; have hS' := hG.sub; have hS2' := hG.subOld; (repeat (first | refine depGo_eq rfl rfl rfl ?_ | (refine depGo_fact rfl rfl rfl ?_; intro v hv) | refine depGo_skip rfl ?_ | refine depGo_none rfl ?_)); apply Pure2.mk; (case want => rfl); intro K hk; exact W_callP (by rfl) (changes_Tr hS' (hy.grow hG).mem) hk))
              ((apply steps_cons; case h1 => (apply A_want; intro c u H' w' hG; have hS' := hG.sub; have hS2' := hG.subOld; (repeat (first | refine depGo_eq rfl rfl rfl ?_ | (refine depGo_fact rfl rfl rfl ?_; intro v hv) | refine depGo_skip rfl ?_ | refine depGo_none rfl ?_)); apply Pure2.mk; (case want => rfl); intro K hk; exact W_moveInt (by first | rfl | assumption) hk)); (apply steps_cons; case h1 => (apply A_want; intro c u H' w' hG; have hS' := hG.sub; have hS2' := hG.subOld; (repeat (first | refine depGo_eq rfl rfl rfl ?_ | (refine depGo_fact rfl rfl rfl ?_; intro v hv) | refine depGo_skip rfl ?_ | refine depGo_none rfl ?_)); apply Pure2.mk; (case want => rfl); intro K hk; exact W_add1 (by first | rfl | assumption) (by omega) hk)); (apply steps_cons; case h1 => (apply A_want; intro c u H' w' hG; have hS' := hG.sub; have hS2' := hG.subOld; (repeat (first | refine depGo_eq rfl rfl rfl ?_ | (refine depGo_fact rfl rfl rfl ?_; intro v hv) | refine depGo_skip rfl ?_ | refine depGo_none rfl ?_)); apply Pure2.mk; (case want => rfl); intro K hk; exact W_gtrF (by first | rfl | assumption) (by first | rfl | assumption) (by first | omega | rfl) hk)); (apply steps_cons; case h1 => (apply A_pure; intro c u H' w' hG; have hS' := hG.sub; have hS2' := hG.subOld; (repeat (first | refine depGo_eq rfl rfl rfl ?_ | (refine depGo_fact rfl rfl rfl ?_; intro v hv) | refine depGo_skip rfl ?_ | refine depGo_none rfl ?_)); apply Pure1.mk; intro K hk; exact W_pickF (by first | rfl | assumption) (by first | rfl | assumption) hk)); exact trivial)
            · skip
              (intro H' w' hG; (repeat (first | refine fin_eq rfl rfl ?_ | (refine fin_fact rfl ?_; intro v hv) | refine fin_none rfl ?_)); refine fin_nil ?_)
              (refine CW_false (by first | rfl | assumption) ?_; refine CW_skip ?_; refine CW_region rfl ?_; refine S_op ?_; refine W_add1 (by first | rfl | assumption) (by omega) ?_; refine S_op ?_; refine W_moveInt (by first | rfl | assumption) ?_; refine S_nil ?_)
              exact ⟨(by repeat (first | exact AgreeOff.over | refine AgreeOff.upd rfl ?_ | refine AgreeOff.over2 rfl ?_)), m - 1, by omega, i + 1, ks2, t2, s2, c2, bl, kl, _, rfl, hG9.trans hG, hl.mono hG.le, hrow4.mono hG.le, hy.grow hG, bg.grow hG, kn.grow hG, hbl, hkl, htr2, by omega, by omega, by omega, by omega, by omega⟩
      · have hin : i = l.length := by omega
        subst hin
        (refine CW_seq ?_; refine CW_region rfl ?_; refine S_op ?_; refine W_lssF (by first | rfl | assumption) (by first | rfl | assumption) (by first | omega | rfl) ?_; refine S_nil ?_; refine CW_seq ?_; refine CW_false (by first | rfl | assumption) ?_; refine CW_exit ?_; refine CW_seq ?_; refine CW_region rfl ?_; refine S_op ?_; refine W_assignBool (by first | rfl | assumption) ?_; refine S_nil ?_; refine CW_ret ?_)
        exact ⟨_, ResW_one (v := .bool _) rfl, H, hG, rfl⟩
end Go.Proofs.Ytglhnfficliaoaa
