/- ClientAlone, walked. Conditions: sizes. -/
import Derived.Test.YtglhnfficliaoaaCli7
import Derived.Test.YtglhnfficliaoaaDoC
import Derived.Test.YtglhnfficliaoaaHist1
namespace Go.Proofs.Ytglhnfficliaoaa
open Go.Proofs Go.RowKit
set_option linter.unusedVariables false
attribute [local irreducible] CW CWD SeqW OpW
set_option maxHeartbeats 4000000
/-- As many steps as the document says. -/
def aloneN (t : Tr) (x : Call) : Nat := 1 + t.height + (if doesL t.items x = t.items then 0 else 1)
/-- Ahead of step kk. -/
structure AloneAt (t : Tr) (x : Call) (kk : Nat) (k : Cl) (t2 : Tr) : Prop where
  cx : k.x = x
  tries : k.tries = 0
  st : (kk = 1 ∧ k.stage = 1 ∧ t2 = t) ∨ (k.stage = 2 ∧ k.left + kk = t.height + 2 ∧ k.old = t ∧ t2 = t) ∨ (kk = t.height + 2 ∧ k.stage = 3 ∧ k.old = t ∧ t2 = t) ∨ (kk = aloneN t x + 1 ∧ k.stage = 0 ∧ t2.items = doesL t.items x)
theorem alone_step {H : HF} {t t2 m : Tr} {x : Call} {kk : Nat} {k : Cl} (hg : ClGood H k) (hk : k.stage ≠ 0) (ht : TreeAt H t2) (hm : k.stage = 1 → MadeOf H t2 k.x m) (hti : t2.items.length ≤ 800000) (h : AloneAt t x kk k t2) :
    AloneAt t x (kk + 1) (stepF k t2 m).1 (treeF k t2) ∧ (stepF k t2 m).2.2 = decide (kk = aloneN t x) ∧ ((stepF k t2 m).2.2 = true → (stepF k t2 m).2.1 = doesR t.items x) := by
  obtain ⟨rfl, htr, hst⟩ := h
  rcases hst with ⟨rfl, e, rfl⟩ | ⟨e, hl, ho, rfl⟩ | ⟨rfl, e, ho, rfl⟩ | ⟨_, e, _⟩
  · have e1 : swaps k t2 = false := by simp [swaps, e]
    have e2 : stepF k t2 m = lookedK { k with old := t2, new := m, left := t2.height, rep := doesR t2.items k.x } := by simp [stepF, e]
    obtain ⟨_, l2, l3, l4⟩ := lookedK_cases (k := { k with old := t2, new := m, left := t2.height, rep := doesR t2.items k.x }) (hg.call hk) ht (hm e) rfl (Nat.le_refl _) hti
    have hmi := (hm e).items
    rw [e2, treeF, e1]
    simp only [Bool.false_eq_true, if_false]
    rcases l4 with ⟨hl0, e⟩ | ⟨hl0, hnew, e⟩ | ⟨hl0, hnew, e⟩
    · have hl0 : 0 < t2.height := hl0
      rw [e]
      refine ⟨⟨rfl, htr, .inr (.inl ⟨rfl, by show t2.height + 2 = _; omega, rfl, rfl⟩)⟩, ?_, fun h => by cases h⟩
      exact (decide_eq_false (by unfold aloneN; omega)).symm
    · have hl0 : t2.height = 0 := hl0
      have hnew : m = t2 := hnew
      have hsame : doesL t2.items k.x = t2.items := by rw [← hmi, hnew]
      have ha : aloneN t2 k.x = 1 := by unfold aloneN; rw [hl0, if_pos hsame]
      rw [e]
      exact ⟨⟨rfl, htr, .inr (.inr (.inr ⟨by show 1 + 1 = aloneN t2 k.x + 1; rw [ha], rfl, hsame.symm⟩))⟩, (decide_eq_true ha.symm).symm, fun _ => rfl⟩
    · have hl0 : t2.height = 0 := hl0
      have hnew : m ≠ t2 := hnew
      have hch : doesL t2.items k.x ≠ t2.items := fun h => hnew ((hm ‹_›).same h)
      rw [e]
      refine ⟨⟨rfl, htr, .inr (.inr (.inl ⟨by omega, rfl, rfl, rfl⟩))⟩, ?_, fun h => by cases h⟩
      exact (decide_eq_false (by unfold aloneN; rw [if_neg hch]; omega)).symm
  · have e1 : swaps k t2 = false := by simp [swaps, e]
    have e2 : stepF k t2 m = lookedK { k with left := k.left - 1 } := by simp [stepF, e]
    obtain ⟨m1, m2, m3, m4, m5⟩ := hg.made (by omega)
    have hl1 := hg.left e
    obtain ⟨_, l2, l3, l4⟩ := lookedK_cases (k := { k with left := k.left - 1 }) (hg.call hk) m1 m2 m3 (by show k.left - 1 ≤ k.old.height; omega) m5
    have hmi := m2.items
    rw [ho] at hmi m3
    rw [e2, treeF, e1]
    simp only [Bool.false_eq_true, if_false]
    rcases l4 with ⟨hl0, e⟩ | ⟨hl0, hnew, e⟩ | ⟨hl0, hnew, e⟩
    · have hl0 : 0 < k.left - 1 := hl0
      rw [e]
      refine ⟨⟨rfl, htr, .inr (.inl ⟨rfl, by show k.left - 1 + (kk + 1) = _; omega, ho, rfl⟩)⟩, ?_, fun h => by cases h⟩
      exact (decide_eq_false (by unfold aloneN; omega)).symm
    · have hl0 : k.left - 1 = 0 := hl0
      have hnew : k.new = k.old := hnew
      have hsame : doesL t2.items k.x = t2.items := by rw [← hmi, hnew, ho]
      have ha : aloneN t2 k.x = kk := by unfold aloneN; rw [if_pos hsame]; omega
      rw [e]
      exact ⟨⟨rfl, htr, .inr (.inr (.inr ⟨by show kk + 1 = aloneN t2 k.x + 1; rw [ha], rfl, hsame.symm⟩))⟩, (decide_eq_true ha.symm).symm, fun _ => m3⟩
    · have hl0 : k.left - 1 = 0 := hl0
      have hnew : k.new ≠ k.old := hnew
      have hch : doesL t2.items k.x ≠ t2.items := fun h => hnew (m2.same (by rw [ho]; exact h))
      rw [e]
      refine ⟨⟨rfl, htr, .inr (.inr (.inl ⟨by omega, rfl, ho, rfl⟩))⟩, ?_, fun h => by cases h⟩
      exact (decide_eq_false (by unfold aloneN; rw [if_neg hch]; omega)).symm
  · obtain ⟨m1, m2, m3, m4, m5⟩ := hg.made (by omega)
    have hsw := hg.swap e
    have hmi := m2.items
    have hch : doesL t2.items k.x ≠ t2.items := fun h => hsw (m2.same (by rw [ho]; exact h))
    rw [ho] at hmi m3
    have hs : sameT t2 k.old = true := by rw [ho]; exact sameT_refl _
    have e2 : stepF k t2 m = (endK k, k.rep, true) := by simp [stepF, e, swapK, hs]
    have e1 : swaps k t2 = true := by simp [swaps, e, hs]
    have ha : aloneN t2 k.x = t2.height + 2 := by unfold aloneN; rw [if_neg hch]; omega
    rw [e2, treeF, e1]
    simp only [if_true]
    exact ⟨⟨rfl, htr, .inr (.inr (.inr ⟨by show t2.height + 2 + 1 = aloneN t2 k.x + 1; rw [ha], rfl, hmi⟩))⟩, (decide_eq_true ha.symm).symm, fun _ => m3⟩
  · exact absurd e hk
theorem clientAlone_c (H0 : HF) (A : Option Addr) (c : Nat) (l : List Op16) (hl : PicksAt H0 A l) (hb : l.length ≤ 100000000000000) (hs : ∀ o ∈ l, o.x.key.size ≤ 150000000000000 ∧ o.x.val.size ≤ 150000000000000) :
    Fn Try.prog 9 [.slice A l.length c] H0 fun v _ => v = .bool true := by
  refine Fn_of_CW Try.func9 rfl Try.ntmps9 Try.results9 rfl fun w0 hS => ?_; have hG := Grow.refl hS
  (refine CW_seq ?_; refine CW_region rfl ?_; refine S_op ?_; refine W_assignBool (by first | rfl | assumption) ?_; refine S_nil ?_; refine CW_seq ?_; refine CW_seq ?_; refine CW_region rfl ?_)
  (refine S_op ?_; refine W_call hS (by rfl) (awake16_c H0) ?_); rintro v H w hG' rfl; replace hG := hG.trans hG'; replace hS := hG'.sub; replace hl := hl.mono hG'.le; clear hG'
  (refine S_op ?_; refine W_not (by first | rfl | assumption) ?_; refine S_op ?_; refine W_moveBool (by first | rfl | assumption) ?_; refine S_want (by rfl) ?_; refine W_moveSl (by first | rfl | assumption) ?_)
  (refine S_want (by rfl) ?_; refine W_call hS (by rfl) (few16_c H A c l hl hb hs) ?_); rintro v H w hG' ⟨z, rfl, hz⟩; replace hG := hG.trans hG'; replace hS := hG'.sub; replace hl := hl.mono hG'.le; clear hG'
  cases z with
  | false =>
    (refine S_want (by rfl) ?_; refine W_not (by first | rfl | assumption) ?_; refine S_op ?_; refine W_pickF (by first | rfl | assumption) (by first | rfl | assumption) ?_; refine S_op ?_; refine W_moveBool (by first | rfl | assumption) ?_; refine S_pass (by rfl) ?_; refine S_pass (by rfl) ?_; refine S_pass (by rfl) ?_; refine S_op ?_; refine W_pickT (by first | rfl | assumption) (by first | rfl | assumption) ?_; refine S_nil ?_; refine CW_true (by first | rfl | assumption) ?_; refine CW_seq ?_; refine CW_region rfl ?_)
    (refine S_op ?_; refine W_call hS (by rfl) (awake16_c H) ?_); rintro v H w hG' rfl; replace hG := hG.trans hG'; replace hS := hG'.sub; clear hG'
    (refine S_op ?_; refine W_assignBool (by first | rfl | assumption) ?_; refine S_nil ?_; refine CW_ret ?_)
    exact ⟨_, ResW_one (v := .bool _) rfl, H, hG, rfl⟩
  | true =>
    have h400 := hz rfl
    clear hz
    by_cases hbig : 120 < l.length
    · (refine S_want (by rfl) ?_; refine W_not (by first | rfl | assumption) ?_; refine S_op ?_; refine W_pickF (by first | rfl | assumption) (by first | rfl | assumption) ?_; refine S_op ?_; refine W_moveBool (by first | rfl | assumption) ?_; refine S_want (by rfl) ?_; refine W_moveSl (by first | rfl | assumption) ?_; refine S_want (by rfl) ?_; refine W_len (by first | rfl | assumption) ?_; refine S_want (by rfl) ?_; refine W_gtrT (by first | rfl | assumption) (by first | rfl | assumption) (by first | omega | rfl) ?_; refine S_op ?_; refine W_pickF (by first | rfl | assumption) (by first | rfl | assumption) ?_; refine S_nil ?_; refine CW_true (by first | rfl | assumption) ?_; refine CW_seq ?_; refine CW_region rfl ?_)
      (refine S_op ?_; refine W_call hS (by rfl) (awake16_c H) ?_); rintro v H w hG' rfl; replace hG := hG.trans hG'; replace hS := hG'.sub; clear hG'
      (refine S_op ?_; refine W_assignBool (by first | rfl | assumption) ?_; refine S_nil ?_; refine CW_ret ?_)
      exact ⟨_, ResW_one (v := .bool _) rfl, H, hG, rfl⟩
    (refine S_want (by rfl) ?_; refine W_not (by first | rfl | assumption) ?_; refine S_op ?_; refine W_pickF (by first | rfl | assumption) (by first | rfl | assumption) ?_; refine S_op ?_; refine W_moveBool (by first | rfl | assumption) ?_; refine S_want (by rfl) ?_; refine W_moveSl (by first | rfl | assumption) ?_; refine S_want (by rfl) ?_; refine W_len (by first | rfl | assumption) ?_; refine S_want (by rfl) ?_; refine W_gtrF (by first | rfl | assumption) (by first | rfl | assumption) (by first | omega | rfl) ?_; refine S_op ?_; refine W_pickF (by first | rfl | assumption) (by first | rfl | assumption) ?_; refine S_nil ?_; refine CW_false (by first | rfl | assumption) ?_; refine CW_skip ?_; refine CW_seq ?_; refine CW_region rfl ?_)
    refine S_op ?_
    refine W_callW (by rfl) ((sys_new (B := w0.heap.size) hS hG.below.size (fun _ => 0) (fun _ => cl0)).mono ?_)
    rintro v w ⟨mb, g, rfl, hG', hy⟩
    replace hG := hG.trans hG'
    replace hS := hG'.sub
    clear hG'
    (refine S_op ?_; refine W_assignPtr (by first | rfl | assumption) ?_; refine S_nil ?_; refine CW_seq ?_; refine CW_region rfl ?_; refine S_op ?_; refine W_movePtr (by first | rfl | assumption) ?_)
    refine S_op ?_
    refine W_callW (by rfl) ((sys_add hS hG.below.size hy).mono ?_)
    rintro v w ⟨cb, rfl, hG', hy⟩
    replace hG := hG.trans hG'
    replace hS := hG'.sub
    clear hG'
    have e0 : setB (fun _ => 0) 0 cb 0 = cb := setB_same _ _ _
    obtain ⟨bs, hbs⟩ : ∃ z, z = setB (fun _ => 0) 0 cb := ⟨_, rfl⟩
    rw [← hbs] at hy e0
    subst e0
    rw [setF_zero] at hy
    clear hbs
    (refine S_op ?_; refine W_assignPtr (by first | rfl | assumption) ?_; refine S_nil ?_; refine CW_seq ?_; refine CW_region rfl ?_; refine S_op ?_; refine W_assignSl (by first | rfl | assumption) ?_; refine S_nil ?_; refine CW_seq ?_; refine CW_seq ?_; refine CW_region rfl ?_; refine S_op ?_; refine W_moveSl (by first | rfl | assumption) ?_; refine S_op ?_; refine W_len (by first | rfl | assumption) ?_; refine S_op ?_; refine W_moveInt (by first | rfl | assumption) ?_; refine S_nil ?_; refine CW_block ?_)
    refine CW_loopM [2, 5, 6, 7, 8, 9, 10, 11, 12, 13, 14, 15, 16, 38, 39, 40, 41, 42, 43, 44, 45, 46, 47, 48, 49, 50, 51, 52, 53, 54, 55, 56, 57, 58, 59, 60, 61, 62, 63, 64, 65, 66, 67, 68, 69, 70, 71, 72, 73, 74, 75, 76, 77, 78, 79, 80, 81, 82, 83, 84, 85, 86, 87, 88, 89, 90, 91, 92, 93, 94, 95, 96, 97, 98, 99, 100, 101, 102, 103, 104, 105, 106, 107, 108, 109, 110, 111, 112]
      (fun m u w2 => ∃ (i : Nat) (ks : Nat → Cl) (t : Tr) (s c : Nat) (A5 : Option Addr) (c5 : Nat) (H2 : HF), u 38 = .int .i64 (i : Int) ∧ u 5 = .slice A5 t.items.length c5 ∧ Grow H0 w0 H2 w2 ∧ PicksAt H2 A l ∧ EntsAt H2 A5 t.items ∧ t.items.length ≤ c5 ∧ Sys H2 w2 w0.heap.size 1 mb g bs ks t s c ∧
        (ks 0).stage = 0 ∧ s ≤ 1000 * i ∧ c ≤ 1000 * i ∧ t.items.length ≤ i ∧ i ≤ l.length ∧ l.length - i ≤ m)
      (m := l.length) ⟨0, fun _ => cl0, none, 0, 0, none, 0, H, rfl, rfl, hG, hl, .inl rfl, Nat.le_refl _, hy, rfl, Nat.le_refl _, Nat.le_refl _, Nat.le_refl _, by omega, by omega⟩ ?_
    clear hy hG hS hl
    rintro m u w ⟨i, ks, t, s, c, A5, c5, H, h38, h5, hG, hl, hl5, hc5, hy, hst, hsi, hci, hti, hi, hm⟩
    have hS := hG.sub
    by_cases hlt : i < l.length
    · obtain ⟨b, off, hA, hrow⟩ := hl.some hlt
      have hht := hy.tree.height
      (refine CW_seq ?_; refine CW_region rfl ?_; refine S_op ?_; refine W_lssT (by first | rfl | assumption) (by first | rfl | assumption) (by first | omega | rfl) ?_; refine S_nil ?_; refine CW_seq ?_; refine CW_true (by first | rfl | assumption) ?_; refine CW_skip ?_; refine CW_seq ?_; refine CW_block ?_; refine CW_seq ?_; refine CW_region rfl ?_; refine S_op ?_; refine W_moveInt (by first | rfl | assumption) ?_; refine S_op ?_; refine W_assignInt (by first | rfl | assumption) ?_; refine S_nil ?_; refine CW_seq ?_; refine CW_region rfl ?_; refine S_op ?_; refine W_moveSl (by first | rfl | assumption) ?_; refine S_op ?_; refine W_moveInt (by first | rfl | assumption) ?_; refine S_op ?_; refine W_index (by first | rfl | assumption) (by first | rfl | assumption) (by first | assumption | omega | decide) (by first | rfl | assumption) ?_; refine S_op ?_; refine W_field (by first | rfl | assumption) ?_; refine S_op ?_; refine W_loadOn (by first | rfl | assumption) (by assumption) (by first | assumption | omega) (by assumption) ?_)
      (have hyl := fun j hj => hy.lt (j := j) hj; refine S_op (W_alloc hS ?_)); intro w c7b hG' c7h c7; have n_c7 : _ → False := fun hj => absurd (hyl c7b hj) (by omega); replace hy := hy.grow hG'; replace hl := hl.mono hG'.le; replace hl5 := hl5.mono hG'.le; replace c7h := Nat.le_trans hG.below.size (Nat.le_of_eq c7h); replace hG := hG.trans hG'; replace hS := hG'.sub; clear hG' hyl
      skip
      have hS9 := hS; have ho9 := c7.out; (refine S_op0 (W_storeM (o := 0) (vs := callCells (pick l i).x) (by rfl) (by rfl) c7 (by rfl) (OneCells.of_all (by rfl)) (by rfl) (Nat.le_of_ble_eq_true (by rfl)) ?_)); intro w hgb' hm'; replace hG := hG.grownBy hgb' (fun g h => by cases h; exact ⟨c7.out, c7h⟩); replace hS := hG.sub; replace c7 : Mut _ w c7b (callCells (pick l i).x) := hm'; clear hm'; skip; replace hy := hy.other hS9 ho9 hgb' n_c7; clear hS9 ho9 hgb'
      (refine S_nil ?_; refine CW_seq ?_; refine CW_region rfl ?_; refine S_op ?_; refine W_movePtr (by first | rfl | assumption) ?_; refine S_op ?_; refine W_loadMAggC (by first | rfl | assumption) (by assumption) (by rfl) (by rfl) ?_)
      by_cases hx : checkE (pick l i).x = 0
      · have hkind : 1 ≤ (pick l i).x.kind ∧ (pick l i).x.kind ≤ 5 := by
          unfold checkE at hx
          split at hx
          · cases hx
          · omega
        (have hyg := fun j hj => hy.ge (j := j) hj; refine S_op ?_; refine W_callW (by rfl) ((sys_call hS hy (q := 0) (by omega) hst (pick l i).x hx).mono ?_)); rintro v w ⟨H, hT', rfl, hy⟩; replace hG := Turn.grow hG hT' hyg; replace hS := hG.sub; replace hl := hl.mono hT'.le; replace hl5 := hl5.mono hT'.le; replace c7 := c7.turn hT' n_c7; clear hT' hyg
        obtain ⟨ks2, hks2, hk⟩ := setF_at (ks := ks) (q := 0) (k := { ks 0 with x := (pick l i).x, stage := 1, tries := 0 })
        rw [← hks2] at hy
        clear hks2
        (refine S_op ?_; refine W_assignInt (by first | rfl | assumption) ?_; refine S_nil ?_; refine CW_seq ?_; refine CW_seq ?_; refine CW_region rfl ?_; refine S_op ?_; refine W_moveInt (by first | rfl | assumption) ?_; refine S_op ?_; refine W_loadMAggC (by first | rfl | assumption) (by assumption) (by rfl) (by rfl) ?_)
        (refine S_op ?_; refine W_call hS (by rfl) (rCheck_c H (pick l i).x) ?_); rintro v H w hG' rfl; replace hG := hG.trans hG'; replace hS := hG'.sub; replace hl := hl.mono hG'.le; replace hl5 := hl5.mono hG'.le; replace hy := hy.grow hG'; replace c7 := c7.grow hG'; clear hG'
        rw [hx]
        (refine S_op ?_; refine W_neqF (by first | rfl | assumption) (by first | rfl | assumption) (by first | omega | rfl) ?_; refine S_nil ?_; refine CW_false (by first | rfl | assumption) ?_; refine CW_skip ?_; refine CW_seq ?_; refine CW_seq ?_; refine CW_region rfl ?_; refine S_op ?_; refine W_moveInt (by first | rfl | assumption) ?_; refine S_op ?_; refine W_neqF (by first | rfl | assumption) (by first | rfl | assumption) (by first | omega | rfl) ?_; refine S_nil ?_; refine CW_false (by first | rfl | assumption) ?_; refine CW_skip ?_; refine CW_seq ?_; refine CW_region rfl ?_; refine S_op ?_; refine W_movePtr (by first | rfl | assumption) ?_)
        (have hyg := fun j hj => hy.ge (j := j) hj; refine S_op ?_; refine W_callW (by rfl) ((root_c hS hy (by omega)).mono ?_)); rintro v w ⟨H, hT', rfl, hy⟩; replace hG := Turn.grow hG hT' hyg; replace hS := hG.sub; replace hl := hl.mono hT'.le; replace hl5 := hl5.mono hT'.le; replace c7 := c7.turn hT' n_c7; clear hT' hyg
        skip
        (refine S_op ?_; refine W_call hS (by rfl) (height_t hy.tree.at_) ?_); rintro v H w hG' rfl; replace hG := hG.trans hG'; replace hS := hG'.sub; replace hl := hl.mono hG'.le; replace hl5 := hl5.mono hG'.le; replace hy := hy.grow hG'; replace c7 := c7.grow hG'; clear hG'
        (refine S_op ?_; refine W_assignInt (by first | rfl | assumption) ?_; refine S_nil ?_; refine CW_seq ?_; refine CW_region rfl ?_; refine S_op ?_; refine W_moveSl (by first | rfl | assumption) ?_; refine S_op ?_; refine W_loadMAggC (by first | rfl | assumption) (by assumption) (by rfl) (by rfl) ?_)
        (refine S_op ?_; refine W_call hS (by rfl) (rDo_c H A5 c5 t.items (pick l i).x hl5 hc5 hy.tree.rise (by omega) hkind) ?_); rintro v H w hG' ⟨s10, rfl, hv10⟩; replace hG := hG.trans hG'; replace hS := hG'.sub; replace hl := hl.mono hG'.le; replace hl5 := hl5.mono hG'.le; replace hy := hy.grow hG'; replace c7 := c7.grow hG'; clear hG'
        obtain ⟨A10, c10, rfl, hc10, hl10⟩ := hv10
        have hdl := doesL_len t.items (pick l i).x
        (refine S_op ?_; refine W_moveTup (by first | rfl | assumption) ?_; refine S_op ?_; refine W_extract (by first | rfl | assumption) (by rfl) ?_; refine S_op ?_; refine W_extract (by first | rfl | assumption) (by rfl) ?_)
        (have hyl := fun j hj => hy.lt (j := j) hj; refine S_op (W_alloc hS ?_)); intro w c11b hG' c11h c11; have n_c11 : _ → False := fun hj => absurd (hyl c11b hj) (by omega); have n_c7_c11 : c7b ≠ c11b := (by have h1 := c7.lt; omega); replace hy := hy.grow hG'; replace hl := hl.mono hG'.le; replace hl5 := hl5.mono hG'.le; replace hl10 := hl10.mono hG'.le; replace c7 := c7.grow hG'; replace c11h := Nat.le_trans hG.below.size (Nat.le_of_eq c11h); replace hG := hG.trans hG'; replace hS := hG'.sub; clear hG' hyl
        (refine S_op ?_; refine W_assignSl (by first | rfl | assumption) ?_)
        have hS9 := hS; have ho9 := c11.out; (refine S_op0 (W_storeM (o := 0) (vs := repCells (doesR t.items (pick l i).x)) (by rfl) (by rfl) c11 (by rfl) (OneCells.of_all (by rfl)) (by rfl) (Nat.le_of_ble_eq_true (by rfl)) ?_)); intro w hgb' hm'; replace hG := hG.grownBy hgb' (fun g h => by cases h; exact ⟨c11.out, c11h⟩); replace hS := hG.sub; replace c11 : Mut _ w c11b (repCells (doesR t.items (pick l i).x)) := hm'; clear hm'; replace c7 := c7.other hgb' (by intro e2; cases e2; first | exact n_c7_c11 rfl | exact n_c11_c7 rfl); skip; replace hy := hy.other hS9 ho9 hgb' n_c11; clear hS9 ho9 hgb'
        (refine S_nil ?_; refine CW_seq ?_; refine CW_region rfl ?_; refine S_op ?_; refine W_moveInt (by first | rfl | assumption) ?_)
        refine S_op (W_add (q := ((1 + t.height : Nat) : Int)) (by rfl) (by rfl) (by rw [IntWalk.i64_in _ (by omega)]; omega) ?_)
        (refine S_op ?_; refine W_assignInt (by first | rfl | assumption) ?_; refine S_nil ?_; refine CW_seq ?_; refine CW_seq ?_; refine CW_region rfl ?_; refine S_op ?_; refine W_moveSl (by first | rfl | assumption) ?_; refine S_op ?_; refine W_moveSl (by first | rfl | assumption) ?_)
        (refine S_op ?_; refine W_call hS (by rfl) (same_c H A10 A5 c10 c5 (doesL t.items (pick l i).x) t.items hl10 hl5 (by omega)) ?_); rintro v H w hG' rfl; replace hG := hG.trans hG'; replace hS := hG'.sub; replace hl := hl.mono hG'.le; replace hl5 := hl5.mono hG'.le; replace hl10 := hl10.mono hG'.le; replace hy := hy.grow hG'; replace c11 := c11.grow hG'; clear hG'
        clear c7
        have hN : ∃ N, N = aloneN t (pick l i).x := ⟨_, rfl⟩
        obtain ⟨N, hN⟩ := hN
        have hNb : N ≤ t.height + 2 ∧ 1 + t.height ≤ N := by rw [hN]; unfold aloneN; split <;> omega
        have hal : AloneAt t (pick l i).x 1 (ks2 0) t := by rw [hk]; exact ⟨rfl, rfl, .inl ⟨rfl, rfl, rfl⟩⟩
        by_cases hch : doesL t.items (pick l i).x = t.items
        · have hN2 : N = 1 + t.height := by rw [hN]; unfold aloneN; rw [if_pos hch]; rfl
          rw [decide_eq_true hch]
          (refine S_op ?_; refine W_not (by first | rfl | assumption) ?_; refine S_nil ?_; refine CW_false (by first | rfl | assumption) ?_; refine CW_skip ?_; refine CW_seq ?_; refine CW_seq ?_; refine CW_region rfl ?_; refine S_op ?_; refine W_assignInt (by first | rfl | assumption) ?_; refine S_nil ?_; refine CW_block ?_)
          rw [← hN2]
          skip
          skip
          refine CW_loopM [2, 13, 14, 15, 16, 72, 73, 74, 75, 76, 77, 78, 79, 80, 81, 82, 83, 84, 85, 86, 87, 88, 89, 90, 91, 92, 93, 94, 95, 96, 97, 98, 99, 100, 101, 102, 103, 104]
            (fun m2 u2 w2 => ∃ (kk : Nat) (ks : Nat → Cl) (t2 : Tr) (s2 c2 : Nat) (H2 : HF), u2 13 = .int .i64 (kk : Int) ∧ Grow H0 w0 H2 w2 ∧ PicksAt H2 A l ∧ EntsAt H2 A10 (doesL t.items (pick l i).x) ∧ Sys H2 w2 w0.heap.size 1 mb g bs ks t2 s2 c2 ∧ Mut H2 w2 c11b (repCells (doesR t.items (pick l i).x)) ∧
              AloneAt t (pick l i).x kk (ks 0) t2 ∧ s2 ≤ s + 1 + kk ∧ c2 ≤ c + kk ∧ t2.items.length ≤ i + kk ∧ 1 ≤ kk ∧ kk ≤ N + 1 ∧ N + 1 - kk ≤ m2)
            (m := N) ⟨1, ks2, t, s + 1, c, H, rfl, hG, hl, hl10, hy, c11, hal, by omega, by omega, by omega, by omega, by omega, by omega⟩ ?_
          clear hy c11 hG hS hl hl10 hal hl5 hk
          rintro m2 u2 w ⟨kk, ks2, t2, s2, c2, H, h13, hG, hl, hl10, hy, c11, hal, hs2, hc2, ht2l, hk1, hkN, hm2⟩
          have hS := hG.sub
          by_cases hlk : kk ≤ N
          · have hst2 : (ks2 0).stage ≠ 0 := by
              rcases hal.st with h | h | h | h
              · omega
              · omega
              · omega
              · have := h.1; rw [← hN] at this; omega
            have hgd := hy.good 0 (by omega)
            have ht0 := hy.tree
            have htr0 := hal.tries
            (refine CW_seq ?_; refine CW_seq ?_; refine CW_region rfl ?_; refine S_op ?_; refine W_moveInt (by first | rfl | assumption) ?_; refine S_op ?_; refine W_moveInt (by first | rfl | assumption) ?_; refine S_op ?_; refine W_leqT (by first | rfl | assumption) (by first | rfl | assumption) (by first | omega | rfl) ?_; refine S_nil ?_; refine CW_true (by first | rfl | assumption) ?_; refine CW_skip ?_; refine CW_seq ?_; refine CW_block ?_; refine CW_seq ?_; refine CW_region rfl ?_; refine S_op ?_; refine W_movePtr (by first | rfl | assumption) ?_)
            (have hyg := fun j hj => hy.ge (j := j) hj; refine S_op ?_; refine W_callW (by rfl) ((sys_step hS hy (q := 0) (by omega) hst2 (by omega) (by omega) (by omega) (by omega)).mono ?_)); rintro v w ⟨H, m3, s3, hT', hs3, hmade, hy, rfl⟩; replace hG := Turn.grow hG hT' hyg; replace hS := hG.sub; replace hl := hl.mono hT'.le; replace hl10 := hl10.mono hT'.le; replace hgd := hgd.mono hT'.le; replace ht0 := ht0.mono hT'.le; replace c11 := c11.turn hT' n_c11; clear hT' hyg
            obtain ⟨hal2, hend, hrep⟩ := alone_step hgd hst2 ht0 hmade (by omega) hal
            have hlen := treeF_len hgd ht0
            rw [← hN] at hend
            obtain ⟨ks3, hks3, hk3⟩ := setF_at (ks := ks2) (q := 0) (k := (stepF (ks2 0) t2 m3).1)
            rw [← hks3] at hy
            rw [← hk3] at hal2
            obtain ⟨c3, hc3⟩ : ∃ z, z = (if swaps (ks2 0) t2 = true then c2 + 1 else c2) := ⟨_, rfl⟩
            have hcc : c3 ≤ c2 + 1 := by rw [hc3]; split <;> omega
            obtain ⟨t3, ht3⟩ : ∃ z, z = treeF (ks2 0) t2 := ⟨_, rfl⟩
            rw [← hc3, ← ht3] at hy
            rw [← ht3] at hal2 hlen
            have htT : (if (ks3 0).stage = 0 then 0 else (ks3 0).tries) = 0 := by
              split
              · rfl
              · exact hal2.tries
            obtain ⟨rr, hrr⟩ : ∃ z, z = (stepF (ks2 0) t2 m3).2.1 := ⟨_, rfl⟩
            rw [hend, ← hrr]
            rw [hend, ← hrr] at hrep
            clear hmade hgd ht0 hks3 hk3 hc3 ht3 hrr
            by_cases hkN2 : kk = N
            · have hrr2 := hrep (decide_eq_true hkN2)
              rw [decide_eq_true hkN2, hrr2]
              (refine S_op ?_; refine W_moveTup (by first | rfl | assumption) ?_; refine S_op ?_; refine W_extract (by first | rfl | assumption) (by rfl) ?_; refine S_op ?_; refine W_extract (by first | rfl | assumption) (by rfl) ?_; refine S_op ?_; refine W_extract (by first | rfl | assumption) (by rfl) ?_)
              (have hyl := fun j hj => hy.lt (j := j) hj; refine S_op (W_alloc hS ?_)); intro w c14b hG' c14h c14; have n_c14 : _ → False := fun hj => absurd (hyl c14b hj) (by omega); have n_c11_c14 : c11b ≠ c14b := (by have h1 := c11.lt; omega); replace hy := hy.grow hG'; replace hl := hl.mono hG'.le; replace hl10 := hl10.mono hG'.le; replace c11 := c11.grow hG'; replace c14h := Nat.le_trans hG.below.size (Nat.le_of_eq c14h); replace hG := hG.trans hG'; replace hS := hG'.sub; clear hG' hyl
              skip
              have hS9 := hS; have ho9 := c14.out; (refine S_op0 (W_storeM (o := 0) (vs := repCells (doesR t.items (pick l i).x)) (by rfl) (by rfl) c14 (by rfl) (OneCells.of_all (by rfl)) (by rfl) (Nat.le_of_ble_eq_true (by rfl)) ?_)); intro w hgb' hm'; replace hG := hG.grownBy hgb' (fun g h => by cases h; exact ⟨c14.out, c14h⟩); replace hS := hG.sub; replace c14 : Mut _ w c14b (repCells (doesR t.items (pick l i).x)) := hm'; clear hm'; replace c11 := c11.other hgb' (by intro e2; cases e2; first | exact n_c11_c14 rfl | exact n_c14_c11 rfl); skip; replace hy := hy.other hS9 ho9 hgb' n_c14; clear hS9 ho9 hgb'
              (refine S_op ?_; refine W_assignBool (by first | rfl | assumption) ?_; refine S_op ?_; refine W_assignInt (by first | rfl | assumption) ?_; refine S_nil ?_; refine CW_seq ?_; refine CW_region rfl ?_; refine S_op ?_; refine W_moveInt (by first | rfl | assumption) ?_; refine S_op ?_; refine W_neqF (by first | rfl | assumption) (by first | rfl | assumption) (by first | omega | rfl) ?_; refine S_op ?_; refine W_moveBool (by first | rfl | assumption) ?_; refine S_want (by rfl) ?_; refine W_moveBool (by first | rfl | assumption) ?_; refine S_want (by rfl) ?_; refine W_moveInt (by first | rfl | assumption) ?_; refine S_want (by rfl) ?_; refine W_moveInt (by first | rfl | assumption) ?_; refine S_want (by rfl) ?_; refine W_eqlT (by first | rfl | assumption) (by first | rfl | assumption) (by first | omega | rfl) ?_; refine S_want (by rfl) ?_; refine W_bneqF (by first | rfl | assumption) (by first | rfl | assumption) (by first | rfl | assumption) ?_; refine S_op ?_; refine W_pickF (by first | rfl | assumption) (by first | rfl | assumption) ?_; refine S_op ?_; refine W_moveBool (by first | rfl | assumption) ?_; refine S_want (by rfl) ?_; refine W_moveBool (by first | rfl | assumption) ?_; refine S_want (by rfl) ?_; refine W_moveBool (by first | rfl | assumption) ?_; refine S_want (by rfl) ?_; refine W_loadMAggC (by first | rfl | assumption) (by assumption) (by rfl) (by rfl) ?_; refine S_want (by rfl) ?_; refine W_loadMAggC (by first | rfl | assumption) (by assumption) (by rfl) (by rfl) ?_)
              refine S_want (by rfl) (W_repNeqB (a := doesR t.items (pick l i).x) (c := doesR t.items (pick l i).x) (q := false) (by simp) (by rfl) (by rfl) ?_)
              (refine S_want (by rfl) ?_; refine W_pickT (by first | rfl | assumption) (by first | rfl | assumption) ?_; refine S_op ?_; refine W_pickF (by first | rfl | assumption) (by first | rfl | assumption) ?_; refine S_op ?_; refine W_moveBool (by first | rfl | assumption) ?_; refine S_want (by rfl) ?_; refine W_movePtr (by first | rfl | assumption) ?_)
              refine S_want (by rfl) (W_callP (by rfl) (tries_c hS (hy.cl 0 (by omega))) ?_)
              rw [htT]
              (refine S_want (by rfl) ?_; refine W_neqF (by first | rfl | assumption) (by first | rfl | assumption) (by first | omega | rfl) ?_; refine S_op ?_; refine W_pickF (by first | rfl | assumption) (by first | rfl | assumption) ?_; refine S_nil ?_; refine CW_false (by first | rfl | assumption) ?_; refine CW_skip ?_; refine CW_region rfl ?_; refine S_op ?_; refine W_moveInt (by first | rfl | assumption) ?_; refine S_op ?_; refine W_add1 (by first | rfl | assumption) (by omega) ?_; refine S_op ?_; refine W_assignInt (by first | rfl | assumption) ?_; refine S_nil ?_)
              exact ⟨(by repeat (first | exact AgreeOff.over | refine AgreeOff.upd rfl ?_ | refine AgreeOff.over2 rfl ?_)), m2 - 1, by omega, kk + 1, ks3, t3, s3, c3, H, rfl, hG, hl, hl10, hy, c11, hal2, by omega, by omega, by omega, by omega, by omega, by omega⟩
            · rw [decide_eq_false hkN2]
              (refine S_op ?_; refine W_moveTup (by first | rfl | assumption) ?_; refine S_op ?_; refine W_extract (by first | rfl | assumption) (by rfl) ?_; refine S_op ?_; refine W_extract (by first | rfl | assumption) (by rfl) ?_; refine S_op ?_; refine W_extract (by first | rfl | assumption) (by rfl) ?_)
              (have hyl := fun j hj => hy.lt (j := j) hj; refine S_op (W_alloc hS ?_)); intro w c14b hG' c14h c14; have n_c14 : _ → False := fun hj => absurd (hyl c14b hj) (by omega); have n_c11_c14 : c11b ≠ c14b := (by have h1 := c11.lt; omega); replace hy := hy.grow hG'; replace hl := hl.mono hG'.le; replace hl10 := hl10.mono hG'.le; replace c11 := c11.grow hG'; replace c14h := Nat.le_trans hG.below.size (Nat.le_of_eq c14h); replace hG := hG.trans hG'; replace hS := hG'.sub; clear hG' hyl
              skip
              have hS9 := hS; have ho9 := c14.out; (refine S_op0 (W_storeM (o := 0) (vs := repCells rr) (by rfl) (by rfl) c14 (by rfl) (OneCells.of_all (by rfl)) (by rfl) (Nat.le_of_ble_eq_true (by rfl)) ?_)); intro w hgb' hm'; replace hG := hG.grownBy hgb' (fun g h => by cases h; exact ⟨c14.out, c14h⟩); replace hS := hG.sub; replace c14 : Mut _ w c14b (repCells rr) := hm'; clear hm'; replace c11 := c11.other hgb' (by intro e2; cases e2; first | exact n_c11_c14 rfl | exact n_c14_c11 rfl); skip; replace hy := hy.other hS9 ho9 hgb' n_c14; clear hS9 ho9 hgb'
              (refine S_op ?_; refine W_assignBool (by first | rfl | assumption) ?_; refine S_op ?_; refine W_assignInt (by first | rfl | assumption) ?_; refine S_nil ?_; refine CW_seq ?_; refine CW_region rfl ?_; refine S_op ?_; refine W_moveInt (by first | rfl | assumption) ?_; refine S_op ?_; refine W_neqF (by first | rfl | assumption) (by first | rfl | assumption) (by first | omega | rfl) ?_; refine S_op ?_; refine W_moveBool (by first | rfl | assumption) ?_; refine S_want (by rfl) ?_; refine W_moveBool (by first | rfl | assumption) ?_; refine S_want (by rfl) ?_; refine W_moveInt (by first | rfl | assumption) ?_; refine S_want (by rfl) ?_; refine W_moveInt (by first | rfl | assumption) ?_; refine S_want (by rfl) ?_; refine W_eqlF (by first | rfl | assumption) (by first | rfl | assumption) (by first | omega | rfl) ?_; refine S_want (by rfl) ?_; refine W_bneqF (by first | rfl | assumption) (by first | rfl | assumption) (by first | rfl | assumption) ?_; refine S_op ?_; refine W_pickF (by first | rfl | assumption) (by first | rfl | assumption) ?_; refine S_op ?_; refine W_moveBool (by first | rfl | assumption) ?_; refine S_want (by rfl) ?_; refine W_moveBool (by first | rfl | assumption) ?_; refine S_want (by rfl) ?_; refine W_moveBool (by first | rfl | assumption) ?_; refine S_pass (by rfl) ?_; refine S_pass (by rfl) ?_; refine S_pass (by rfl) ?_; refine S_want (by rfl) ?_; refine W_pickF (by first | rfl | assumption) (by first | rfl | assumption) ?_; refine S_op ?_; refine W_pickF (by first | rfl | assumption) (by first | rfl | assumption) ?_; refine S_op ?_; refine W_moveBool (by first | rfl | assumption) ?_; refine S_want (by rfl) ?_; refine W_movePtr (by first | rfl | assumption) ?_)
              refine S_want (by rfl) (W_callP (by rfl) (tries_c hS (hy.cl 0 (by omega))) ?_)
              rw [htT]
              (refine S_want (by rfl) ?_; refine W_neqF (by first | rfl | assumption) (by first | rfl | assumption) (by first | omega | rfl) ?_; refine S_op ?_; refine W_pickF (by first | rfl | assumption) (by first | rfl | assumption) ?_; refine S_nil ?_; refine CW_false (by first | rfl | assumption) ?_; refine CW_skip ?_; refine CW_region rfl ?_; refine S_op ?_; refine W_moveInt (by first | rfl | assumption) ?_; refine S_op ?_; refine W_add1 (by first | rfl | assumption) (by omega) ?_; refine S_op ?_; refine W_assignInt (by first | rfl | assumption) ?_; refine S_nil ?_)
              exact ⟨(by repeat (first | exact AgreeOff.over | refine AgreeOff.upd rfl ?_ | refine AgreeOff.over2 rfl ?_)), m2 - 1, by omega, kk + 1, ks3, t3, s3, c3, H, rfl, hG, hl, hl10, hy, c11, hal2, by omega, by omega, by omega, by omega, by omega, by omega⟩
          · obtain ⟨hst2, hit2⟩ : (ks2 0).stage = 0 ∧ t2.items = doesL t.items (pick l i).x := by
              rcases hal.st with h | h | h | h
              · omega
              · have := hy.good 0 (by omega)
                have := this.left h.1
                omega
              · have h9 := (hy.good 0 (by omega)).swap h.2.1
                have h10 := (hy.good 0 (by omega)).made (by omega)
                exfalso
                have h11 : doesL t.items (pick l i).x ≠ t.items := fun e => h9 (h10.2.1.same (by rw [h.2.2.1, hal.cx]; exact e))
                have : N = t.height + 2 := by rw [hN]; unfold aloneN; rw [if_neg h11]; omega
                omega
              · exact h.2
            (refine CW_seq ?_; refine CW_seq ?_; refine CW_region rfl ?_; refine S_op ?_; refine W_moveInt (by first | rfl | assumption) ?_; refine S_op ?_; refine W_moveInt (by first | rfl | assumption) ?_; refine S_op ?_; refine W_leqF (by first | rfl | assumption) (by first | rfl | assumption) (by first | omega | rfl) ?_; refine S_nil ?_; refine CW_false (by first | rfl | assumption) ?_; refine CW_exit ?_; refine CW_seq ?_; refine CW_seq ?_; refine CW_region rfl ?_; refine S_op ?_; refine W_movePtr (by first | rfl | assumption) ?_)
            (have hyg := fun j hj => hy.ge (j := j) hj; refine S_op ?_; refine W_callW (by rfl) ((root_c hS hy (by omega)).mono ?_)); rintro v w ⟨H, hT', rfl, hy⟩; replace hG := Turn.grow hG hT' hyg; replace hS := hG.sub; replace hl := hl.mono hT'.le; replace hl10 := hl10.mono hT'.le; clear hT' hyg
            skip
            (refine S_op ?_; refine W_call hS (by rfl) (items_t hy.tree.at_ (by omega)) ?_); rintro v H w hG' ⟨A9, c9, rfl, hc9, hl9⟩; replace hG := hG.trans hG'; replace hS := hG'.sub; replace hl := hl.mono hG'.le; replace hl10 := hl10.mono hG'.le; replace hy := hy.grow hG'; clear hG'
            (refine S_op ?_; refine W_moveSl (by first | rfl | assumption) ?_)
            (refine S_op ?_; refine W_call hS (by rfl) (same_c H A9 A10 c9 c10 t2.items (doesL t.items (pick l i).x) hl9 hl10 (by omega)) ?_); rintro v H w hG' rfl; replace hG := hG.trans hG'; replace hS := hG'.sub; replace hl := hl.mono hG'.le; replace hl10 := hl10.mono hG'.le; replace hy := hy.grow hG'; clear hG'
            rw [decide_eq_true hit2]
            have hl2 : t2.items.length = (doesL t.items (pick l i).x).length := by rw [hit2]
            (refine S_op ?_; refine W_not (by first | rfl | assumption) ?_; refine S_nil ?_; refine CW_false (by first | rfl | assumption) ?_; refine CW_skip ?_; refine CW_region rfl ?_; refine S_op ?_; refine W_moveSl (by first | rfl | assumption) ?_; refine S_op ?_; refine W_assignSl (by first | rfl | assumption) ?_; refine S_nil ?_; refine CW_region rfl ?_; refine S_op ?_; refine W_add1 (by first | rfl | assumption) (by omega) ?_; refine S_op ?_; refine W_moveInt (by first | rfl | assumption) ?_; refine S_nil ?_)
            exact ⟨(by repeat (first | exact AgreeOff.over | refine AgreeOff.upd rfl ?_ | refine AgreeOff.over2 rfl ?_)), m - 1, by omega, i + 1, ks2, t2, s2 + 1, c2, A10, c10, H, rfl, by rw [hit2]; rfl, hG, hl, by rw [hit2]; exact hl10, by rw [hit2]; exact hc10, hy, hst2, by omega, by omega, by omega, by omega, by omega⟩
        · have hN2 : N = 1 + t.height + 1 := by rw [hN]; unfold aloneN; rw [if_neg hch]
          rw [decide_eq_false hch]
          (refine S_op ?_; refine W_not (by first | rfl | assumption) ?_; refine S_nil ?_; refine CW_true (by first | rfl | assumption) ?_; refine CW_region rfl ?_; refine S_op ?_; refine W_moveInt (by first | rfl | assumption) ?_; refine S_op ?_; refine W_add1 (by first | rfl | assumption) (by omega) ?_; refine S_op ?_; refine W_assignInt (by first | rfl | assumption) ?_; refine S_nil ?_; refine CW_seq ?_; refine CW_seq ?_; refine CW_region rfl ?_; refine S_op ?_; refine W_assignInt (by first | rfl | assumption) ?_; refine S_nil ?_; refine CW_block ?_)
          rw [← hN2]
          skip
          skip
          refine CW_loopM [2, 13, 14, 15, 16, 72, 73, 74, 75, 76, 77, 78, 79, 80, 81, 82, 83, 84, 85, 86, 87, 88, 89, 90, 91, 92, 93, 94, 95, 96, 97, 98, 99, 100, 101, 102, 103, 104]
            (fun m2 u2 w2 => ∃ (kk : Nat) (ks : Nat → Cl) (t2 : Tr) (s2 c2 : Nat) (H2 : HF), u2 13 = .int .i64 (kk : Int) ∧ Grow H0 w0 H2 w2 ∧ PicksAt H2 A l ∧ EntsAt H2 A10 (doesL t.items (pick l i).x) ∧ Sys H2 w2 w0.heap.size 1 mb g bs ks t2 s2 c2 ∧ Mut H2 w2 c11b (repCells (doesR t.items (pick l i).x)) ∧
              AloneAt t (pick l i).x kk (ks 0) t2 ∧ s2 ≤ s + 1 + kk ∧ c2 ≤ c + kk ∧ t2.items.length ≤ i + kk ∧ 1 ≤ kk ∧ kk ≤ N + 1 ∧ N + 1 - kk ≤ m2)
            (m := N) ⟨1, ks2, t, s + 1, c, H, rfl, hG, hl, hl10, hy, c11, hal, by omega, by omega, by omega, by omega, by omega, by omega⟩ ?_
          clear hy c11 hG hS hl hl10 hal hl5 hk
          rintro m2 u2 w ⟨kk, ks2, t2, s2, c2, H, h13, hG, hl, hl10, hy, c11, hal, hs2, hc2, ht2l, hk1, hkN, hm2⟩
          have hS := hG.sub
          by_cases hlk : kk ≤ N
          · have hst2 : (ks2 0).stage ≠ 0 := by
              rcases hal.st with h | h | h | h
              · omega
              · omega
              · omega
              · have := h.1; rw [← hN] at this; omega
            have hgd := hy.good 0 (by omega)
            have ht0 := hy.tree
            have htr0 := hal.tries
            (refine CW_seq ?_; refine CW_seq ?_; refine CW_region rfl ?_; refine S_op ?_; refine W_moveInt (by first | rfl | assumption) ?_; refine S_op ?_; refine W_moveInt (by first | rfl | assumption) ?_; refine S_op ?_; refine W_leqT (by first | rfl | assumption) (by first | rfl | assumption) (by first | omega | rfl) ?_; refine S_nil ?_; refine CW_true (by first | rfl | assumption) ?_; refine CW_skip ?_; refine CW_seq ?_; refine CW_block ?_; refine CW_seq ?_; refine CW_region rfl ?_; refine S_op ?_; refine W_movePtr (by first | rfl | assumption) ?_)
            (have hyg := fun j hj => hy.ge (j := j) hj; refine S_op ?_; refine W_callW (by rfl) ((sys_step hS hy (q := 0) (by omega) hst2 (by omega) (by omega) (by omega) (by omega)).mono ?_)); rintro v w ⟨H, m3, s3, hT', hs3, hmade, hy, rfl⟩; replace hG := Turn.grow hG hT' hyg; replace hS := hG.sub; replace hl := hl.mono hT'.le; replace hl10 := hl10.mono hT'.le; replace hgd := hgd.mono hT'.le; replace ht0 := ht0.mono hT'.le; replace c11 := c11.turn hT' n_c11; clear hT' hyg
            obtain ⟨hal2, hend, hrep⟩ := alone_step hgd hst2 ht0 hmade (by omega) hal
            have hlen := treeF_len hgd ht0
            rw [← hN] at hend
            obtain ⟨ks3, hks3, hk3⟩ := setF_at (ks := ks2) (q := 0) (k := (stepF (ks2 0) t2 m3).1)
            rw [← hks3] at hy
            rw [← hk3] at hal2
            obtain ⟨c3, hc3⟩ : ∃ z, z = (if swaps (ks2 0) t2 = true then c2 + 1 else c2) := ⟨_, rfl⟩
            have hcc : c3 ≤ c2 + 1 := by rw [hc3]; split <;> omega
            obtain ⟨t3, ht3⟩ : ∃ z, z = treeF (ks2 0) t2 := ⟨_, rfl⟩
            rw [← hc3, ← ht3] at hy
            rw [← ht3] at hal2 hlen
            have htT : (if (ks3 0).stage = 0 then 0 else (ks3 0).tries) = 0 := by
              split
              · rfl
              · exact hal2.tries
            obtain ⟨rr, hrr⟩ : ∃ z, z = (stepF (ks2 0) t2 m3).2.1 := ⟨_, rfl⟩
            rw [hend, ← hrr]
            rw [hend, ← hrr] at hrep
            clear hmade hgd ht0 hks3 hk3 hc3 ht3 hrr
            by_cases hkN2 : kk = N
            · have hrr2 := hrep (decide_eq_true hkN2)
              rw [decide_eq_true hkN2, hrr2]
              (refine S_op ?_; refine W_moveTup (by first | rfl | assumption) ?_; refine S_op ?_; refine W_extract (by first | rfl | assumption) (by rfl) ?_; refine S_op ?_; refine W_extract (by first | rfl | assumption) (by rfl) ?_; refine S_op ?_; refine W_extract (by first | rfl | assumption) (by rfl) ?_)
              (have hyl := fun j hj => hy.lt (j := j) hj; refine S_op (W_alloc hS ?_)); intro w c14b hG' c14h c14; have n_c14 : _ → False := fun hj => absurd (hyl c14b hj) (by omega); have n_c11_c14 : c11b ≠ c14b := (by have h1 := c11.lt; omega); replace hy := hy.grow hG'; replace hl := hl.mono hG'.le; replace hl10 := hl10.mono hG'.le; replace c11 := c11.grow hG'; replace c14h := Nat.le_trans hG.below.size (Nat.le_of_eq c14h); replace hG := hG.trans hG'; replace hS := hG'.sub; clear hG' hyl
              skip
              have hS9 := hS; have ho9 := c14.out; (refine S_op0 (W_storeM (o := 0) (vs := repCells (doesR t.items (pick l i).x)) (by rfl) (by rfl) c14 (by rfl) (OneCells.of_all (by rfl)) (by rfl) (Nat.le_of_ble_eq_true (by rfl)) ?_)); intro w hgb' hm'; replace hG := hG.grownBy hgb' (fun g h => by cases h; exact ⟨c14.out, c14h⟩); replace hS := hG.sub; replace c14 : Mut _ w c14b (repCells (doesR t.items (pick l i).x)) := hm'; clear hm'; replace c11 := c11.other hgb' (by intro e2; cases e2; first | exact n_c11_c14 rfl | exact n_c14_c11 rfl); skip; replace hy := hy.other hS9 ho9 hgb' n_c14; clear hS9 ho9 hgb'
              (refine S_op ?_; refine W_assignBool (by first | rfl | assumption) ?_; refine S_op ?_; refine W_assignInt (by first | rfl | assumption) ?_; refine S_nil ?_; refine CW_seq ?_; refine CW_region rfl ?_; refine S_op ?_; refine W_moveInt (by first | rfl | assumption) ?_; refine S_op ?_; refine W_neqF (by first | rfl | assumption) (by first | rfl | assumption) (by first | omega | rfl) ?_; refine S_op ?_; refine W_moveBool (by first | rfl | assumption) ?_; refine S_want (by rfl) ?_; refine W_moveBool (by first | rfl | assumption) ?_; refine S_want (by rfl) ?_; refine W_moveInt (by first | rfl | assumption) ?_; refine S_want (by rfl) ?_; refine W_moveInt (by first | rfl | assumption) ?_; refine S_want (by rfl) ?_; refine W_eqlT (by first | rfl | assumption) (by first | rfl | assumption) (by first | omega | rfl) ?_; refine S_want (by rfl) ?_; refine W_bneqF (by first | rfl | assumption) (by first | rfl | assumption) (by first | rfl | assumption) ?_; refine S_op ?_; refine W_pickF (by first | rfl | assumption) (by first | rfl | assumption) ?_; refine S_op ?_; refine W_moveBool (by first | rfl | assumption) ?_; refine S_want (by rfl) ?_; refine W_moveBool (by first | rfl | assumption) ?_; refine S_want (by rfl) ?_; refine W_moveBool (by first | rfl | assumption) ?_; refine S_want (by rfl) ?_; refine W_loadMAggC (by first | rfl | assumption) (by assumption) (by rfl) (by rfl) ?_; refine S_want (by rfl) ?_; refine W_loadMAggC (by first | rfl | assumption) (by assumption) (by rfl) (by rfl) ?_)
              refine S_want (by rfl) (W_repNeqB (a := doesR t.items (pick l i).x) (c := doesR t.items (pick l i).x) (q := false) (by simp) (by rfl) (by rfl) ?_)
              (refine S_want (by rfl) ?_; refine W_pickT (by first | rfl | assumption) (by first | rfl | assumption) ?_; refine S_op ?_; refine W_pickF (by first | rfl | assumption) (by first | rfl | assumption) ?_; refine S_op ?_; refine W_moveBool (by first | rfl | assumption) ?_; refine S_want (by rfl) ?_; refine W_movePtr (by first | rfl | assumption) ?_)
              refine S_want (by rfl) (W_callP (by rfl) (tries_c hS (hy.cl 0 (by omega))) ?_)
              rw [htT]
              (refine S_want (by rfl) ?_; refine W_neqF (by first | rfl | assumption) (by first | rfl | assumption) (by first | omega | rfl) ?_; refine S_op ?_; refine W_pickF (by first | rfl | assumption) (by first | rfl | assumption) ?_; refine S_nil ?_; refine CW_false (by first | rfl | assumption) ?_; refine CW_skip ?_; refine CW_region rfl ?_; refine S_op ?_; refine W_moveInt (by first | rfl | assumption) ?_; refine S_op ?_; refine W_add1 (by first | rfl | assumption) (by omega) ?_; refine S_op ?_; refine W_assignInt (by first | rfl | assumption) ?_; refine S_nil ?_)
              exact ⟨(by repeat (first | exact AgreeOff.over | refine AgreeOff.upd rfl ?_ | refine AgreeOff.over2 rfl ?_)), m2 - 1, by omega, kk + 1, ks3, t3, s3, c3, H, rfl, hG, hl, hl10, hy, c11, hal2, by omega, by omega, by omega, by omega, by omega, by omega⟩
            · rw [decide_eq_false hkN2]
              (refine S_op ?_; refine W_moveTup (by first | rfl | assumption) ?_; refine S_op ?_; refine W_extract (by first | rfl | assumption) (by rfl) ?_; refine S_op ?_; refine W_extract (by first | rfl | assumption) (by rfl) ?_; refine S_op ?_; refine W_extract (by first | rfl | assumption) (by rfl) ?_)
              (have hyl := fun j hj => hy.lt (j := j) hj; refine S_op (W_alloc hS ?_)); intro w c14b hG' c14h c14; have n_c14 : _ → False := fun hj => absurd (hyl c14b hj) (by omega); have n_c11_c14 : c11b ≠ c14b := (by have h1 := c11.lt; omega); replace hy := hy.grow hG'; replace hl := hl.mono hG'.le; replace hl10 := hl10.mono hG'.le; replace c11 := c11.grow hG'; replace c14h := Nat.le_trans hG.below.size (Nat.le_of_eq c14h); replace hG := hG.trans hG'; replace hS := hG'.sub; clear hG' hyl
              skip
              have hS9 := hS; have ho9 := c14.out; (refine S_op0 (W_storeM (o := 0) (vs := repCells rr) (by rfl) (by rfl) c14 (by rfl) (OneCells.of_all (by rfl)) (by rfl) (Nat.le_of_ble_eq_true (by rfl)) ?_)); intro w hgb' hm'; replace hG := hG.grownBy hgb' (fun g h => by cases h; exact ⟨c14.out, c14h⟩); replace hS := hG.sub; replace c14 : Mut _ w c14b (repCells rr) := hm'; clear hm'; replace c11 := c11.other hgb' (by intro e2; cases e2; first | exact n_c11_c14 rfl | exact n_c14_c11 rfl); skip; replace hy := hy.other hS9 ho9 hgb' n_c14; clear hS9 ho9 hgb'
              (refine S_op ?_; refine W_assignBool (by first | rfl | assumption) ?_; refine S_op ?_; refine W_assignInt (by first | rfl | assumption) ?_; refine S_nil ?_; refine CW_seq ?_; refine CW_region rfl ?_; refine S_op ?_; refine W_moveInt (by first | rfl | assumption) ?_; refine S_op ?_; refine W_neqF (by first | rfl | assumption) (by first | rfl | assumption) (by first | omega | rfl) ?_; refine S_op ?_; refine W_moveBool (by first | rfl | assumption) ?_; refine S_want (by rfl) ?_; refine W_moveBool (by first | rfl | assumption) ?_; refine S_want (by rfl) ?_; refine W_moveInt (by first | rfl | assumption) ?_; refine S_want (by rfl) ?_; refine W_moveInt (by first | rfl | assumption) ?_; refine S_want (by rfl) ?_; refine W_eqlF (by first | rfl | assumption) (by first | rfl | assumption) (by first | omega | rfl) ?_; refine S_want (by rfl) ?_; refine W_bneqF (by first | rfl | assumption) (by first | rfl | assumption) (by first | rfl | assumption) ?_; refine S_op ?_; refine W_pickF (by first | rfl | assumption) (by first | rfl | assumption) ?_; refine S_op ?_; refine W_moveBool (by first | rfl | assumption) ?_; refine S_want (by rfl) ?_; refine W_moveBool (by first | rfl | assumption) ?_; refine S_want (by rfl) ?_; refine W_moveBool (by first | rfl | assumption) ?_; refine S_pass (by rfl) ?_; refine S_pass (by rfl) ?_; refine S_pass (by rfl) ?_; refine S_want (by rfl) ?_; refine W_pickF (by first | rfl | assumption) (by first | rfl | assumption) ?_; refine S_op ?_; refine W_pickF (by first | rfl | assumption) (by first | rfl | assumption) ?_; refine S_op ?_; refine W_moveBool (by first | rfl | assumption) ?_; refine S_want (by rfl) ?_; refine W_movePtr (by first | rfl | assumption) ?_)
              refine S_want (by rfl) (W_callP (by rfl) (tries_c hS (hy.cl 0 (by omega))) ?_)
              rw [htT]
              (refine S_want (by rfl) ?_; refine W_neqF (by first | rfl | assumption) (by first | rfl | assumption) (by first | omega | rfl) ?_; refine S_op ?_; refine W_pickF (by first | rfl | assumption) (by first | rfl | assumption) ?_; refine S_nil ?_; refine CW_false (by first | rfl | assumption) ?_; refine CW_skip ?_; refine CW_region rfl ?_; refine S_op ?_; refine W_moveInt (by first | rfl | assumption) ?_; refine S_op ?_; refine W_add1 (by first | rfl | assumption) (by omega) ?_; refine S_op ?_; refine W_assignInt (by first | rfl | assumption) ?_; refine S_nil ?_)
              exact ⟨(by repeat (first | exact AgreeOff.over | refine AgreeOff.upd rfl ?_ | refine AgreeOff.over2 rfl ?_)), m2 - 1, by omega, kk + 1, ks3, t3, s3, c3, H, rfl, hG, hl, hl10, hy, c11, hal2, by omega, by omega, by omega, by omega, by omega, by omega⟩
          · obtain ⟨hst2, hit2⟩ : (ks2 0).stage = 0 ∧ t2.items = doesL t.items (pick l i).x := by
              rcases hal.st with h | h | h | h
              · omega
              · have := hy.good 0 (by omega)
                have := this.left h.1
                omega
              · have h9 := (hy.good 0 (by omega)).swap h.2.1
                have h10 := (hy.good 0 (by omega)).made (by omega)
                exfalso
                have h11 : doesL t.items (pick l i).x ≠ t.items := fun e => h9 (h10.2.1.same (by rw [h.2.2.1, hal.cx]; exact e))
                have : N = t.height + 2 := by rw [hN]; unfold aloneN; rw [if_neg h11]; omega
                omega
              · exact h.2
            (refine CW_seq ?_; refine CW_seq ?_; refine CW_region rfl ?_; refine S_op ?_; refine W_moveInt (by first | rfl | assumption) ?_; refine S_op ?_; refine W_moveInt (by first | rfl | assumption) ?_; refine S_op ?_; refine W_leqF (by first | rfl | assumption) (by first | rfl | assumption) (by first | omega | rfl) ?_; refine S_nil ?_; refine CW_false (by first | rfl | assumption) ?_; refine CW_exit ?_; refine CW_seq ?_; refine CW_seq ?_; refine CW_region rfl ?_; refine S_op ?_; refine W_movePtr (by first | rfl | assumption) ?_)
            (have hyg := fun j hj => hy.ge (j := j) hj; refine S_op ?_; refine W_callW (by rfl) ((root_c hS hy (by omega)).mono ?_)); rintro v w ⟨H, hT', rfl, hy⟩; replace hG := Turn.grow hG hT' hyg; replace hS := hG.sub; replace hl := hl.mono hT'.le; replace hl10 := hl10.mono hT'.le; clear hT' hyg
            skip
            (refine S_op ?_; refine W_call hS (by rfl) (items_t hy.tree.at_ (by omega)) ?_); rintro v H w hG' ⟨A9, c9, rfl, hc9, hl9⟩; replace hG := hG.trans hG'; replace hS := hG'.sub; replace hl := hl.mono hG'.le; replace hl10 := hl10.mono hG'.le; replace hy := hy.grow hG'; clear hG'
            (refine S_op ?_; refine W_moveSl (by first | rfl | assumption) ?_)
            (refine S_op ?_; refine W_call hS (by rfl) (same_c H A9 A10 c9 c10 t2.items (doesL t.items (pick l i).x) hl9 hl10 (by omega)) ?_); rintro v H w hG' rfl; replace hG := hG.trans hG'; replace hS := hG'.sub; replace hl := hl.mono hG'.le; replace hl10 := hl10.mono hG'.le; replace hy := hy.grow hG'; clear hG'
            rw [decide_eq_true hit2]
            have hl2 : t2.items.length = (doesL t.items (pick l i).x).length := by rw [hit2]
            (refine S_op ?_; refine W_not (by first | rfl | assumption) ?_; refine S_nil ?_; refine CW_false (by first | rfl | assumption) ?_; refine CW_skip ?_; refine CW_region rfl ?_; refine S_op ?_; refine W_moveSl (by first | rfl | assumption) ?_; refine S_op ?_; refine W_assignSl (by first | rfl | assumption) ?_; refine S_nil ?_; refine CW_region rfl ?_; refine S_op ?_; refine W_add1 (by first | rfl | assumption) (by omega) ?_; refine S_op ?_; refine W_moveInt (by first | rfl | assumption) ?_; refine S_nil ?_)
            exact ⟨(by repeat (first | exact AgreeOff.over | refine AgreeOff.upd rfl ?_ | refine AgreeOff.over2 rfl ?_)), m - 1, by omega, i + 1, ks2, t2, s2 + 1, c2, A10, c10, H, rfl, by rw [hit2]; rfl, hG, hl, by rw [hit2]; exact hl10, by rw [hit2]; exact hc10, hy, hst2, by omega, by omega, by omega, by omega, by omega⟩
      · have hx' : ((checkE (pick l i).x : Nat) : Int) ≠ 0 := by omega
        (refine S_op ?_; refine W_callW (by rfl) ((call_no (pick l i).x hS hst hx (hy.cl 0 (by omega))).mono ?_)); rintro v w ⟨H, hG', rfl⟩; replace hl := hl.mono hG'.le; replace hl5 := hl5.mono hG'.le; replace hy := hy.grow hG'; replace c7 := c7.grow hG'; replace hG := hG.trans hG'; replace hS := hG'.sub; clear hG'
        (refine S_op ?_; refine W_assignInt (by first | rfl | assumption) ?_; refine S_nil ?_; refine CW_seq ?_; refine CW_seq ?_; refine CW_region rfl ?_; refine S_op ?_; refine W_moveInt (by first | rfl | assumption) ?_; refine S_op ?_; refine W_loadMAggC (by first | rfl | assumption) (by assumption) (by rfl) (by rfl) ?_)
        (refine S_op ?_; refine W_call hS (by rfl) (rCheck_c H (pick l i).x) ?_); rintro v H w hG' rfl; replace hG := hG.trans hG'; replace hS := hG'.sub; replace hl := hl.mono hG'.le; replace hl5 := hl5.mono hG'.le; replace hy := hy.grow hG'; clear hG'
        (refine S_op ?_; refine W_neqF (by first | rfl | assumption) (by first | rfl | assumption) (by first | omega | rfl) ?_; refine S_nil ?_; refine CW_false (by first | rfl | assumption) ?_; refine CW_skip ?_; refine CW_seq ?_; refine CW_seq ?_; refine CW_region rfl ?_; refine S_op ?_; refine W_moveInt (by first | rfl | assumption) ?_; refine S_op ?_; refine W_neqT (by first | rfl | assumption) (by first | rfl | assumption) (by first | omega | rfl) ?_; refine S_nil ?_; refine CW_true (by first | rfl | assumption) ?_; refine CW_exit ?_; refine CW_region rfl ?_; refine S_op ?_; refine W_add1 (by first | rfl | assumption) (by omega) ?_; refine S_op ?_; refine W_moveInt (by first | rfl | assumption) ?_; refine S_nil ?_)
        exact ⟨(by repeat (first | exact AgreeOff.over | refine AgreeOff.upd rfl ?_ | refine AgreeOff.over2 rfl ?_)), m - 1, by omega, i + 1, ks, t, s, c, A5, c5, H, rfl, h5, hG, hl, hl5, hc5, hy, hst, by omega, by omega, by omega, by omega, by omega⟩
    · have hin : i = l.length := by omega
      subst hin
      (refine CW_seq ?_; refine CW_region rfl ?_; refine S_op ?_; refine W_lssF (by first | rfl | assumption) (by first | rfl | assumption) (by first | omega | rfl) ?_; refine S_nil ?_; refine CW_seq ?_; refine CW_false (by first | rfl | assumption) ?_; refine CW_exit ?_; refine CW_seq ?_; refine CW_region rfl ?_; refine S_op ?_; refine W_movePtr (by first | rfl | assumption) ?_)
      (refine S_op ?_; refine W_callW (by rfl) ((step_idle hS hst (hy.cl 0 (by omega))).mono ?_)); rintro v w ⟨H, hG', rfl⟩; replace hl := hl.mono hG'.le; replace hy := hy.grow hG'; replace hG := hG.trans hG'; replace hS := hG'.sub; clear hG'
      (refine S_op ?_; refine W_moveTup (by first | rfl | assumption) ?_; refine S_op ?_; refine W_extract (by first | rfl | assumption) (by rfl) ?_; refine S_op ?_; refine W_extract (by first | rfl | assumption) (by rfl) ?_; refine S_op ?_; refine W_extract (by first | rfl | assumption) (by rfl) ?_)
      (have hyl := fun j hj => hy.lt (j := j) hj; refine S_op (W_alloc hS ?_)); intro w c17b hG' c17h c17; have n_c17 : _ → False := fun hj => absurd (hyl c17b hj) (by omega); replace hy := hy.grow hG'; replace hl := hl.mono hG'.le; replace c17h := Nat.le_trans hG.below.size (Nat.le_of_eq c17h); replace hG := hG.trans hG'; replace hS := hG'.sub; clear hG' hyl
      skip
      have hS9 := hS; have ho9 := c17.out; (refine S_op0 (W_storeM (o := 0) (vs := repCells rep0) (by rfl) (by rfl) c17 (by rfl) (OneCells.of_all (by rfl)) (by rfl) (Nat.le_of_ble_eq_true (by rfl)) ?_)); intro w hgb' hm'; replace hG := hG.grownBy hgb' (fun g h => by cases h; exact ⟨c17.out, c17h⟩); replace hS := hG.sub; replace c17 : Mut _ w c17b (repCells rep0) := hm'; clear hm'; skip; replace hy := hy.other hS9 ho9 hgb' n_c17; clear hS9 ho9 hgb'
      (refine S_op ?_; refine W_assignBool (by first | rfl | assumption) ?_; refine S_op ?_; refine W_assignInt (by first | rfl | assumption) ?_; refine S_nil ?_; refine CW_seq ?_; refine CW_region rfl ?_; refine S_op ?_; refine W_moveBool (by first | rfl | assumption) ?_; refine S_op ?_; refine W_not (by first | rfl | assumption) ?_; refine S_op ?_; refine W_moveBool (by first | rfl | assumption) ?_; refine S_want (by rfl) ?_; refine W_moveInt (by first | rfl | assumption) ?_; refine S_want (by rfl) ?_; refine W_eqlT (by first | rfl | assumption) (by first | rfl | assumption) (by first | omega | rfl) ?_; refine S_op ?_; refine W_pickT (by first | rfl | assumption) (by first | rfl | assumption) ?_; refine S_op ?_; refine W_moveBool (by first | rfl | assumption) ?_; refine S_want (by rfl) ?_; refine W_movePtr (by first | rfl | assumption) ?_)
      refine S_want (by rfl) ?_
      refine W_callW (by rfl) ((pending_c hS (hy.cl 0 (by omega))).mono ?_)
      rintro v w2 ⟨rfl, rfl⟩
      rw [show decide ((ks 0).stage ≠ 0) = false by simp [hst]]
      (refine S_want (by rfl) ?_; refine W_not (by first | rfl | assumption) ?_; refine S_op ?_; refine W_pickT (by first | rfl | assumption) (by first | rfl | assumption) ?_; refine S_op ?_; refine W_assignBool (by first | rfl | assumption) ?_; refine S_nil ?_; refine CW_ret ?_)
      exact ⟨_, ResW_one (v := .bool _) rfl, H, hG, rfl⟩
end Go.Proofs.Ytglhnfficliaoaa
