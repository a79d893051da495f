/- ClientArgs and ClientNil, walked. Conditions: sizes. -/
import Derived.Test.YtglhnfficliaoaaCli5
import Derived.Test.YtglhnfficliaoaaHist1
namespace Go.Proofs.Ytglhnfficliaoaa
open Go.Proofs Go.RowKit
set_option linter.unusedVariables false
attribute [local irreducible] CW CWD SeqW OpW
set_option maxHeartbeats 4000000
/- mk: a memory and one client -/
theorem clientArgs_c (H0 : HF) (x y : Call) (hx1 : x.key.size ≤ 150000000000000 ∧ x.val.size ≤ 150000000000000) (hy1 : y.key.size ≤ 150000000000000 ∧ y.val.size ≤ 150000000000000) :
    Fn Try.prog 8 [.agg (callCells x).toArray, .agg (callCells y).toArray] H0 fun v _ => v = .bool true := by
  refine Fn_of_CW Try.func8 rfl Try.ntmps8 Try.results8 rfl fun w0 hS => ?_; have hG := Grow.refl hS
  (refine CW_seq ?_; refine CW_region rfl ?_)
  (refine S_op (W_boxAgg hS (by rfl) ?_)); intro H w _ hG' bx; replace hG := hG.trans hG'; replace hS := hG'.sub; clear hG'
  skip
  (refine S_op (W_boxAgg hS (by rfl) ?_)); intro H w _ hG' bz; replace hG := hG.trans hG'; replace hS := hG'.sub; replace bx := hG'.le _ _ bx; clear hG'
  (refine S_op ?_; refine W_assignBool (by first | rfl | assumption) ?_; refine S_nil ?_; refine CW_seq ?_; refine CW_seq ?_; refine CW_region rfl ?_)
  (refine S_op ?_; refine W_call hS (by rfl) (awake16_c _) ?_); rintro v H w hG' rfl; replace hG := hG.trans hG'; replace hS := hG'.sub; replace bx := hG'.le _ _ bx; replace bz := hG'.le _ _ bz; clear hG'
  by_cases hbig : 4000 < x.key.size + x.val.size + y.key.size + y.val.size
  · (refine S_op ?_; refine W_not (by first | rfl | assumption) ?_; refine S_op ?_; refine W_moveBool (by first | rfl | assumption) ?_; refine S_want (by rfl) ?_; refine W_field (by first | rfl | assumption) ?_; refine S_want (by rfl) ?_; refine W_loadHL (by first | rfl | assumption) (by assumption) (by rfl) (by assumption) ?_; refine S_want (by rfl) ?_; refine W_lenS (by first | rfl | assumption) ?_; refine S_want (by rfl) ?_; refine W_field (by first | rfl | assumption) ?_; refine S_want (by rfl) ?_; refine W_loadHL (by first | rfl | assumption) (by assumption) (by rfl) (by assumption) ?_; refine S_want (by rfl) ?_; refine W_lenS (by first | rfl | assumption) ?_; refine S_want (by rfl) ?_; refine W_addN (by first | rfl | assumption) (by first | rfl | assumption) (by omega) ?_; refine S_want (by rfl) ?_; refine W_field (by first | rfl | assumption) ?_; refine S_want (by rfl) ?_; refine W_loadHL (by first | rfl | assumption) (by assumption) (by rfl) (by assumption) ?_; refine S_want (by rfl) ?_; refine W_lenS (by first | rfl | assumption) ?_; refine S_want (by rfl) ?_; refine W_addN (by first | rfl | assumption) (by first | rfl | assumption) (by omega) ?_; refine S_want (by rfl) ?_; refine W_field (by first | rfl | assumption) ?_; refine S_want (by rfl) ?_; refine W_loadHL (by first | rfl | assumption) (by assumption) (by rfl) (by assumption) ?_; refine S_want (by rfl) ?_; refine W_lenS (by first | rfl | assumption) ?_; refine S_want (by rfl) ?_; refine W_addN (by first | rfl | assumption) (by first | rfl | assumption) (by omega) ?_; refine S_want (by rfl) ?_; refine W_gtrT (by first | rfl | assumption) (by first | rfl | assumption) (by first | omega | rfl) ?_; refine S_op ?_; refine W_pickF (by first | rfl | assumption) (by first | rfl | assumption) ?_; refine S_nil ?_; refine CW_true (by first | rfl | assumption) ?_; refine CW_seq ?_; refine CW_region rfl ?_)
    (refine S_op ?_; refine W_call hS (by rfl) (awake16_c _) ?_); rintro v H w hG' rfl; replace hG := hG.trans hG'; replace hS := hG'.sub; clear hG'
    (refine S_op ?_; refine W_assignBool (by first | rfl | assumption) ?_; refine S_nil ?_; refine CW_ret ?_)
    exact ⟨_, ResW_one (v := .bool _) rfl, H, hG, rfl⟩
  (refine S_op ?_; refine W_not (by first | rfl | assumption) ?_; refine S_op ?_; refine W_moveBool (by first | rfl | assumption) ?_; refine S_want (by rfl) ?_; refine W_field (by first | rfl | assumption) ?_; refine S_want (by rfl) ?_; refine W_loadHL (by first | rfl | assumption) (by assumption) (by rfl) (by assumption) ?_; refine S_want (by rfl) ?_; refine W_lenS (by first | rfl | assumption) ?_; refine S_want (by rfl) ?_; refine W_field (by first | rfl | assumption) ?_; refine S_want (by rfl) ?_; refine W_loadHL (by first | rfl | assumption) (by assumption) (by rfl) (by assumption) ?_; refine S_want (by rfl) ?_; refine W_lenS (by first | rfl | assumption) ?_; refine S_want (by rfl) ?_; refine W_addN (by first | rfl | assumption) (by first | rfl | assumption) (by omega) ?_; refine S_want (by rfl) ?_; refine W_field (by first | rfl | assumption) ?_; refine S_want (by rfl) ?_; refine W_loadHL (by first | rfl | assumption) (by assumption) (by rfl) (by assumption) ?_; refine S_want (by rfl) ?_; refine W_lenS (by first | rfl | assumption) ?_; refine S_want (by rfl) ?_; refine W_addN (by first | rfl | assumption) (by first | rfl | assumption) (by omega) ?_; refine S_want (by rfl) ?_; refine W_field (by first | rfl | assumption) ?_; refine S_want (by rfl) ?_; refine W_loadHL (by first | rfl | assumption) (by assumption) (by rfl) (by assumption) ?_; refine S_want (by rfl) ?_; refine W_lenS (by first | rfl | assumption) ?_; refine S_want (by rfl) ?_; refine W_addN (by first | rfl | assumption) (by first | rfl | assumption) (by omega) ?_; refine S_want (by rfl) ?_; refine W_gtrF (by first | rfl | assumption) (by first | rfl | assumption) (by first | omega | rfl) ?_; refine S_op ?_; refine W_pickF (by first | rfl | assumption) (by first | rfl | assumption) ?_; refine S_nil ?_; refine CW_false (by first | rfl | assumption) ?_; refine CW_skip ?_; refine CW_seq ?_; refine CW_region rfl ?_)
  refine S_op ?_
  refine W_callW (by rfl) ((sys_new (B := w0.heap.size) hS hG.below.size (fun _ => 0) (fun _ => cl0)).mono ?_)
  rintro v w ⟨mb, g, rfl, hG', hy⟩
  replace hG := hG.trans hG'
  replace hS := hG'.sub
  clear hG'
  (refine S_op ?_; refine W_assignPtr (by first | rfl | assumption) ?_; refine S_nil ?_; refine CW_seq ?_; refine CW_region rfl ?_; refine S_op ?_; refine W_movePtr (by first | rfl | assumption) ?_)
  refine S_op ?_
  refine W_callW (by rfl) ((sys_add hS hG.below.size hy).mono ?_)
  rintro v w ⟨cb, rfl, hG', hy⟩
  replace hG := hG.trans hG'
  replace hS := hG'.sub
  clear hG'
  have e0 : setB (fun _ => 0) 0 cb 0 = cb := setB_same _ _ _
  obtain ⟨bs, hbs⟩ : ∃ z, z = setB (fun _ => 0) 0 cb := ⟨_, rfl⟩
  rw [← hbs] at hy e0
  subst e0
  obtain ⟨ks, hks, hk⟩ := setF_at (ks := fun _ => cl0) (q := 0) (k := cl0)
  rw [← hks] at hy
  clear hks hbs
  (refine S_op ?_; refine W_assignPtr (by first | rfl | assumption) ?_; refine S_nil ?_; refine CW_seq ?_; refine CW_region rfl ?_; refine S_op ?_; refine W_movePtr (by first | rfl | assumption) ?_; refine S_op ?_; refine W_loadWhole (by first | rfl | assumption) (by assumption) (by rfl) (by assumption) ?_)
  by_cases hx0 : checkE x = 0
  · (have hyg := fun j hj => hy.ge (j := j) hj; refine S_op ?_; refine W_callW (by rfl) ((sys_call (q := 0) hS hy (by decide) (by rw [hk]; rfl) x hx0).mono ?_)); rintro v w ⟨H, hT', rfl, hy⟩; replace hG := Turn.grow hG hT' hyg; replace hS := hG.sub; replace bx := hT'.le _ _ bx; replace bz := hT'.le _ _ bz; clear hT' hyg
    rw [hk] at hy
    clear hk
    obtain ⟨ks, hks, hk⟩ := setF_at (ks := ks) (q := 0) (k := { cl0 with x := x, stage := 1, tries := 0 })
    rw [← hks] at hy
    clear hks
    (refine S_op ?_; refine W_assignInt (by first | rfl | assumption) ?_; refine S_nil ?_; refine CW_seq ?_; refine CW_seq ?_; refine CW_region rfl ?_; refine S_op ?_; refine W_moveInt (by first | rfl | assumption) ?_; refine S_op ?_; refine W_loadWhole (by first | rfl | assumption) (by assumption) (by rfl) (by assumption) ?_)
    (refine S_op ?_; refine W_call hS (by rfl) (rCheck_c H x) ?_); rintro v H w hG' rfl; replace hG := hG.trans hG'; replace hS := hG'.sub; replace bx := hG'.le _ _ bx; replace bz := hG'.le _ _ bz; replace hy := hy.grow hG'; clear hG'
    rw [hx0]
    (refine S_op ?_; refine W_neqF (by first | rfl | assumption) (by first | rfl | assumption) (by first | omega | rfl) ?_; refine S_op ?_; refine W_moveBool (by first | rfl | assumption) ?_; refine S_want (by rfl) ?_; refine W_movePtr (by first | rfl | assumption) ?_)
    refine S_want (by rfl) ?_
    refine W_callW (by rfl) ((pending_c hS (hy.cl 0 (by decide))).mono ?_)
    rintro v w2 ⟨rfl, rfl⟩
    rw [show decide ((ks 0).stage ≠ 0) = true by rw [hk]; rfl]
    (refine S_want (by rfl) ?_; refine W_moveInt (by first | rfl | assumption) ?_; refine S_want (by rfl) ?_; refine W_eqlT (by first | rfl | assumption) (by first | rfl | assumption) (by first | omega | rfl) ?_; refine S_want (by rfl) ?_; refine W_bneqF (by first | rfl | assumption) (by first | rfl | assumption) (by first | rfl | assumption) ?_; refine S_op ?_; refine W_pickF (by first | rfl | assumption) (by first | rfl | assumption) ?_; refine S_op ?_; refine W_moveBool (by first | rfl | assumption) ?_; refine S_want (by rfl) ?_; refine W_movePtr (by first | rfl | assumption) ?_)
    refine S_want (by rfl) ?_
    refine W_callW (by rfl) ((steps_Tr hS hy.mem).mono ?_)
    rintro v w2 ⟨rfl, rfl⟩
    (refine S_want (by rfl) ?_; refine W_neqF (by first | rfl | assumption) (by first | rfl | assumption) (by first | omega | rfl) ?_; refine S_op ?_; refine W_pickF (by first | rfl | assumption) (by first | rfl | assumption) ?_; refine S_nil ?_; refine CW_false (by first | rfl | assumption) ?_; refine CW_skip ?_; refine CW_seq ?_; refine CW_seq ?_; refine CW_region rfl ?_; refine S_op ?_; refine W_moveInt (by first | rfl | assumption) ?_; refine S_op ?_; refine W_neqF (by first | rfl | assumption) (by first | rfl | assumption) (by first | omega | rfl) ?_; refine S_nil ?_; refine CW_false (by first | rfl | assumption) ?_; refine CW_skip ?_; refine CW_seq ?_; refine CW_region rfl ?_; refine S_op ?_; refine W_movePtr (by first | rfl | assumption) ?_; refine S_op ?_; refine W_loadWhole (by first | rfl | assumption) (by assumption) (by rfl) (by assumption) ?_)
    (refine S_op ?_; refine W_callW (by rfl) ((call_busy y hS (by rw [hk]; show (1 : Nat) ≠ 0; omega) (hy.cl 0 (by decide))).mono ?_)); rintro v w ⟨H, hG', rfl⟩; replace hy := hy.grow hG'; replace hG := hG.trans hG'; replace hS := hG'.sub; clear hG'
    (refine S_op ?_; refine W_eqlT (by first | rfl | assumption) (by first | rfl | assumption) (by first | omega | rfl) ?_; refine S_op ?_; refine W_moveBool (by first | rfl | assumption) ?_; refine S_want (by rfl) ?_; refine W_movePtr (by first | rfl | assumption) ?_)
    refine S_want (by rfl) ?_
    refine W_callW (by rfl) ((pending_c hS (hy.cl 0 (by decide))).mono ?_)
    rintro v w2 ⟨rfl, rfl⟩
    rw [show decide ((ks 0).stage ≠ 0) = true by rw [hk]; rfl]
    (refine S_op ?_; refine W_pickT (by first | rfl | assumption) (by first | rfl | assumption) ?_; refine S_op ?_; refine W_assignBool (by first | rfl | assumption) ?_; refine S_nil ?_; refine CW_ret ?_)
    exact ⟨_, ResW_one (v := .bool _) rfl, H, hG, rfl⟩
  · have hx0' : ((checkE x : Nat) : Int) ≠ 0 := by omega
    (refine S_op ?_; refine W_callW (by rfl) ((call_no x hS (by rw [hk]; rfl) hx0 (hy.cl 0 (by decide))).mono ?_)); rintro v w ⟨H, hG', rfl⟩; replace bx := hG'.le _ _ bx; replace bz := hG'.le _ _ bz; replace hy := hy.grow hG'; replace hG := hG.trans hG'; replace hS := hG'.sub; clear hG'
    (refine S_op ?_; refine W_assignInt (by first | rfl | assumption) ?_; refine S_nil ?_; refine CW_seq ?_; refine CW_seq ?_; refine CW_region rfl ?_; refine S_op ?_; refine W_moveInt (by first | rfl | assumption) ?_; refine S_op ?_; refine W_loadWhole (by first | rfl | assumption) (by assumption) (by rfl) (by assumption) ?_)
    (refine S_op ?_; refine W_call hS (by rfl) (rCheck_c H x) ?_); rintro v H w hG' rfl; replace hG := hG.trans hG'; replace hS := hG'.sub; replace bx := hG'.le _ _ bx; replace bz := hG'.le _ _ bz; replace hy := hy.grow hG'; clear hG'
    (refine S_op ?_; refine W_neqF (by first | rfl | assumption) (by first | rfl | assumption) (by first | omega | rfl) ?_; refine S_op ?_; refine W_moveBool (by first | rfl | assumption) ?_; refine S_want (by rfl) ?_; refine W_movePtr (by first | rfl | assumption) ?_)
    refine S_want (by rfl) ?_
    refine W_callW (by rfl) ((pending_c hS (hy.cl 0 (by decide))).mono ?_)
    rintro v w2 ⟨rfl, rfl⟩
    rw [show decide ((ks 0).stage ≠ 0) = false by rw [hk]; rfl]
    (refine S_want (by rfl) ?_; refine W_moveInt (by first | rfl | assumption) ?_; refine S_want (by rfl) ?_; refine W_eqlF (by first | rfl | assumption) (by first | rfl | assumption) (by first | omega | rfl) ?_; refine S_want (by rfl) ?_; refine W_bneqF (by first | rfl | assumption) (by first | rfl | assumption) (by first | rfl | assumption) ?_; refine S_op ?_; refine W_pickF (by first | rfl | assumption) (by first | rfl | assumption) ?_; refine S_op ?_; refine W_moveBool (by first | rfl | assumption) ?_; refine S_want (by rfl) ?_; refine W_movePtr (by first | rfl | assumption) ?_)
    refine S_want (by rfl) ?_
    refine W_callW (by rfl) ((steps_Tr hS hy.mem).mono ?_)
    rintro v w2 ⟨rfl, rfl⟩
    (refine S_want (by rfl) ?_; refine W_neqF (by first | rfl | assumption) (by first | rfl | assumption) (by first | omega | rfl) ?_; refine S_op ?_; refine W_pickF (by first | rfl | assumption) (by first | rfl | assumption) ?_; refine S_nil ?_; refine CW_false (by first | rfl | assumption) ?_; refine CW_skip ?_; refine CW_seq ?_; refine CW_seq ?_; refine CW_region rfl ?_; refine S_op ?_; refine W_moveInt (by first | rfl | assumption) ?_; refine S_op ?_; refine W_neqT (by first | rfl | assumption) (by first | rfl | assumption) (by first | omega | rfl) ?_; refine S_nil ?_; refine CW_true (by first | rfl | assumption) ?_; refine CW_seq ?_; refine CW_region rfl ?_; refine S_op ?_; refine W_movePtr (by first | rfl | assumption) ?_)
    (refine S_op ?_; refine W_callW (by rfl) ((step_idle hS (by rw [hk]; rfl) (hy.cl 0 (by decide))).mono ?_)); rintro v w ⟨H, hG', rfl⟩; replace hy := hy.grow hG'; replace hG := hG.trans hG'; replace hS := hG'.sub; clear hG'
    (refine S_op ?_; refine W_moveTup (by first | rfl | assumption) ?_; refine S_op ?_; refine W_extract (by first | rfl | assumption) (by rfl) ?_; refine S_op ?_; refine W_extract (by first | rfl | assumption) (by rfl) ?_; refine S_op ?_; refine W_extract (by first | rfl | assumption) (by rfl) ?_)
    (have hyl := fun j hj => hy.lt (j := j) hj; refine S_op (W_alloc hS ?_)); intro w c8b hG' c8h c8; have n_c8 : _ → False := fun hj => absurd (hyl c8b hj) (by omega); replace hy := hy.grow hG'; replace c8h := Nat.le_trans hG.below.size (Nat.le_of_eq c8h); replace hG := hG.trans hG'; replace hS := hG'.sub; clear hG' hyl
    skip
    have hS9 := hS; have ho9 := c8.out; (refine S_op0 (W_storeM (o := 0) (vs := repCells rep0) (by rfl) (by rfl) c8 (by rfl) (OneCells.of_all (by rfl)) (by rfl) (Nat.le_of_ble_eq_true (by rfl)) ?_)); intro w hgb' hm'; replace hG := hG.grownBy hgb' (fun g h => by cases h; exact ⟨c8.out, c8h⟩); replace hS := hG.sub; replace c8 : Mut _ w c8b (repCells rep0) := hm'; clear hm'; skip; replace hy := hy.other hS9 ho9 hgb' n_c8; clear hS9 ho9 hgb'
    (refine S_op ?_; refine W_assignBool (by first | rfl | assumption) ?_; refine S_op ?_; refine W_assignInt (by first | rfl | assumption) ?_; refine S_nil ?_; refine CW_seq ?_; refine CW_region rfl ?_; refine S_op ?_; refine W_moveBool (by first | rfl | assumption) ?_; refine S_op ?_; refine W_not (by first | rfl | assumption) ?_; refine S_op ?_; refine W_moveBool (by first | rfl | assumption) ?_; refine S_want (by rfl) ?_; refine W_moveInt (by first | rfl | assumption) ?_; refine S_want (by rfl) ?_; refine W_eqlT (by first | rfl | assumption) (by first | rfl | assumption) (by first | omega | rfl) ?_; refine S_op ?_; refine W_pickT (by first | rfl | assumption) (by first | rfl | assumption) ?_; refine S_op ?_; refine W_moveBool (by first | rfl | assumption) ?_; refine S_want (by rfl) ?_; refine W_movePtr (by first | rfl | assumption) ?_)
    refine S_want (by rfl) ?_
    refine W_callW (by rfl) ((tries_c hS (hy.cl 0 (by decide))).mono ?_)
    rintro v w2 ⟨rfl, rfl⟩
    rw [show (if (ks 0).stage = 0 then 0 else (ks 0).tries) = 0 by rw [hk]; rfl]
    (refine S_want (by rfl) ?_; refine W_eqlT (by first | rfl | assumption) (by first | rfl | assumption) (by first | omega | rfl) ?_; refine S_op ?_; refine W_pickT (by first | rfl | assumption) (by first | rfl | assumption) ?_; refine S_op ?_; refine W_assignBool (by first | rfl | assumption) ?_; refine S_nil ?_; refine CW_ret ?_)
    exact ⟨_, ResW_one (v := .bool _) rfl, H, hG, rfl⟩
theorem isMem_lt {H : HF} {w : World} {mb g : Nat} {ws : List Value} {s c : Nat} (h : IsMem H w mb (some ⟨g, 0, none⟩) ws s c) : ∀ j, memS mb (some ⟨g, 0, none⟩) j → j < w.heap.size := by
  intro j hj
  rcases memS_of hj with rfl | rfl
  · exact h.cell.lt
  · rcases h.words with ⟨e, _⟩ | ⟨g', e, _, h2⟩
    · cases e
    · cases e; exact h2.lt
/-- A call's first step in a memory without words. -/
theorem step_none {H : HF} {w : World} {ccb mb : Nat} {A : Option Addr} {k : Cl} {s c : Nat} (hS : Sub H w) (hk : k.stage = 1) (cc : CliAt H w ccb (.pointer (some ⟨mb, 0, none⟩)) k) (hm : IsMem H w mb A ([].map Tr.val) s c) :
    CallW Try.prog 18 [.pointer (some ⟨ccb, 0, none⟩)].toArray w fun v w' => ∃ H', Turn (fun j => j = ccb) H w H' w' ∧ v = .tuple #[.agg (repCells ⟨1, ⟨#[]⟩, false, 0⟩).toArray, .bool true, .int .i64 0] ∧ CliAt H' w' ccb (.pointer (some ⟨mb, 0, none⟩)) (endK k) := by
  have hk' : k.stage ≠ 0 := by omega
  obtain ⟨w0, rfl⟩ : ∃ w0, w0 = w := ⟨_, rfl⟩
  refine CallW_of_CW Try.func18 rfl Try.ntmps18 Try.results18 rfl ?_
  have hG := Grow.refl hS
  (refine CW_seq ?_; refine CW_region rfl ?_)
  (refine S_op (W_alloc hS ?_)); intro w c2b hG' c2h c2; have n_cc_c2 : ccb ≠ c2b := (by have h1 := cc.lt; omega); replace c2h := Nat.le_trans hG.below.size (Nat.le_of_eq c2h); replace hG := hG.trans hG'; replace hS := hG'.sub; replace cc := cc.grow hG'; clear hG'
  replace hm := hm.grow hG
  (refine S_op ?_; refine W_assignBool (by first | rfl | assumption) ?_; refine S_op ?_; refine W_assignInt (by first | rfl | assumption) ?_; refine S_nil ?_; refine CW_seq ?_; refine CW_seq ?_; refine CW_region rfl ?_; refine S_op ?_; refine W_movePtr (by first | rfl | assumption) ?_)
  refine S_op ?_
  refine W_callW (by rfl) ((pending_c hS cc).mono ?_)
  rintro v w2 ⟨rfl, rfl⟩
  rw [show decide (k.stage ≠ 0) = true by simp [hk']]
  have cc' := cc
  replace cc := cc.mut
  have hT := hG.turn (S := fun j => j = ccb)
  clear hG
  (refine S_op ?_; refine W_not (by first | rfl | assumption) ?_; refine S_nil ?_; refine CW_false (by first | rfl | assumption) ?_; refine CW_skip ?_; refine CW_seq ?_; refine CW_seq ?_; refine CW_region rfl ?_; refine S_op ?_; refine W_movePtr (by first | rfl | assumption) ?_; refine S_op ?_; refine W_nilCheck (by first | rfl | assumption) ?_; refine S_op ?_; refine W_field (by first | rfl | assumption) ?_; refine S_op ?_; refine W_loadM (by first | rfl | assumption) (by assumption) (by rfl) ?_; refine S_nil ?_; refine CW_block ?_; refine CW_seq ?_; refine CW_region rfl ?_; refine S_op ?_; refine W_eqlT (by first | rfl | assumption) (by first | rfl | assumption) (by first | omega | rfl) ?_; refine S_op ?_; refine W_assignBool (by first | rfl | assumption) ?_; refine S_nil ?_; refine CW_true (by first | rfl | assumption) ?_; refine CW_seq ?_; refine CW_region rfl ?_; refine S_op ?_; refine W_movePtr (by first | rfl | assumption) ?_; refine S_op ?_; refine W_nilCheck (by first | rfl | assumption) ?_; refine S_op ?_; refine W_field (by first | rfl | assumption) ?_; refine S_op ?_; refine W_loadM (by first | rfl | assumption) (by assumption) (by rfl) ?_)
  refine S_op ?_
  refine W_callW (by rfl) ((load_no_Tr (i := 0) hS hm (by simp)).mono ?_)
  rintro v w2 ⟨rfl, rfl⟩
  (refine S_op ?_; refine W_moveTup (by first | rfl | assumption) ?_; refine S_op ?_; refine W_extract (by first | rfl | assumption) (by rfl) ?_; refine S_op ?_; refine W_extract (by first | rfl | assumption) (by rfl) ?_; refine S_op ?_; refine W_assignPtr (by first | rfl | assumption) ?_; refine S_op ?_; refine W_assignInt (by first | rfl | assumption) ?_; refine S_nil ?_; refine CW_seq ?_; refine CW_seq ?_; refine CW_region rfl ?_; refine S_op ?_; refine W_moveInt (by first | rfl | assumption) ?_; refine S_op ?_; refine W_neqT (by first | rfl | assumption) (by first | rfl | assumption) (by first | omega | rfl) ?_; refine S_nil ?_; refine CW_true (by first | rfl | assumption) ?_; refine CW_seq ?_; refine CW_region rfl ?_; refine S_op ?_; refine W_movePtr (by first | rfl | assumption) ?_; refine S_op ?_; refine W_moveInt (by first | rfl | assumption) ?_; refine S_op ?_; refine W_build (by rfl) ?_)
  refine S_op ?_
  refine W_callW (by rfl) ((cliEnds_c ⟨1, ⟨#[]⟩, false, 0⟩ hS cc').mono ?_)
  rintro v w ⟨H, hT', rfl, cc⟩
  clear cc'
  replace c2 := c2.turn hT' (fun e => n_cc_c2 e.symm)
  replace hT := hT.trans hT'
  replace hS := hT.sub
  clear hT'
  (refine S_op ?_; refine W_extract (by first | rfl | assumption) (by rfl) ?_; refine S_op ?_; refine W_extract (by first | rfl | assumption) (by rfl) ?_; refine S_op ?_; refine W_extract (by first | rfl | assumption) (by rfl) ?_)
  (refine S_op0 (W_storeM (o := 0) (vs := repCells ⟨1, ⟨#[]⟩, false, 0⟩) (by rfl) (by rfl) c2 (by rfl) (OneCells.of_all (by rfl)) (by rfl) (Nat.le_of_ble_eq_true (by rfl)) ?_)); intro w hgb' hm'; replace hT := hT.grownBy hgb' (fun g h => by cases h; exact ⟨c2.out, .inl c2h⟩); replace hS := hT.sub; replace cc := cc.other hgb' (by intro e2; cases e2; first | exact n_cc_c2 rfl | exact n_c2_cc rfl); replace c2 := hm'; clear hm' hgb'
  (refine S_op ?_; refine W_assignBool (by first | rfl | assumption) ?_; refine S_op ?_; refine W_assignInt (by first | rfl | assumption) ?_; refine S_nil ?_; refine CW_ret ?_)
  exact ⟨_, ResW_v3 (v2 := .bool _) (v3 := .int _ _) (RV_cell rfl c2 rfl) rfl rfl, H, hT, rfl, cc⟩
/- rest: what is behind the nil client, or the zero one -/
theorem clientNil_c (H0 : HF) (x : Call) (q : Nat) (hx1 : x.key.size ≤ 150000000000000 ∧ x.val.size ≤ 150000000000000) :
    Fn Try.prog 4 [.agg (callCells x).toArray, .int .u8 (q : Int)] H0 fun v _ => v = .bool true := by
  refine Fn_of_CW Try.func4 rfl Try.ntmps4 Try.results4 rfl fun w0 hS => ?_; have hG := Grow.refl hS
  (refine CW_seq ?_; refine CW_region rfl ?_)
  (refine S_op (W_boxAgg hS (by rfl) ?_)); intro H w _ hG' bx; replace hG := hG.trans hG'; replace hS := hG'.sub; clear hG'
  (refine S_op ?_; refine W_assignBool (by first | rfl | assumption) ?_; refine S_nil ?_; refine CW_seq ?_; refine CW_seq ?_; refine CW_region rfl ?_)
  (refine S_op ?_; refine W_call hS (by rfl) (awake16_c _) ?_); rintro v H w hG' rfl; replace hG := hG.trans hG'; replace hS := hG'.sub; replace bx := hG'.le _ _ bx; clear hG'
  by_cases hbig : 4000 < x.key.size + x.val.size
  · (refine S_op ?_; refine W_not (by first | rfl | assumption) ?_; refine S_op ?_; refine W_moveBool (by first | rfl | assumption) ?_; refine S_want (by rfl) ?_; refine W_field (by first | rfl | assumption) ?_; refine S_want (by rfl) ?_; refine W_loadHL (by first | rfl | assumption) (by assumption) (by rfl) (by assumption) ?_; refine S_want (by rfl) ?_; refine W_lenS (by first | rfl | assumption) ?_; refine S_want (by rfl) ?_; refine W_field (by first | rfl | assumption) ?_; refine S_want (by rfl) ?_; refine W_loadHL (by first | rfl | assumption) (by assumption) (by rfl) (by assumption) ?_; refine S_want (by rfl) ?_; refine W_lenS (by first | rfl | assumption) ?_; refine S_want (by rfl) ?_; refine W_addN (by first | rfl | assumption) (by first | rfl | assumption) (by omega) ?_; refine S_want (by rfl) ?_; refine W_gtrT (by first | rfl | assumption) (by first | rfl | assumption) (by first | omega | rfl) ?_; refine S_op ?_; refine W_pickF (by first | rfl | assumption) (by first | rfl | assumption) ?_; refine S_nil ?_; refine CW_true (by first | rfl | assumption) ?_; refine CW_seq ?_; refine CW_region rfl ?_)
    (refine S_op ?_; refine W_call hS (by rfl) (awake16_c _) ?_); rintro v H w hG' rfl; replace hG := hG.trans hG'; replace hS := hG'.sub; clear hG'
    (refine S_op ?_; refine W_assignBool (by first | rfl | assumption) ?_; refine S_nil ?_; refine CW_ret ?_)
    exact ⟨_, ResW_one (v := .bool _) rfl, H, hG, rfl⟩
  (refine S_op ?_; refine W_not (by first | rfl | assumption) ?_; refine S_op ?_; refine W_moveBool (by first | rfl | assumption) ?_; refine S_want (by rfl) ?_; refine W_field (by first | rfl | assumption) ?_; refine S_want (by rfl) ?_; refine W_loadHL (by first | rfl | assumption) (by assumption) (by rfl) (by assumption) ?_; refine S_want (by rfl) ?_; refine W_lenS (by first | rfl | assumption) ?_; refine S_want (by rfl) ?_; refine W_field (by first | rfl | assumption) ?_; refine S_want (by rfl) ?_; refine W_loadHL (by first | rfl | assumption) (by assumption) (by rfl) (by assumption) ?_; refine S_want (by rfl) ?_; refine W_lenS (by first | rfl | assumption) ?_; refine S_want (by rfl) ?_; refine W_addN (by first | rfl | assumption) (by first | rfl | assumption) (by omega) ?_; refine S_want (by rfl) ?_; refine W_gtrF (by first | rfl | assumption) (by first | rfl | assumption) (by first | omega | rfl) ?_; refine S_op ?_; refine W_pickF (by first | rfl | assumption) (by first | rfl | assumption) ?_; refine S_nil ?_; refine CW_false (by first | rfl | assumption) ?_; refine CW_skip ?_; refine CW_seq ?_; refine CW_region rfl ?_; refine S_op ?_; refine W_assignPtr (by first | rfl | assumption) ?_; refine S_nil ?_; refine CW_seq ?_; refine CW_seq ?_; refine CW_region rfl ?_; refine S_op ?_; refine W_moveInt (by first | rfl | assumption) ?_)
  refine S_op (W_remN (b := 2) (by rfl) (by rfl) (by decide) ?_)
  rcases (by omega : q % 2 = 0 ∨ q % 2 = 1) with h | h
  · (refine S_op ?_; refine W_eqlF (by first | rfl | assumption) (by first | rfl | assumption) (by first | omega | rfl) ?_; refine S_nil ?_; refine CW_false (by first | rfl | assumption) ?_; refine CW_skip ?_; refine CW_seq ?_; refine CW_region rfl ?_; refine S_op ?_; refine W_movePtr (by first | rfl | assumption) ?_)
    (refine S_op ?_; refine W_callW (by rfl) ((step_no rfl hS).mono ?_)); rintro v w ⟨H, hG', rfl⟩; replace bx := hG'.le _ _ bx; replace hG := hG.trans hG'; replace hS := hG'.sub; clear hG'
    (refine S_op ?_; refine W_moveTup (by first | rfl | assumption) ?_; refine S_op ?_; refine W_extract (by first | rfl | assumption) (by rfl) ?_; refine S_op ?_; refine W_extract (by first | rfl | assumption) (by rfl) ?_; refine S_op ?_; refine W_extract (by first | rfl | assumption) (by rfl) ?_)
    (refine S_op (W_alloc hS ?_)); intro w c6b hG' c6h c6; replace c6h := Nat.le_trans hG.below.size (Nat.le_of_eq c6h); replace hG := hG.trans hG'; replace hS := hG'.sub; clear hG'
    skip
    (refine S_op0 (W_storeM (o := 0) (vs := repCells rep0) (by rfl) (by rfl) c6 (by rfl) (OneCells.of_all (by rfl)) (by rfl) (Nat.le_of_ble_eq_true (by rfl)) ?_)); intro w hgb' hm'; replace hG := hG.grownBy hgb' (fun g h => by cases h; exact ⟨c6.out, c6h⟩); replace hS := hG.sub; replace c6 : Mut _ w c6b (repCells rep0) := hm'; clear hm'; clear hgb'
    (refine S_op ?_; refine W_assignBool (by first | rfl | assumption) ?_; refine S_op ?_; refine W_assignInt (by first | rfl | assumption) ?_; refine S_nil ?_; refine CW_seq ?_; refine CW_seq ?_; refine CW_region rfl ?_; refine S_op ?_; refine W_movePtr (by first | rfl | assumption) ?_; refine S_op ?_; refine W_loadWhole (by first | rfl | assumption) (by assumption) (by rfl) (by assumption) ?_)
    (refine S_op ?_; refine W_callW (by rfl) ((call_nil x hS).mono ?_)); rintro v w ⟨H, hG', rfl⟩; replace bx := hG'.le _ _ bx; replace c6 := c6.grow hG'; replace hG := hG.trans hG'; replace hS := hG'.sub; clear hG'
    (refine S_op ?_; refine W_neqF (by first | rfl | assumption) (by first | rfl | assumption) (by first | omega | rfl) ?_; refine S_op ?_; refine W_moveBool (by first | rfl | assumption) ?_; refine S_want (by rfl) ?_; refine W_moveBool (by first | rfl | assumption) ?_; refine S_op ?_; refine W_pickF (by first | rfl | assumption) (by first | rfl | assumption) ?_; refine S_op ?_; refine W_moveBool (by first | rfl | assumption) ?_; refine S_want (by rfl) ?_; refine W_moveInt (by first | rfl | assumption) ?_; refine S_want (by rfl) ?_; refine W_neqF (by first | rfl | assumption) (by first | rfl | assumption) (by first | omega | rfl) ?_; refine S_op ?_; refine W_pickF (by first | rfl | assumption) (by first | rfl | assumption) ?_; refine S_op ?_; refine W_moveBool (by first | rfl | assumption) ?_; refine S_want (by rfl) ?_; refine W_loadMAggC (by first | rfl | assumption) (by assumption) (by rfl) (by rfl) ?_; refine S_want (by rfl) ?_; refine W_build (by rfl) ?_)
    refine S_want (by rfl) (W_repNeqB (a := rep0) (c := rep0) (q := false) (by decide) (by rfl) (by rfl) ?_)
    (refine S_op ?_; refine W_pickF (by first | rfl | assumption) (by first | rfl | assumption) ?_; refine S_op ?_; refine W_moveBool (by first | rfl | assumption) ?_; refine S_want (by rfl) ?_; refine W_movePtr (by first | rfl | assumption) ?_)
    refine S_want (by rfl) ?_
    refine W_callW (by rfl) ((pending_nil _).mono ?_)
    rintro v w2 ⟨rfl, rfl⟩
    (refine S_op ?_; refine W_pickF (by first | rfl | assumption) (by first | rfl | assumption) ?_; refine S_op ?_; refine W_moveBool (by first | rfl | assumption) ?_; refine S_want (by rfl) ?_; refine W_movePtr (by first | rfl | assumption) ?_)
    refine S_want (by rfl) ?_
    refine W_callW (by rfl) ((tries_nil _).mono ?_)
    rintro v w2 ⟨rfl, rfl⟩
    clear c6
    (refine S_want (by rfl) ?_; refine W_neqF (by first | rfl | assumption) (by first | rfl | assumption) (by first | omega | rfl) ?_; refine S_op ?_; refine W_pickF (by first | rfl | assumption) (by first | rfl | assumption) ?_; refine S_nil ?_; refine CW_false (by first | rfl | assumption) ?_; refine CW_skip ?_; refine CW_seq ?_; refine CW_region rfl ?_)
    refine S_op ?_
    refine W_callW (by rfl) ((new_Tr _ _ hS 0).mono ?_)
    rintro v w ⟨mb, g, rfl, hG', hmh, _, hm⟩
    replace hmh : w0.heap.size ≤ mb := Nat.le_trans hG.below.size hmh
    replace bx := hG'.le _ _ bx
    replace hG := hG.trans hG'
    replace hS := hG'.sub
    clear hG'
    skip
    refine S_op ?_
    refine W_callW (by rfl) ((cliNew_c (.pointer (some ⟨mb, 0, none⟩)) rfl _ hS).mono ?_)
    rintro v w ⟨ddb, rfl, hG', ddh, dd⟩
    have hm2 : ∀ j, memS mb (some ⟨g, 0, none⟩) j → j ≠ ddb := fun j hj e => by have := isMem_lt hm j hj; omega
    replace ddh := Nat.le_trans hG.below.size ddh
    replace hm := hm.grow hG'
    replace bx := hG'.le _ _ bx
    replace hG := hG.trans hG'
    replace hS := hG'.sub
    clear hG'
    (refine S_op ?_; refine W_assignPtr (by first | rfl | assumption) ?_; refine S_nil ?_; refine CW_seq ?_; refine CW_seq ?_; refine CW_region rfl ?_; refine S_op ?_; refine W_movePtr (by first | rfl | assumption) ?_; refine S_op ?_; refine W_loadWhole (by first | rfl | assumption) (by assumption) (by rfl) (by assumption) ?_)
    by_cases hx0 : checkE x = 0
    · refine S_op ?_
      refine W_callW (by rfl) ((call_yes x hS rfl hx0 dd).mono ?_)
      rintro v w ⟨H, hT', rfl, dd⟩
      replace hm := hm.turn hT' (fun j hj e => hm2 j hj e)
      replace bx := hT'.le _ _ bx
      replace hG := Turn.grow hG hT' (fun j e => by have e : j = ddb := e; omega)
      replace hS := hG.sub
      clear hT'
      (refine S_op ?_; refine W_neqF (by first | rfl | assumption) (by first | rfl | assumption) (by first | omega | rfl) ?_; refine S_nil ?_; refine CW_false (by first | rfl | assumption) ?_; refine CW_skip ?_; refine CW_seq ?_; refine CW_region rfl ?_; refine S_op ?_; refine W_movePtr (by first | rfl | assumption) ?_)
      refine S_op ?_
      refine W_callW (by rfl) ((step_none hS rfl dd (by exact hm)).mono ?_)
      rintro v w ⟨H, hT', rfl, dd⟩
      replace hG := Turn.grow hG hT' (fun j e => by have e : j = ddb := e; omega)
      replace hS := hG.sub
      clear hT' hm hm2
      (refine S_op ?_; refine W_moveTup (by first | rfl | assumption) ?_; refine S_op ?_; refine W_extract (by first | rfl | assumption) (by rfl) ?_; refine S_op ?_; refine W_extract (by first | rfl | assumption) (by rfl) ?_; refine S_op ?_; refine W_extract (by first | rfl | assumption) (by rfl) ?_)
      (refine S_op (W_alloc hS ?_)); intro w c10b hG' c10h c10; have n_dd_c10 : ddb ≠ c10b := (by have h1 := dd.lt; omega); replace c10h := Nat.le_trans hG.below.size (Nat.le_of_eq c10h); replace hG := hG.trans hG'; replace hS := hG'.sub; replace dd := dd.grow hG'; clear hG'
      skip
      (refine S_op0 (W_storeM (o := 0) (vs := repCells ⟨1, ⟨#[]⟩, false, 0⟩) (by rfl) (by rfl) c10 (by rfl) (OneCells.of_all (by rfl)) (by rfl) (Nat.le_of_ble_eq_true (by rfl)) ?_)); intro w hgb' hm'; replace hG := hG.grownBy hgb' (fun g h => by cases h; exact ⟨c10.out, c10h⟩); replace hS := hG.sub; replace c10 : Mut _ w c10b (repCells ⟨1, ⟨#[]⟩, false, 0⟩) := hm'; clear hm'; replace dd := dd.other hgb' (by intro e2; cases e2; first | exact n_dd_c10 rfl | exact n_c10_dd rfl); clear hgb'
      (refine S_op ?_; refine W_assignBool (by first | rfl | assumption) ?_; refine S_op ?_; refine W_assignInt (by first | rfl | assumption) ?_; refine S_nil ?_; refine CW_seq ?_; refine CW_region rfl ?_; refine S_op ?_; refine W_moveBool (by first | rfl | assumption) ?_; refine S_op ?_; refine W_moveBool (by first | rfl | assumption) ?_; refine S_want (by rfl) ?_; refine W_moveInt (by first | rfl | assumption) ?_; refine S_want (by rfl) ?_; refine W_eqlT (by first | rfl | assumption) (by first | rfl | assumption) (by first | omega | rfl) ?_; refine S_op ?_; refine W_pickT (by first | rfl | assumption) (by first | rfl | assumption) ?_; refine S_op ?_; refine W_moveBool (by first | rfl | assumption) ?_; refine S_want (by rfl) ?_; refine W_loadMAggC (by first | rfl | assumption) (by assumption) (by rfl) (by rfl) ?_; refine S_want (by rfl) ?_; refine W_build (by rfl) ?_)
      refine S_want (by rfl) (W_repEqlB (a := ⟨1, ⟨#[]⟩, false, 0⟩) (c := ⟨1, ⟨#[]⟩, false, 0⟩) (q := true) (by decide) (by rfl) (by rfl) ?_)
      (refine S_op ?_; refine W_pickT (by first | rfl | assumption) (by first | rfl | assumption) ?_; refine S_op ?_; refine W_moveBool (by first | rfl | assumption) ?_; refine S_want (by rfl) ?_; refine W_movePtr (by first | rfl | assumption) ?_)
      refine S_want (by rfl) ?_
      refine W_callW (by rfl) ((pending_c hS dd).mono ?_)
      rintro v w2 ⟨rfl, rfl⟩
      (refine S_want (by rfl) ?_; refine W_not (by first | rfl | assumption) ?_; refine S_op ?_; refine W_pickT (by first | rfl | assumption) (by first | rfl | assumption) ?_; refine S_op ?_; refine W_assignBool (by first | rfl | assumption) ?_; refine S_nil ?_; refine CW_ret ?_)
      exact ⟨_, ResW_one (v := .bool _) rfl, H, hG, rfl⟩
    · have hx0' : ((checkE x : Nat) : Int) ≠ 0 := by omega
      (refine S_op ?_; refine W_callW (by rfl) ((call_no x hS rfl hx0 dd).mono ?_)); rintro v w ⟨H, hG', rfl⟩; replace bx := hG'.le _ _ bx; replace hG := hG.trans hG'; replace hS := hG'.sub; clear hG'
      (refine S_op ?_; refine W_neqT (by first | rfl | assumption) (by first | rfl | assumption) (by first | omega | rfl) ?_; refine S_nil ?_; refine CW_true (by first | rfl | assumption) ?_; refine CW_seq ?_; refine CW_region rfl ?_; refine S_op ?_; refine W_loadWhole (by first | rfl | assumption) (by assumption) (by rfl) (by assumption) ?_)
      (refine S_op ?_; refine W_call hS (by rfl) (rCheck_c H x) ?_); rintro v H w hG' rfl; replace hG := hG.trans hG'; replace hS := hG'.sub; clear hG'
      (refine S_op ?_; refine W_neqT (by first | rfl | assumption) (by first | rfl | assumption) (by first | omega | rfl) ?_; refine S_op ?_; refine W_assignBool (by first | rfl | assumption) ?_; refine S_nil ?_; refine CW_ret ?_)
      exact ⟨_, ResW_one (v := .bool _) rfl, H, hG, rfl⟩
  · (refine S_op ?_; refine W_eqlT (by first | rfl | assumption) (by first | rfl | assumption) (by first | omega | rfl) ?_; refine S_nil ?_; refine CW_true (by first | rfl | assumption) ?_; refine CW_region rfl ?_; refine S_op ?_; refine W_build (by rfl) ?_)
    refine S_op ?_
    refine W_boxM (cs := cliC (.pointer none) cl0) hS (by rfl) (by rfl) ?_
    intro w ccb hG' cch cc
    replace cc : CliAt H w ccb (.pointer none) cl0 := cc
    replace bx := hG'.le _ _ bx
    replace hG := hG.trans hG'
    replace hS := hG'.sub
    clear hG' cch
    (refine S_op ?_; refine W_assignPtr (by first | rfl | assumption) ?_; refine S_nil ?_; refine CW_seq ?_; refine CW_region rfl ?_; refine S_op ?_; refine W_movePtr (by first | rfl | assumption) ?_)
    (refine S_op ?_; refine W_callW (by rfl) ((step_idle hS rfl cc).mono ?_)); rintro v w ⟨H, hG', rfl⟩; replace bx := hG'.le _ _ bx; replace cc := cc.grow hG'; replace hG := hG.trans hG'; replace hS := hG'.sub; clear hG'
    (refine S_op ?_; refine W_moveTup (by first | rfl | assumption) ?_; refine S_op ?_; refine W_extract (by first | rfl | assumption) (by rfl) ?_; refine S_op ?_; refine W_extract (by first | rfl | assumption) (by rfl) ?_; refine S_op ?_; refine W_extract (by first | rfl | assumption) (by rfl) ?_)
    (refine S_op (W_alloc hS ?_)); intro w c6b hG' c6h c6; have n_cc_c6 : ccb ≠ c6b := (by have h1 := cc.lt; omega); replace c6h := Nat.le_trans hG.below.size (Nat.le_of_eq c6h); replace hG := hG.trans hG'; replace hS := hG'.sub; replace cc := cc.grow hG'; clear hG'
    skip
    (refine S_op0 (W_storeM (o := 0) (vs := repCells rep0) (by rfl) (by rfl) c6 (by rfl) (OneCells.of_all (by rfl)) (by rfl) (Nat.le_of_ble_eq_true (by rfl)) ?_)); intro w hgb' hm'; replace hG := hG.grownBy hgb' (fun g h => by cases h; exact ⟨c6.out, c6h⟩); replace hS := hG.sub; replace c6 : Mut _ w c6b (repCells rep0) := hm'; clear hm'; replace cc := cc.other hgb' (by intro e2; cases e2; first | exact n_cc_c6 rfl | exact n_c6_cc rfl); clear hgb'
    (refine S_op ?_; refine W_assignBool (by first | rfl | assumption) ?_; refine S_op ?_; refine W_assignInt (by first | rfl | assumption) ?_; refine S_nil ?_; refine CW_seq ?_; refine CW_seq ?_; refine CW_region rfl ?_; refine S_op ?_; refine W_movePtr (by first | rfl | assumption) ?_; refine S_op ?_; refine W_loadWhole (by first | rfl | assumption) (by assumption) (by rfl) (by assumption) ?_)
    (refine S_op ?_; refine W_callW (by rfl) ((call_zero x hS cc).mono ?_)); rintro v w ⟨H, hG', rfl⟩; replace bx := hG'.le _ _ bx; replace c6 := c6.grow hG'; replace cc := cc.grow hG'; replace hG := hG.trans hG'; replace hS := hG'.sub; clear hG'
    (refine S_op ?_; refine W_neqF (by first | rfl | assumption) (by first | rfl | assumption) (by first | omega | rfl) ?_; refine S_op ?_; refine W_moveBool (by first | rfl | assumption) ?_; refine S_want (by rfl) ?_; refine W_moveBool (by first | rfl | assumption) ?_; refine S_op ?_; refine W_pickF (by first | rfl | assumption) (by first | rfl | assumption) ?_; refine S_op ?_; refine W_moveBool (by first | rfl | assumption) ?_; refine S_want (by rfl) ?_; refine W_moveInt (by first | rfl | assumption) ?_; refine S_want (by rfl) ?_; refine W_neqF (by first | rfl | assumption) (by first | rfl | assumption) (by first | omega | rfl) ?_; refine S_op ?_; refine W_pickF (by first | rfl | assumption) (by first | rfl | assumption) ?_; refine S_op ?_; refine W_moveBool (by first | rfl | assumption) ?_; refine S_want (by rfl) ?_; refine W_loadMAggC (by first | rfl | assumption) (by assumption) (by rfl) (by rfl) ?_; refine S_want (by rfl) ?_; refine W_build (by rfl) ?_)
    refine S_want (by rfl) (W_repNeqB (a := rep0) (c := rep0) (q := false) (by decide) (by rfl) (by rfl) ?_)
    (refine S_op ?_; refine W_pickF (by first | rfl | assumption) (by first | rfl | assumption) ?_; refine S_op ?_; refine W_moveBool (by first | rfl | assumption) ?_; refine S_want (by rfl) ?_; refine W_movePtr (by first | rfl | assumption) ?_)
    refine S_want (by rfl) ?_
    refine W_callW (by rfl) ((pending_c hS cc).mono ?_)
    rintro v w2 ⟨rfl, rfl⟩
    (refine S_op ?_; refine W_pickF (by first | rfl | assumption) (by first | rfl | assumption) ?_; refine S_op ?_; refine W_moveBool (by first | rfl | assumption) ?_; refine S_want (by rfl) ?_; refine W_movePtr (by first | rfl | assumption) ?_)
    refine S_want (by rfl) ?_
    refine W_callW (by rfl) ((tries_c hS cc).mono ?_)
    rintro v w2 ⟨rfl, rfl⟩
    clear c6
    (refine S_want (by rfl) ?_; refine W_neqC (by first | rfl | assumption) ?_; refine S_op ?_; refine W_pickF (by first | rfl | assumption) (by first | rfl | assumption) ?_; refine S_nil ?_; refine CW_false (by first | rfl | assumption) ?_; refine CW_skip ?_; refine CW_seq ?_; refine CW_region rfl ?_)
    refine S_op ?_
    refine W_callW (by rfl) ((new_Tr _ _ hS 0).mono ?_)
    rintro v w ⟨mb, g, rfl, hG', hmh, _, hm⟩
    replace hmh : w0.heap.size ≤ mb := Nat.le_trans hG.below.size hmh
    replace bx := hG'.le _ _ bx
    replace hG := hG.trans hG'
    replace hS := hG'.sub
    clear hG'
    skip
    refine S_op ?_
    refine W_callW (by rfl) ((cliNew_c (.pointer (some ⟨mb, 0, none⟩)) rfl _ hS).mono ?_)
    rintro v w ⟨ddb, rfl, hG', ddh, dd⟩
    have hm2 : ∀ j, memS mb (some ⟨g, 0, none⟩) j → j ≠ ddb := fun j hj e => by have := isMem_lt hm j hj; omega
    replace ddh := Nat.le_trans hG.below.size ddh
    replace hm := hm.grow hG'
    replace bx := hG'.le _ _ bx
    replace hG := hG.trans hG'
    replace hS := hG'.sub
    clear hG'
    (refine S_op ?_; refine W_assignPtr (by first | rfl | assumption) ?_; refine S_nil ?_; refine CW_seq ?_; refine CW_seq ?_; refine CW_region rfl ?_; refine S_op ?_; refine W_movePtr (by first | rfl | assumption) ?_; refine S_op ?_; refine W_loadWhole (by first | rfl | assumption) (by assumption) (by rfl) (by assumption) ?_)
    by_cases hx0 : checkE x = 0
    · refine S_op ?_
      refine W_callW (by rfl) ((call_yes x hS rfl hx0 dd).mono ?_)
      rintro v w ⟨H, hT', rfl, dd⟩
      replace hm := hm.turn hT' (fun j hj e => hm2 j hj e)
      replace bx := hT'.le _ _ bx
      replace hG := Turn.grow hG hT' (fun j e => by have e : j = ddb := e; omega)
      replace hS := hG.sub
      clear hT'
      (refine S_op ?_; refine W_neqF (by first | rfl | assumption) (by first | rfl | assumption) (by first | omega | rfl) ?_; refine S_nil ?_; refine CW_false (by first | rfl | assumption) ?_; refine CW_skip ?_; refine CW_seq ?_; refine CW_region rfl ?_; refine S_op ?_; refine W_movePtr (by first | rfl | assumption) ?_)
      refine S_op ?_
      refine W_callW (by rfl) ((step_none hS rfl dd (by exact hm)).mono ?_)
      rintro v w ⟨H, hT', rfl, dd⟩
      replace hG := Turn.grow hG hT' (fun j e => by have e : j = ddb := e; omega)
      replace hS := hG.sub
      clear hT' hm hm2
      (refine S_op ?_; refine W_moveTup (by first | rfl | assumption) ?_; refine S_op ?_; refine W_extract (by first | rfl | assumption) (by rfl) ?_; refine S_op ?_; refine W_extract (by first | rfl | assumption) (by rfl) ?_; refine S_op ?_; refine W_extract (by first | rfl | assumption) (by rfl) ?_)
      (refine S_op (W_alloc hS ?_)); intro w c10b hG' c10h c10; have n_dd_c10 : ddb ≠ c10b := (by have h1 := dd.lt; omega); replace c10h := Nat.le_trans hG.below.size (Nat.le_of_eq c10h); replace hG := hG.trans hG'; replace hS := hG'.sub; replace dd := dd.grow hG'; clear hG'
      skip
      (refine S_op0 (W_storeM (o := 0) (vs := repCells ⟨1, ⟨#[]⟩, false, 0⟩) (by rfl) (by rfl) c10 (by rfl) (OneCells.of_all (by rfl)) (by rfl) (Nat.le_of_ble_eq_true (by rfl)) ?_)); intro w hgb' hm'; replace hG := hG.grownBy hgb' (fun g h => by cases h; exact ⟨c10.out, c10h⟩); replace hS := hG.sub; replace c10 : Mut _ w c10b (repCells ⟨1, ⟨#[]⟩, false, 0⟩) := hm'; clear hm'; replace dd := dd.other hgb' (by intro e2; cases e2; first | exact n_dd_c10 rfl | exact n_c10_dd rfl); clear hgb'
      (refine S_op ?_; refine W_assignBool (by first | rfl | assumption) ?_; refine S_op ?_; refine W_assignInt (by first | rfl | assumption) ?_; refine S_nil ?_; refine CW_seq ?_; refine CW_region rfl ?_; refine S_op ?_; refine W_moveBool (by first | rfl | assumption) ?_; refine S_op ?_; refine W_moveBool (by first | rfl | assumption) ?_; refine S_want (by rfl) ?_; refine W_moveInt (by first | rfl | assumption) ?_; refine S_want (by rfl) ?_; refine W_eqlT (by first | rfl | assumption) (by first | rfl | assumption) (by first | omega | rfl) ?_; refine S_op ?_; refine W_pickT (by first | rfl | assumption) (by first | rfl | assumption) ?_; refine S_op ?_; refine W_moveBool (by first | rfl | assumption) ?_; refine S_want (by rfl) ?_; refine W_loadMAggC (by first | rfl | assumption) (by assumption) (by rfl) (by rfl) ?_; refine S_want (by rfl) ?_; refine W_build (by rfl) ?_)
      refine S_want (by rfl) (W_repEqlB (a := ⟨1, ⟨#[]⟩, false, 0⟩) (c := ⟨1, ⟨#[]⟩, false, 0⟩) (q := true) (by decide) (by rfl) (by rfl) ?_)
      (refine S_op ?_; refine W_pickT (by first | rfl | assumption) (by first | rfl | assumption) ?_; refine S_op ?_; refine W_moveBool (by first | rfl | assumption) ?_; refine S_want (by rfl) ?_; refine W_movePtr (by first | rfl | assumption) ?_)
      refine S_want (by rfl) ?_
      refine W_callW (by rfl) ((pending_c hS dd).mono ?_)
      rintro v w2 ⟨rfl, rfl⟩
      (refine S_want (by rfl) ?_; refine W_not (by first | rfl | assumption) ?_; refine S_op ?_; refine W_pickT (by first | rfl | assumption) (by first | rfl | assumption) ?_; refine S_op ?_; refine W_assignBool (by first | rfl | assumption) ?_; refine S_nil ?_; refine CW_ret ?_)
      exact ⟨_, ResW_one (v := .bool _) rfl, H, hG, rfl⟩
    · have hx0' : ((checkE x : Nat) : Int) ≠ 0 := by omega
      (refine S_op ?_; refine W_callW (by rfl) ((call_no x hS rfl hx0 dd).mono ?_)); rintro v w ⟨H, hG', rfl⟩; replace bx := hG'.le _ _ bx; replace hG := hG.trans hG'; replace hS := hG'.sub; clear hG'
      (refine S_op ?_; refine W_neqT (by first | rfl | assumption) (by first | rfl | assumption) (by first | omega | rfl) ?_; refine S_nil ?_; refine CW_true (by first | rfl | assumption) ?_; refine CW_seq ?_; refine CW_region rfl ?_; refine S_op ?_; refine W_loadWhole (by first | rfl | assumption) (by assumption) (by rfl) (by assumption) ?_)
      (refine S_op ?_; refine W_call hS (by rfl) (rCheck_c H x) ?_); rintro v H w hG' rfl; replace hG := hG.trans hG'; replace hS := hG'.sub; clear hG'
      (refine S_op ?_; refine W_neqT (by first | rfl | assumption) (by first | rfl | assumption) (by first | omega | rfl) ?_; refine S_op ?_; refine W_assignBool (by first | rfl | assumption) ?_; refine S_nil ?_; refine CW_ret ?_)
      exact ⟨_, ResW_one (v := .bool _) rfl, H, hG, rfl⟩
end Go.Proofs.Ytglhnfficliaoaa
