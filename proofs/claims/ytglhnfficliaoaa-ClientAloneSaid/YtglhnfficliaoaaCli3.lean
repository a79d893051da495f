/- client.Client: ends, looked, Step. Conditions: sizes. -/
import Derived.Test.YtglhnfficliaoaaCli2
import Derived.Test.YtglhnfficliaoaaMemTr
namespace Go.Proofs.Ytglhnfficliaoaa
open Go.Proofs Go.RowKit
set_option linter.unusedVariables false
attribute [local irreducible] CW CWD SeqW OpW
set_option maxHeartbeats 4000000
def endK (k : Cl) : Cl := { k with stage := 0, old := none, new := none }
/-- Where a client goes on, and what it tells. -/
def lookedK (k : Cl) : Cl × Rep4 × Bool :=
  if 0 < k.left then ({ k with stage := 2 }, rep0, false) else if sameT k.new k.old = true then (endK k, k.rep, true) else ({ k with stage := 3 }, rep0, false)
theorem path_len {H : HF} {t : Tr} (key : ByteArray) (ht : Tr.At H t) (hh : t.height ≤ 1000000) : Fn Try.prog 44 [t.val, .string key] H fun v _ => ∃ A c, v = .slice A t.height c := by
  cases t with
  | none => exact (path_nil H key).mono fun v H' _ hv => ⟨none, 0, hv⟩
  | some x =>
    refine (path_c H x.1 x.2 key ht (by have : x.1 + 1 ≤ 1000000 := hh; omega)).mono ?_
    rintro v H' _ ⟨A, c, rfl, _⟩
    exact ⟨A, c, rfl⟩
section
variable {H : HF} {w : World} {ccb : Nat} {M : Value} {k : Cl}
theorem cliEnds_c (q : Rep4) (hS : Sub H w) (cc : CliAt H w ccb M k) : CallW Try.prog 42 [.pointer (some ⟨ccb, 0, none⟩), .agg (repCells q).toArray].toArray w fun v w' => ∃ H', Turn (fun j => j = ccb) H w H' w' ∧ v = .tuple #[.agg (repCells q).toArray, .bool true, .int .i64 0] ∧ CliAt H' w' ccb M (endK k) := by
  obtain ⟨q1, q2, q3, q4⟩ := q
  simp only [repCells]
  obtain ⟨w0, rfl⟩ : ∃ w0, w0 = w := ⟨_, rfl⟩
  refine CallW_of_CW Try.func42 rfl Try.ntmps42 Try.results42 rfl ?_
  have hG := Grow.refl hS
  (refine CW_seq ?_; refine CW_region rfl ?_)
  (refine S_op (W_boxAgg hS (by rfl) ?_)); intro H w _ hG' hx; replace hG := hG.trans hG'; replace hS := hG'.sub; replace cc := cc.grow hG'; clear hG'
  skip
  (refine S_op (W_alloc hS ?_)); intro w c4b hG' c4h c4; have n_cc_c4 : ccb ≠ c4b := (by have h1 := cc.lt; omega); replace c4h := Nat.le_trans hG.below.size (Nat.le_of_eq c4h); replace hG := hG.trans hG'; replace hS := hG'.sub; replace cc := cc.grow hG'; clear hG'
  have hT := hG.turn (S := fun j => j = ccb)
  have hbn := n_cc_c4
  replace cc := cc.mut
  clear hG
  (refine S_op ?_; refine W_assignBool (by first | rfl | assumption) ?_; refine S_op ?_; refine W_assignInt (by first | rfl | assumption) ?_; refine S_nil ?_; refine CW_seq ?_; refine CW_region rfl ?_; refine S_op ?_; refine W_movePtr (by first | rfl | assumption) ?_; refine S_op ?_; refine W_movePtr (by first | rfl | assumption) ?_; refine S_op ?_; refine W_movePtr (by first | rfl | assumption) ?_; refine S_op ?_; refine W_nilCheck (by first | rfl | assumption) ?_; refine S_op ?_; refine W_field (by first | rfl | assumption) ?_)
  (refine S_op0 (W_storeM (o := 4) (vs := [.int .i64 0]) (by rfl) (by rfl) cc (by rfl) (OneCells.of_all (by rfl)) (by rfl) (Nat.le_of_ble_eq_true (by rfl)) ?_)); intro w hgb' hm'; replace hT := hT.grownBy hgb' (fun g h => by cases h; exact ⟨cc.out, .inr rfl⟩); replace hS := hT.sub; replace c4 := c4.other hgb' (by intro e2; cases e2; first | exact n_c4_cc rfl | exact n_cc_c4 rfl); replace cc := hm'; clear hm' hgb'
  (refine S_op ?_; refine W_nilCheck (by first | rfl | assumption) ?_; refine S_op ?_; refine W_field (by first | rfl | assumption) ?_)
  (refine S_op0 (W_storeM (o := 6) (vs := [.pointer none]) (by rfl) (by rfl) cc (by rfl) (OneCells.of_all (by rfl)) (by rfl) (Nat.le_of_ble_eq_true (by rfl)) ?_)); intro w hgb' hm'; replace hT := hT.grownBy hgb' (fun g h => by cases h; exact ⟨cc.out, .inr rfl⟩); replace hS := hT.sub; replace c4 := c4.other hgb' (by intro e2; cases e2; first | exact n_c4_cc rfl | exact n_cc_c4 rfl); replace cc := hm'; clear hm' hgb'
  (refine S_op ?_; refine W_nilCheck (by first | rfl | assumption) ?_; refine S_op ?_; refine W_field (by first | rfl | assumption) ?_)
  (refine S_op0 (W_storeM (o := 7) (vs := [.pointer none]) (by rfl) (by rfl) cc (by rfl) (OneCells.of_all (by rfl)) (by rfl) (Nat.le_of_ble_eq_true (by rfl)) ?_)); intro w hgb' hm'; replace hT := hT.grownBy hgb' (fun g h => by cases h; exact ⟨cc.out, .inr rfl⟩); replace hS := hT.sub; replace c4 := c4.other hgb' (by intro e2; cases e2; first | exact n_c4_cc rfl | exact n_cc_c4 rfl); replace cc := hm'; clear hm' hgb'
  (refine S_nil ?_; refine CW_seq ?_; refine CW_region rfl ?_; refine S_op ?_; refine W_loadWhole (by first | rfl | assumption) (by assumption) (by rfl) (by assumption) ?_)
  (refine S_op0 (W_storeM (o := 0) (vs := [.int .i64 q1, .string q2, .bool q3, .int .i64 q4]) (by rfl) (by rfl) c4 (by rfl) (OneCells.of_all (by rfl)) (by rfl) (Nat.le_of_ble_eq_true (by rfl)) ?_)); intro w hgb' hm'; replace hT := hT.grownBy hgb' (fun g h => by cases h; exact ⟨c4.out, .inl c4h⟩); replace hS := hT.sub; replace cc := cc.other hgb' (by intro e2; cases e2; first | exact n_cc_c4 rfl | exact n_c4_cc rfl); replace c4 := hm'; clear hm' hgb'
  (refine S_op ?_; refine W_assignBool (by first | rfl | assumption) ?_; refine S_op ?_; refine W_assignInt (by first | rfl | assumption) ?_; refine S_nil ?_; refine CW_ret ?_)
  exact ⟨_, ResW_v3 (v2 := .bool _) (v3 := .int _ _) (RV_cell rfl c4 rfl) rfl rfl, H, hT, rfl, cc⟩
theorem looked_c (hS : Sub H w) (ho : Tr.At H k.old) (hn : Tr.At H k.new) (cc : CliAt H w ccb M k) : CallW Try.prog 45 [.pointer (some ⟨ccb, 0, none⟩)].toArray w fun v w' => ∃ H', Turn (fun j => j = ccb) H w H' w' ∧ v = .tuple #[.agg (repCells (lookedK k).2.1).toArray, .bool (lookedK k).2.2, .int .i64 0] ∧ CliAt H' w' ccb M (lookedK k).1 := by
  obtain ⟨w0, rfl⟩ : ∃ w0, w0 = w := ⟨_, rfl⟩
  refine CallW_of_CW Try.func45 rfl Try.ntmps45 Try.results45 rfl ?_
  have hG := Grow.refl hS
  (refine CW_seq ?_; refine CW_region rfl ?_)
  (refine S_op (W_alloc hS ?_)); intro w c2b hG' c2h c2; have n_cc_c2 : ccb ≠ c2b := (by have h1 := cc.lt; omega); replace c2h := Nat.le_trans hG.below.size (Nat.le_of_eq c2h); replace hG := hG.trans hG'; replace hS := hG'.sub; replace cc := cc.grow hG'; clear hG'
  have hT := hG.turn (S := fun j => j = ccb)
  have cc' := cc
  replace cc := cc.mut
  clear hG
  by_cases hl : 0 < k.left
  · rw [show lookedK k = ({ k with stage := 2 }, rep0, false) by simp [lookedK, hl]]
    (refine S_op ?_; refine W_assignBool (by first | rfl | assumption) ?_; refine S_op ?_; refine W_assignInt (by first | rfl | assumption) ?_; refine S_nil ?_; refine CW_seq ?_; refine CW_block ?_; refine CW_seq ?_; refine CW_region rfl ?_; refine S_op ?_; refine W_movePtr (by first | rfl | assumption) ?_; refine S_op ?_; refine W_nilCheck (by first | rfl | assumption) ?_; refine S_op ?_; refine W_field (by first | rfl | assumption) ?_; refine S_op ?_; refine W_loadM (by first | rfl | assumption) (by assumption) (by rfl) ?_; refine S_op ?_; refine W_gtrT (by first | rfl | assumption) (by first | rfl | assumption) (by first | omega | rfl) ?_; refine S_op ?_; refine W_assignBool (by first | rfl | assumption) ?_; refine S_nil ?_; refine CW_true (by first | rfl | assumption) ?_; refine CW_region rfl ?_; refine S_op ?_; refine W_movePtr (by first | rfl | assumption) ?_; refine S_op ?_; refine W_nilCheck (by first | rfl | assumption) ?_; refine S_op ?_; refine W_field (by first | rfl | assumption) ?_)
    (refine S_op0 (W_storeM (o := 4) (vs := [.int .i64 2]) (by rfl) (by rfl) cc (by rfl) (OneCells.of_all (by rfl)) (by rfl) (Nat.le_of_ble_eq_true (by rfl)) ?_)); intro w hgb' hm'; replace hT := hT.grownBy hgb' (fun g h => by cases h; exact ⟨cc.out, .inr rfl⟩); replace hS := hT.sub; replace c2 := c2.other hgb' (by intro e2; cases e2; first | exact n_c2_cc rfl | exact n_cc_c2 rfl); replace cc := hm'; clear hm' hgb'
    (refine S_nil ?_; refine CW_seq ?_; refine CW_region rfl ?_; refine S_op ?_; refine W_build (by rfl) ?_)
    (refine S_op0 (W_storeM (o := 0) (vs := [.int .i64 0, .string ⟨#[]⟩, .bool false, .int .i64 0]) (by rfl) (by rfl) c2 (by rfl) (OneCells.of_all (by rfl)) (by rfl) (Nat.le_of_ble_eq_true (by rfl)) ?_)); intro w hgb' hm'; replace hT := hT.grownBy hgb' (fun g h => by cases h; exact ⟨c2.out, .inl c2h⟩); replace hS := hT.sub; replace cc := cc.other hgb' (by intro e2; cases e2; first | exact n_cc_c2 rfl | exact n_c2_cc rfl); replace c2 := hm'; clear hm' hgb'
    (refine S_op ?_; refine W_assignBool (by first | rfl | assumption) ?_; refine S_op ?_; refine W_assignInt (by first | rfl | assumption) ?_; refine S_nil ?_; refine CW_ret ?_)
    exact ⟨_, ResW_v3 (v2 := .bool _) (v3 := .int _ _) (RV_cell rfl c2 rfl) rfl rfl, H, hT, rfl, cc⟩
  · (refine S_op ?_; refine W_assignBool (by first | rfl | assumption) ?_; refine S_op ?_; refine W_assignInt (by first | rfl | assumption) ?_; refine S_nil ?_; refine CW_seq ?_; refine CW_block ?_; refine CW_seq ?_; refine CW_region rfl ?_; refine S_op ?_; refine W_movePtr (by first | rfl | assumption) ?_; refine S_op ?_; refine W_nilCheck (by first | rfl | assumption) ?_; refine S_op ?_; refine W_field (by first | rfl | assumption) ?_; refine S_op ?_; refine W_loadM (by first | rfl | assumption) (by assumption) (by rfl) ?_; refine S_op ?_; refine W_gtrF (by first | rfl | assumption) (by first | rfl | assumption) (by first | omega | rfl) ?_; refine S_op ?_; refine W_assignBool (by first | rfl | assumption) ?_; refine S_nil ?_; refine CW_false (by first | rfl | assumption) ?_; refine CW_seq ?_)
    have hS9 := hS
    apply CW_region_grow [_, _, _, _, _, _, _, _, _, _] [none, none, none, none, none, none, none, none, none, none] [some 18, some 19, some 20, some 21, some 22, some 23, some 24, some 25, some 26, some 17] [18, 19, 20, 21, 22, 23, 24, 25, 26, 17] mixed rfl rfl rfl rfl (by decide) rfl (by assumption)
    · ((apply steps_cons; case h1 => (apply A_pure; intro c u H' w' hG; have hS' := hG.sub; have hS2' := hG.subOld; have hM0 := (cc).grow hG; (repeat (first | refine depGo_eq rfl rfl rfl ?_ | (refine depGo_fact rfl rfl rfl ?_; intro v hv) | refine depGo_skip rfl ?_ | refine depGo_none rfl ?_)); apply Pure1.mk; intro K hk; exact W_movePtr (by first | rfl | assumption) hk)); (apply steps_cons; case h1 => (apply A_pure; intro c u H' w' hG; have hS' := hG.sub; have hS2' := hG.subOld; have hM0 := (cc).grow hG; (repeat (first | refine depGo_eq rfl rfl rfl ?_ | (refine depGo_fact rfl rfl rfl ?_; intro v hv) | refine depGo_skip rfl ?_ | refine depGo_none rfl ?_)); apply Pure1.mk; intro K hk; exact W_nilCheck (by first | rfl | assumption) hk)); (apply steps_cons; case h1 => (apply A_pure; intro c u H' w' hG; have hS' := hG.sub; have hS2' := hG.subOld; have hM0 := (cc).grow hG; (repeat (first | refine depGo_eq rfl rfl rfl ?_ | (refine depGo_fact rfl rfl rfl ?_; intro v hv) | refine depGo_skip rfl ?_ | refine depGo_none rfl ?_)); apply Pure1.mk; intro K hk; exact W_field (by first | rfl | assumption) hk)); (apply steps_cons; case h1 => (apply A_pure; intro c u H' w' hG; have hS' := hG.sub; have hS2' := hG.subOld; have hM0 := (cc).grow hG; (repeat (first | refine depGo_eq rfl rfl rfl ?_ | (refine depGo_fact rfl rfl rfl ?_; intro v hv) | refine depGo_skip rfl ?_ | refine depGo_none rfl ?_)); apply Pure1.mk; intro K hk; exact W_loadM (by first | rfl | assumption) (by assumption) (by rfl) hk)); (apply steps_cons; case h1 => (apply A_pure; intro c u H' w' hG; have hS' := hG.sub; have hS2' := hG.subOld; have hM0 := (cc).grow hG; (repeat (first | refine depGo_eq rfl rfl rfl ?_ | (refine depGo_fact rfl rfl rfl ?_; intro v hv) | refine depGo_skip rfl ?_ | refine depGo_none rfl ?_)); apply Pure1.mk; intro K hk; exact W_movePtr (by first | rfl | assumption) hk)); (apply steps_cons; case h1 => (apply A_pure; intro c u H' w' hG; have hS' := hG.sub; have hS2' := hG.subOld; have hM0 := (cc).grow hG; (repeat (first | refine depGo_eq rfl rfl rfl ?_ | (refine depGo_fact rfl rfl rfl ?_; intro v hv) | refine depGo_skip rfl ?_ | refine depGo_none rfl ?_)); apply Pure1.mk; intro K hk; exact W_nilCheck (by first | rfl | assumption) hk)); (apply steps_cons; case h1 => (apply A_pure; intro c u H' w' hG; have hS' := hG.sub; have hS2' := hG.subOld; have hM0 := (cc).grow hG; (repeat (first | refine depGo_eq rfl rfl rfl ?_ | (refine depGo_fact rfl rfl rfl ?_; intro v hv) | refine depGo_skip rfl ?_ | refine depGo_none rfl ?_)); apply Pure1.mk; intro K hk; exact W_field (by first | rfl | assumption) hk)); (apply steps_cons; case h1 => (apply A_pure; intro c u H' w' hG; have hS' := hG.sub; have hS2' := hG.subOld; have hM0 := (cc).grow hG; (repeat (first | refine depGo_eq rfl rfl rfl ?_ | (refine depGo_fact rfl rfl rfl ?_; intro v hv) | refine depGo_skip rfl ?_ | refine depGo_none rfl ?_)); apply Pure1.mk; intro K hk; exact W_loadM (by first | rfl | assumption) (by assumption) (by rfl) hk)))
      (apply steps_cons; case h1 => (apply A_pure; intro c u H' w' hG; have hS' := hG.sub; have hS2' := hG.subOld; (repeat (first | refine depGo_eq rfl rfl rfl ?_ | (refine depGo_fact rfl rfl rfl ?_; intro v hv) | refine depGo_skip rfl ?_ | refine depGo_none rfl ?_)); apply Pure1.mk; intro K hk; exact W_trEql (s := k.new) (t := k.old) (by rfl) (by rfl) (hn.mono hG.le) (ho.mono hG.le) hS' hk))
      ((apply steps_cons; case h1 => (apply A_pure; intro c u H' w' hG; have hS' := hG.sub; have hS2' := hG.subOld; have hM0 := (cc).grow hG; (repeat (first | refine depGo_eq rfl rfl rfl ?_ | (refine depGo_fact rfl rfl rfl ?_; intro v hv) | refine depGo_skip rfl ?_ | refine depGo_none rfl ?_)); apply Pure1.mk; intro K hk; exact W_assignBool (by first | rfl | assumption) hk)); exact trivial)
    · (intro H' w' hG; (repeat (first | refine fin_eq rfl rfl ?_ | (refine fin_fact rfl ?_; intro v hv) | refine fin_none rfl ?_)); refine fin_nil ?_)
      replace hT := hT.trans hG.turn
      replace cc := cc.grow hG
      replace cc' := cc'.grow hG
      replace c2 := c2.grow hG
      replace hS := hG.sub
      clear hG hS9
      obtain ⟨H, rfl⟩ : ∃ H, H = H' := ⟨_, rfl⟩
      obtain ⟨w, rfl⟩ : ∃ w, w = w' := ⟨_, rfl⟩
      cases hs : sameT k.new k.old with
      | true =>
        rw [show lookedK k = (endK k, k.rep, true) by simp [lookedK, hl, hs]]
        (refine CW_true (by first | rfl | assumption) ?_; refine CW_seq ?_; refine CW_region rfl ?_; refine S_op ?_; refine W_movePtr (by first | rfl | assumption) ?_; refine S_op ?_; refine W_movePtr (by first | rfl | assumption) ?_; refine S_op ?_; refine W_nilCheck (by first | rfl | assumption) ?_; refine S_op ?_; refine W_field (by first | rfl | assumption) ?_; refine S_op ?_; refine W_loadMAggC (by first | rfl | assumption) (by assumption) (by rfl) (by rfl) ?_)
        refine S_op ?_
        refine W_callW (by rfl) ((cliEnds_c k.rep hS cc').mono ?_)
        rintro v w ⟨H, hT', rfl, cc⟩
        replace c2 := c2.turn hT' (fun e => n_cc_c2 e.symm)
        replace hT := hT.trans hT'
        replace hS := hT.sub
        (refine S_op ?_; refine W_extract (by first | rfl | assumption) (by rfl) ?_; refine S_op ?_; refine W_extract (by first | rfl | assumption) (by rfl) ?_; refine S_op ?_; refine W_extract (by first | rfl | assumption) (by rfl) ?_)
        (refine S_op0 (W_storeM (o := 0) (vs := repCells k.rep) (by rfl) (by rfl) c2 (by rfl) (OneCells.of_all (by rfl)) (by rfl) (Nat.le_of_ble_eq_true (by rfl)) ?_)); intro w hgb' hm'; replace hT := hT.grownBy hgb' (fun g h => by cases h; exact ⟨c2.out, .inl c2h⟩); replace hS := hT.sub; replace cc := cc.other hgb' (by intro e2; cases e2; first | exact n_cc_c2 rfl | exact n_c2_cc rfl); replace c2 := hm'; clear hm' hgb'
        (refine S_op ?_; refine W_assignBool (by first | rfl | assumption) ?_; refine S_op ?_; refine W_assignInt (by first | rfl | assumption) ?_; refine S_nil ?_; refine CW_ret ?_)
        exact ⟨_, ResW_v3 (v2 := .bool _) (v3 := .int _ _) (RV_cell rfl c2 rfl) rfl rfl, H, hT, rfl, cc⟩
      | false =>
        rw [show lookedK k = ({ k with stage := 3 }, rep0, false) by simp [lookedK, hl, hs]]
        (refine CW_false (by first | rfl | assumption) ?_; refine CW_region rfl ?_; refine S_op ?_; refine W_movePtr (by first | rfl | assumption) ?_; refine S_op ?_; refine W_nilCheck (by first | rfl | assumption) ?_; refine S_op ?_; refine W_field (by first | rfl | assumption) ?_)
        (refine S_op0 (W_storeM (o := 4) (vs := [.int .i64 3]) (by rfl) (by rfl) cc (by rfl) (OneCells.of_all (by rfl)) (by rfl) (Nat.le_of_ble_eq_true (by rfl)) ?_)); intro w hgb' hm'; replace hT := hT.grownBy hgb' (fun g h => by cases h; exact ⟨cc.out, .inr rfl⟩); replace hS := hT.sub; replace c2 := c2.other hgb' (by intro e2; cases e2; first | exact n_c2_cc rfl | exact n_cc_c2 rfl); replace cc := hm'; clear hm' hgb'
        (refine S_nil ?_; refine CW_seq ?_; refine CW_region rfl ?_; refine S_op ?_; refine W_build (by rfl) ?_)
        (refine S_op0 (W_storeM (o := 0) (vs := [.int .i64 0, .string ⟨#[]⟩, .bool false, .int .i64 0]) (by rfl) (by rfl) c2 (by rfl) (OneCells.of_all (by rfl)) (by rfl) (Nat.le_of_ble_eq_true (by rfl)) ?_)); intro w hgb' hm'; replace hT := hT.grownBy hgb' (fun g h => by cases h; exact ⟨c2.out, .inl c2h⟩); replace hS := hT.sub; replace cc := cc.other hgb' (by intro e2; cases e2; first | exact n_cc_c2 rfl | exact n_c2_cc rfl); replace c2 := hm'; clear hm' hgb'
        (refine S_op ?_; refine W_assignBool (by first | rfl | assumption) ?_; refine S_op ?_; refine W_assignInt (by first | rfl | assumption) ?_; refine S_nil ?_; refine CW_ret ?_)
        exact ⟨_, ResW_v3 (v2 := .bool _) (v3 := .int _ _) (RV_cell rfl c2 rfl) rfl rfl, H, hT, rfl, cc⟩
end
/-! ### Step -/
theorem step_no {H : HF} {w : World} (h0 : H = H) (hS : Sub H w) : CallW Try.prog 18 [.pointer none].toArray w fun v w' => ∃ H', Grow H w H' w' ∧ v = .tuple #[.agg (repCells rep0).toArray, .bool false, .int .i64 10] := by
  refine CallW_of_CW Try.func18 rfl Try.ntmps18 Try.results18 rfl ?_
  have hG := Grow.refl hS
  (refine CW_seq ?_; refine CW_region rfl ?_)
  (refine S_op (W_alloc hS ?_)); intro w c2b hG' c2h c2; replace c2h := Nat.le_trans hG.below.size (Nat.le_of_eq c2h); replace hG := hG.trans hG'; replace hS := hG'.sub; clear hG'
  (refine S_op ?_; refine W_assignBool (by first | rfl | assumption) ?_; refine S_op ?_; refine W_assignInt (by first | rfl | assumption) ?_; refine S_nil ?_; refine CW_seq ?_; refine CW_seq ?_; refine CW_region rfl ?_; refine S_op ?_; refine W_movePtr (by first | rfl | assumption) ?_)
  refine S_op ?_
  refine W_callW (by rfl) ((pending_nil _).mono ?_)
  rintro v w2 ⟨rfl, rfl⟩
  (refine S_op ?_; refine W_not (by first | rfl | assumption) ?_; refine S_nil ?_; refine CW_true (by first | rfl | assumption) ?_; refine CW_seq ?_; refine CW_region rfl ?_; refine S_op ?_; refine W_build (by rfl) ?_)
  (refine S_op0 (W_storeM (o := 0) (vs := [.int .i64 0, .string ⟨#[]⟩, .bool false, .int .i64 0]) (by rfl) (by rfl) c2 (by rfl) (OneCells.of_all (by rfl)) (by rfl) (Nat.le_of_ble_eq_true (by rfl)) ?_)); intro w hgb' hm'; replace hG := hG.grownBy hgb' (fun g h => by cases h; exact ⟨c2.out, c2h⟩); replace hS := hG.sub; replace c2 : Mut _ w c2b ([.int .i64 0, .string ⟨#[]⟩, .bool false, .int .i64 0]) := hm'; clear hm'; clear hgb'
  (refine S_op ?_; refine W_assignBool (by first | rfl | assumption) ?_; refine S_op ?_; refine W_assignInt (by first | rfl | assumption) ?_; refine S_nil ?_; refine CW_ret ?_)
  exact ⟨_, ResW_v3 (v2 := .bool _) (v3 := .int _ _) (RV_cell rfl c2 rfl) rfl rfl, H, hG, rfl⟩
theorem step_idle {H : HF} {w : World} {ccb : Nat} {M : Value} {k : Cl} (hS : Sub H w) (hk : k.stage = 0) (cc : CliAt H w ccb M k) : CallW Try.prog 18 [.pointer (some ⟨ccb, 0, none⟩)].toArray w fun v w' => ∃ H', Grow H w H' w' ∧ v = .tuple #[.agg (repCells rep0).toArray, .bool false, .int .i64 10] := by
  refine CallW_of_CW Try.func18 rfl Try.ntmps18 Try.results18 rfl ?_
  have hG := Grow.refl hS
  (refine CW_seq ?_; refine CW_region rfl ?_)
  (refine S_op (W_alloc hS ?_)); intro w c2b hG' c2h c2; have n_cc_c2 : ccb ≠ c2b := (by have h1 := cc.lt; omega); replace c2h := Nat.le_trans hG.below.size (Nat.le_of_eq c2h); replace hG := hG.trans hG'; replace hS := hG'.sub; replace cc := cc.grow hG'; clear hG'
  (refine S_op ?_; refine W_assignBool (by first | rfl | assumption) ?_; refine S_op ?_; refine W_assignInt (by first | rfl | assumption) ?_; refine S_nil ?_; refine CW_seq ?_; refine CW_seq ?_; refine CW_region rfl ?_; refine S_op ?_; refine W_movePtr (by first | rfl | assumption) ?_)
  refine S_op ?_
  refine W_callW (by rfl) ((pending_c hS cc).mono ?_)
  rintro v w2 ⟨rfl, rfl⟩
  rw [show decide (k.stage ≠ 0) = false by simp [hk]]
  (refine S_op ?_; refine W_not (by first | rfl | assumption) ?_; refine S_nil ?_; refine CW_true (by first | rfl | assumption) ?_; refine CW_seq ?_; refine CW_region rfl ?_; refine S_op ?_; refine W_build (by rfl) ?_)
  (refine S_op0 (W_storeM (o := 0) (vs := [.int .i64 0, .string ⟨#[]⟩, .bool false, .int .i64 0]) (by rfl) (by rfl) c2 (by rfl) (OneCells.of_all (by rfl)) (by rfl) (Nat.le_of_ble_eq_true (by rfl)) ?_)); intro w hgb' hm'; replace hG := hG.grownBy hgb' (fun g h => by cases h; exact ⟨c2.out, c2h⟩); replace hS := hG.sub; replace c2 : Mut _ w c2b ([.int .i64 0, .string ⟨#[]⟩, .bool false, .int .i64 0]) := hm'; clear hm'; clear hgb'
  (refine S_op ?_; refine W_assignBool (by first | rfl | assumption) ?_; refine S_op ?_; refine W_assignInt (by first | rfl | assumption) ?_; refine S_nil ?_; refine CW_ret ?_)
  exact ⟨_, ResW_v3 (v2 := .bool _) (v3 := .int _ _) (RV_cell rfl c2 rfl) rfl rfl, H, hG, rfl⟩
section
variable {H : HF} {w : World} {ccb mb : Nat} {A : Option Addr} {k : Cl} {t : Tr} {s c : Nat}
/-- What Step turns. -/
def stepS (b mb : Nat) (A : Option Addr) : Nat → Prop := fun j => j = b ∨ memS mb A j
theorem mem_lt (hm : IsMem H w mb A [t.val] s c) : ∀ j, memS mb A j → j < w.heap.size := by
  rintro j (rfl | ⟨a, rfl, rfl⟩)
  · exact hm.cell.lt
  · rcases hm.words with ⟨h, _⟩ | ⟨g, h, _, h2⟩
    · cases h
    · cases h; exact h2.lt
/-- It loads. -/
theorem step_load (hS : Sub H w) (hk : k.stage = 1) (cc : CliAt H w ccb (.pointer (some ⟨mb, 0, none⟩)) k) (hm : IsMem H w mb A ([t].map Tr.val) s c) (hb : ¬ memS mb A ccb) (hs : s ≤ 1000000000) (ht : TreeAt H t) (hti : t.items.length ≤ 800000) (hx : checkE k.x = 0) :
    CallW Try.prog 18 [.pointer (some ⟨ccb, 0, none⟩)].toArray w fun v w' => ∃ H' n, Turn (stepS ccb mb A) H w H' w' ∧ MadeOf H' t k.x n ∧ TreeAt H' t ∧ IsMem H' w' mb A ([t].map Tr.val) (s + 1) c ∧
      CliAt H' w' ccb (.pointer (some ⟨mb, 0, none⟩)) (lookedK { k with old := t, new := n, left := t.height, rep := doesR t.items k.x }).1 ∧
      v = .tuple #[.agg (repCells (lookedK { k with old := t, new := n, left := t.height, rep := doesR t.items k.x }).2.1).toArray, .bool (lookedK { k with old := t, new := n, left := t.height, rep := doesR t.items k.x }).2.2, .int .i64 0] := by
  have hml := mem_lt (t := t) hm
  have hk' : k.stage ≠ 0 := by omega
  have hh : t.height ≤ 800000 := Nat.le_trans ht.height hti
  obtain ⟨w0, rfl⟩ : ∃ w0, w0 = w := ⟨_, rfl⟩
  refine CallW_of_CW Try.func18 rfl Try.ntmps18 Try.results18 rfl ?_
  have hG := Grow.refl hS
  (refine CW_seq ?_; refine CW_region rfl ?_)
  (refine S_op (W_alloc hS ?_)); intro w c2b hG' c2h c2; have n_cc_c2 : ccb ≠ c2b := (by have h1 := cc.lt; omega); replace c2h := Nat.le_trans hG.below.size (Nat.le_of_eq c2h); replace hG := hG.trans hG'; replace hS := hG'.sub; replace cc := cc.grow hG'; clear hG'
  (refine S_op ?_; refine W_assignBool (by first | rfl | assumption) ?_; refine S_op ?_; refine W_assignInt (by first | rfl | assumption) ?_; refine S_nil ?_; refine CW_seq ?_; refine CW_seq ?_; refine CW_region rfl ?_; refine S_op ?_; refine W_movePtr (by first | rfl | assumption) ?_)
  refine S_op ?_
  refine W_callW (by rfl) ((pending_c hS cc).mono ?_)
  rintro v w2 ⟨rfl, rfl⟩
  rw [show decide (k.stage ≠ 0) = true by simp [hk']]
  have cc' := cc
  replace cc := cc.mut
  (refine S_op ?_; refine W_not (by first | rfl | assumption) ?_; refine S_nil ?_; refine CW_false (by first | rfl | assumption) ?_; refine CW_skip ?_; refine CW_seq ?_; refine CW_seq ?_; refine CW_region rfl ?_; refine S_op ?_; refine W_movePtr (by first | rfl | assumption) ?_; refine S_op ?_; refine W_nilCheck (by first | rfl | assumption) ?_; refine S_op ?_; refine W_field (by first | rfl | assumption) ?_; refine S_op ?_; refine W_loadM (by first | rfl | assumption) (by assumption) (by rfl) ?_; refine S_nil ?_; refine CW_block ?_; refine CW_seq ?_; refine CW_region rfl ?_; refine S_op ?_; refine W_eqlT (by first | rfl | assumption) (by first | rfl | assumption) (by first | omega | rfl) ?_; refine S_op ?_; refine W_assignBool (by first | rfl | assumption) ?_; refine S_nil ?_; refine CW_true (by first | rfl | assumption) ?_; refine CW_seq ?_; refine CW_region rfl ?_; refine S_op ?_; refine W_movePtr (by first | rfl | assumption) ?_; refine S_op ?_; refine W_nilCheck (by first | rfl | assumption) ?_; refine S_op ?_; refine W_field (by first | rfl | assumption) ?_; refine S_op ?_; refine W_loadM (by first | rfl | assumption) (by assumption) (by rfl) ?_)
  replace hm := hm.grow hG
  have hT1 := hG.turn (S := stepS ccb mb A)
  clear hG
  refine S_op ?_
  refine W_callW (by rfl) ((load_yes_Tr (q := 0) hS hm (by simp) hs).mono ?_)
  rintro v w ⟨rfl, hT', hm⟩
  replace cc := cc.turn hT' hb
  replace c2 := c2.turn hT' (fun e => by have := hml _ e; omega)
  replace hT1 := hT1.trans (hT'.wider fun j _ h => .inr h)
  replace hS := hT1.sub
  clear hT' cc'
  rw [show nth [t] 0 = t from rfl]
  have hT := Turn.refl (S := fun j => j = ccb ∨ j = c2b) hS
  (refine S_op ?_; refine W_moveTup (by first | rfl | assumption) ?_; refine S_op ?_; refine W_extract (by first | rfl | assumption) (by rfl) ?_; refine S_op ?_; refine W_extract (by first | rfl | assumption) (by rfl) ?_; refine S_op ?_; refine W_assignPtr (by first | rfl | assumption) ?_; refine S_op ?_; refine W_assignInt (by first | rfl | assumption) ?_; refine S_nil ?_; refine CW_seq ?_; refine CW_seq ?_; refine CW_region rfl ?_; refine S_op ?_; refine W_moveInt (by first | rfl | assumption) ?_; refine S_op ?_; refine W_neqF (by first | rfl | assumption) (by first | rfl | assumption) (by first | omega | rfl) ?_; refine S_nil ?_; refine CW_false (by first | rfl | assumption) ?_; refine CW_skip ?_; refine CW_seq ?_; refine CW_region rfl ?_; refine S_op ?_; refine W_movePtr (by first | rfl | assumption) ?_; refine S_op ?_; refine W_movePtr (by first | rfl | assumption) ?_; refine S_op ?_; refine W_nilCheck (by first | rfl | assumption) ?_; refine S_op ?_; refine W_field (by first | rfl | assumption) ?_)
  (refine S_op0 (W_storeM (o := 6) (vs := [t.val]) (by rfl) (by rfl) cc (by rfl) (OneCells.of_all (by rfl)) (by rfl) (Nat.le_of_ble_eq_true (by rfl)) ?_)); intro w hgb' hm'; replace hT := hT.grownBy hgb' (fun g h => by cases h; exact ⟨cc.out, .inr (.inl rfl)⟩); replace hS := hT.sub; replace c2 := c2.other hgb' (by intro e2; cases e2; first | exact n_c2_cc rfl | exact n_cc_c2 rfl); replace cc := hm'; clear hm' hgb'
  (refine S_nil ?_; refine CW_seq ?_; refine CW_region rfl ?_; refine S_op ?_; refine W_movePtr (by first | rfl | assumption) ?_; refine S_op ?_; refine W_movePtr (by first | rfl | assumption) ?_; refine S_op ?_; refine W_movePtr (by first | rfl | assumption) ?_; refine S_op ?_; refine W_movePtr (by first | rfl | assumption) ?_; refine S_op ?_; refine W_nilCheck (by first | rfl | assumption) ?_; refine S_op ?_; refine W_field (by first | rfl | assumption) ?_; refine S_op ?_; refine W_loadMAggC (by first | rfl | assumption) (by assumption) (by rfl) (by rfl) ?_)
  (refine S_op ?_; refine W_call hS (by rfl) (makes_c H t k.x ht hti hx) ?_); rintro v H w hG' ⟨n, rfl, hn⟩; replace hT := hT.trans hG'.turn; replace hS := hG'.sub; replace ht := ht.mono hG'.le; replace cc := cc.grow hG'; replace c2 := c2.grow hG'; clear hG'
  (refine S_op ?_; refine W_moveTup (by first | rfl | assumption) ?_; refine S_op ?_; refine W_extract (by first | rfl | assumption) (by rfl) ?_; refine S_op ?_; refine W_extract (by first | rfl | assumption) (by rfl) ?_; refine S_op ?_; refine W_nilCheck (by first | rfl | assumption) ?_; refine S_op ?_; refine W_field (by first | rfl | assumption) ?_)
  (refine S_op0 (W_storeM (o := 7) (vs := [n.val]) (by rfl) (by rfl) cc (by rfl) (OneCells.of_all (by rfl)) (by rfl) (Nat.le_of_ble_eq_true (by rfl)) ?_)); intro w hgb' hm'; replace hT := hT.grownBy hgb' (fun g h => by cases h; exact ⟨cc.out, .inr (.inl rfl)⟩); replace hS := hT.sub; replace c2 := c2.other hgb' (by intro e2; cases e2; first | exact n_c2_cc rfl | exact n_cc_c2 rfl); replace cc := hm'; clear hm' hgb'
  (refine S_op ?_; refine W_nilCheck (by first | rfl | assumption) ?_; refine S_op ?_; refine W_field (by first | rfl | assumption) ?_)
  (refine S_op0 (W_storeM (o := 9) (vs := repCells (doesR t.items k.x)) (by rfl) (by rfl) cc (by rfl) (OneCells.of_all (by rfl)) (by rfl) (Nat.le_of_ble_eq_true (by rfl)) ?_)); intro w hgb' hm'; replace hT := hT.grownBy hgb' (fun g h => by cases h; exact ⟨cc.out, .inr (.inl rfl)⟩); replace hS := hT.sub; replace c2 := c2.other hgb' (by intro e2; cases e2; first | exact n_c2_cc rfl | exact n_cc_c2 rfl); replace cc := hm'; clear hm' hgb'
  (refine S_nil ?_; refine CW_seq ?_; refine CW_region rfl ?_; refine S_op ?_; refine W_movePtr (by first | rfl | assumption) ?_; refine S_op ?_; refine W_movePtr (by first | rfl | assumption) ?_; refine S_op ?_; refine W_movePtr (by first | rfl | assumption) ?_; refine S_op ?_; refine W_nilCheck (by first | rfl | assumption) ?_; refine S_op ?_; refine W_field (by first | rfl | assumption) ?_; refine S_op ?_; refine W_field (by first | rfl | assumption) ?_; refine S_op ?_; refine W_loadM (by first | rfl | assumption) (by assumption) (by rfl) ?_)
  (refine S_op ?_; refine W_call hS (by rfl) (path_len k.x.key ht.at_ (by omega)) ?_); rintro v H w hG' ⟨PA, pc, rfl⟩; replace hT := hT.trans hG'.turn; replace hS := hG'.sub; replace ht := ht.mono hG'.le; replace hn := hn.mono hG'.le; replace cc := cc.grow hG'; replace c2 := c2.grow hG'; clear hG'
  (refine S_op ?_; refine W_len (by first | rfl | assumption) ?_; refine S_op ?_; refine W_nilCheck (by first | rfl | assumption) ?_; refine S_op ?_; refine W_field (by first | rfl | assumption) ?_)
  (refine S_op0 (W_storeM (o := 8) (vs := [.int .i64 (t.height : Int)]) (by rfl) (by rfl) cc (by rfl) (OneCells.of_all (by rfl)) (by rfl) (Nat.le_of_ble_eq_true (by rfl)) ?_)); intro w hgb' hm'; replace hT := hT.grownBy hgb' (fun g h => by cases h; exact ⟨cc.out, .inr (.inl rfl)⟩); replace hS := hT.sub; replace c2 := c2.other hgb' (by intro e2; cases e2; first | exact n_c2_cc rfl | exact n_cc_c2 rfl); replace cc := hm'; clear hm' hgb'
  replace cc : CliAt H w ccb (.pointer (some ⟨mb, 0, none⟩)) { k with old := t, new := n, left := t.height, rep := doesR t.items k.x } := cc
  (refine S_nil ?_; refine CW_seq ?_; refine CW_region rfl ?_; refine S_op ?_; refine W_movePtr (by first | rfl | assumption) ?_)
  refine S_op ?_
  refine W_callW (by rfl) ((looked_c hS ht.at_ hn.at_.at_ cc).mono ?_)
  rintro v w ⟨H, hT', rfl, cc⟩
  replace c2 := c2.turn hT' (fun e => n_cc_c2 e.symm)
  replace hT := hT.trans (hT'.wider fun j _ h => .inl h)
  replace hn := hn.mono hT'.le
  replace ht := ht.mono hT'.le
  replace hS := hT.sub
  clear hT'
  (refine S_op ?_; refine W_extract (by first | rfl | assumption) (by rfl) ?_; refine S_op ?_; refine W_extract (by first | rfl | assumption) (by rfl) ?_; refine S_op ?_; refine W_extract (by first | rfl | assumption) (by rfl) ?_)
  (refine S_op0 (W_storeM (o := 0) (vs := repCells (lookedK { k with old := t, new := n, left := t.height, rep := doesR t.items k.x }).2.1) (by rfl) (by rfl) c2 (by rfl) (OneCells.of_all (by rfl)) (by rfl) (Nat.le_of_ble_eq_true (by rfl)) ?_)); intro w hgb' hm'; replace hT := hT.grownBy hgb' (fun g h => by cases h; exact ⟨c2.out, .inr (.inr rfl)⟩); replace hS := hT.sub; replace cc := cc.other hgb' (by intro e2; cases e2; first | exact n_cc_c2 rfl | exact n_c2_cc rfl); replace c2 := hm'; clear hm' hgb'
  (refine S_op ?_; refine W_assignBool (by first | rfl | assumption) ?_; refine S_op ?_; refine W_assignInt (by first | rfl | assumption) ?_; refine S_nil ?_; refine CW_ret ?_)
  refine ⟨_, ResW_v3 (v2 := .bool _) (v3 := .int _ _) (RV_cell rfl c2 rfl) rfl rfl, H, n, ?_, hn, ht, ?_, cc, rfl⟩
  · exact hT1.after hT fun j h => by
      rcases h with rfl | rfl
      · exact .inr (.inl rfl)
      · exact .inl c2h
  · exact hm.turn hT fun j hj h => by
      rcases h with rfl | rfl
      · exact hb hj
      · have := hml _ hj; omega
/-- It reads on. -/
theorem step_read (hS : Sub H w) (hk : k.stage = 2) (hl : 1 ≤ k.left) (cc : CliAt H w ccb (.pointer (some ⟨mb, 0, none⟩)) k) (ho : Tr.At H k.old) (hn : Tr.At H k.new) (hlb : k.left ≤ 1000000000) :
    CallW Try.prog 18 [.pointer (some ⟨ccb, 0, none⟩)].toArray w fun v w' => ∃ H', Turn (fun j => j = ccb) H w H' w' ∧
      CliAt H' w' ccb (.pointer (some ⟨mb, 0, none⟩)) (lookedK { k with left := k.left - 1 }).1 ∧
      v = .tuple #[.agg (repCells (lookedK { k with left := k.left - 1 }).2.1).toArray, .bool (lookedK { k with left := k.left - 1 }).2.2, .int .i64 0] := by
  have hk' : k.stage ≠ 0 := by omega
  obtain ⟨w0, rfl⟩ : ∃ w0, w0 = w := ⟨_, rfl⟩
  refine CallW_of_CW Try.func18 rfl Try.ntmps18 Try.results18 rfl ?_
  have hG := Grow.refl hS
  (refine CW_seq ?_; refine CW_region rfl ?_)
  (refine S_op (W_alloc hS ?_)); intro w c2b hG' c2h c2; have n_cc_c2 : ccb ≠ c2b := (by have h1 := cc.lt; omega); replace c2h := Nat.le_trans hG.below.size (Nat.le_of_eq c2h); replace hG := hG.trans hG'; replace hS := hG'.sub; replace cc := cc.grow hG'; clear hG'
  (refine S_op ?_; refine W_assignBool (by first | rfl | assumption) ?_; refine S_op ?_; refine W_assignInt (by first | rfl | assumption) ?_; refine S_nil ?_; refine CW_seq ?_; refine CW_seq ?_; refine CW_region rfl ?_; refine S_op ?_; refine W_movePtr (by first | rfl | assumption) ?_)
  refine S_op ?_
  refine W_callW (by rfl) ((pending_c hS cc).mono ?_)
  rintro v w2 ⟨rfl, rfl⟩
  rw [show decide (k.stage ≠ 0) = true by simp [hk']]
  have cc' := cc
  replace cc := cc.mut
  (refine S_op ?_; refine W_not (by first | rfl | assumption) ?_; refine S_nil ?_; refine CW_false (by first | rfl | assumption) ?_; refine CW_skip ?_; refine CW_seq ?_; refine CW_seq ?_; refine CW_region rfl ?_; refine S_op ?_; refine W_movePtr (by first | rfl | assumption) ?_; refine S_op ?_; refine W_nilCheck (by first | rfl | assumption) ?_; refine S_op ?_; refine W_field (by first | rfl | assumption) ?_; refine S_op ?_; refine W_loadM (by first | rfl | assumption) (by assumption) (by rfl) ?_; refine S_nil ?_; refine CW_block ?_; refine CW_seq ?_; refine CW_region rfl ?_; refine S_op ?_; refine W_eqlF (by first | rfl | assumption) (by first | rfl | assumption) (by first | omega | rfl) ?_; refine S_op ?_; refine W_assignBool (by first | rfl | assumption) ?_; refine S_nil ?_; refine CW_false (by first | rfl | assumption) ?_; refine CW_seq ?_; refine CW_region rfl ?_; refine S_op ?_; refine W_eqlT (by first | rfl | assumption) (by first | rfl | assumption) (by first | omega | rfl) ?_; refine S_op ?_; refine W_assignBool (by first | rfl | assumption) ?_; refine S_nil ?_; refine CW_true (by first | rfl | assumption) ?_; refine CW_seq ?_; refine CW_region rfl ?_; refine S_op ?_; refine W_movePtr (by first | rfl | assumption) ?_; refine S_op ?_; refine W_nilCheck (by first | rfl | assumption) ?_; refine S_op ?_; refine W_field (by first | rfl | assumption) ?_; refine S_op ?_; refine W_loadM (by first | rfl | assumption) (by assumption) (by rfl) ?_; refine S_op ?_; refine W_sub1 (by first | rfl | assumption) (by omega) (by omega) ?_; refine S_op ?_; refine W_nilCheck (by first | rfl | assumption) ?_; refine S_op ?_; refine W_field (by first | rfl | assumption) ?_)
  have hT := hG.turn (S := fun j => j = ccb)
  clear hG
  skip
  (refine S_op0 (W_storeM (o := 8) (vs := [.int .i64 ((k.left - 1 : Nat) : Int)]) (by rfl) (by rfl) cc (by rfl) (OneCells.of_all (by rfl)) (by rfl) (Nat.le_of_ble_eq_true (by rfl)) ?_)); intro w hgb' hm'; replace hT := hT.grownBy hgb' (fun g h => by cases h; exact ⟨cc.out, .inr rfl⟩); replace hS := hT.sub; replace c2 := c2.other hgb' (by intro e2; cases e2; first | exact n_c2_cc rfl | exact n_cc_c2 rfl); replace cc := hm'; clear hm' hgb'
  replace cc : CliAt H w ccb (.pointer (some ⟨mb, 0, none⟩)) { k with left := k.left - 1 } := cc
  (refine S_nil ?_; refine CW_seq ?_; refine CW_region rfl ?_; refine S_op ?_; refine W_movePtr (by first | rfl | assumption) ?_)
  refine S_op ?_
  refine W_callW (by rfl) ((looked_c (k := { k with left := k.left - 1 }) hS ho hn cc).mono ?_)
  rintro v w ⟨H, hT', rfl, cc⟩
  replace c2 := c2.turn hT' (fun e => n_cc_c2 e.symm)
  replace hT := hT.trans hT'
  replace hS := hT.sub
  clear hT'
  (refine S_op ?_; refine W_extract (by first | rfl | assumption) (by rfl) ?_; refine S_op ?_; refine W_extract (by first | rfl | assumption) (by rfl) ?_; refine S_op ?_; refine W_extract (by first | rfl | assumption) (by rfl) ?_)
  (refine S_op0 (W_storeM (o := 0) (vs := repCells (lookedK { k with left := k.left - 1 }).2.1) (by rfl) (by rfl) c2 (by rfl) (OneCells.of_all (by rfl)) (by rfl) (Nat.le_of_ble_eq_true (by rfl)) ?_)); intro w hgb' hm'; replace hT := hT.grownBy hgb' (fun g h => by cases h; exact ⟨c2.out, .inl c2h⟩); replace hS := hT.sub; replace cc := cc.other hgb' (by intro e2; cases e2; first | exact n_cc_c2 rfl | exact n_c2_cc rfl); replace c2 := hm'; clear hm' hgb'
  (refine S_op ?_; refine W_assignBool (by first | rfl | assumption) ?_; refine S_op ?_; refine W_assignInt (by first | rfl | assumption) ?_; refine S_nil ?_; refine CW_ret ?_)
  exact ⟨_, ResW_v3 (v2 := .bool _) (v3 := .int _ _) (RV_cell rfl c2 rfl) rfl rfl, H, hT, cc, rfl⟩
/-- It swaps. -/
def swapK (k : Cl) (t : Tr) : Cl × Rep4 × Bool := if sameT t k.old = true then (endK k, k.rep, true) else ({ k with stage := 1, tries := k.tries + 1 }, rep0, false)
theorem step_swap (hS : Sub H w) (hk : k.stage = 3) (cc : CliAt H w ccb (.pointer (some ⟨mb, 0, none⟩)) k) (ho : Tr.At H k.old) (ht : Tr.At H t) (hm : IsMem H w mb A ([t].map Tr.val) s c) (hb : ¬ memS mb A ccb) (hs : s ≤ 1000000000) (hcc : c ≤ 1000000000) (htr : k.tries ≤ 1000000000) :
    CallW Try.prog 18 [.pointer (some ⟨ccb, 0, none⟩)].toArray w fun v w' => ∃ H', Turn (stepS ccb mb A) H w H' w' ∧
      IsMem H' w' mb A ([if sameT t k.old = true then k.new else t].map Tr.val) (s + 1) (if sameT t k.old = true then c + 1 else c) ∧
      CliAt H' w' ccb (.pointer (some ⟨mb, 0, none⟩)) (swapK k t).1 ∧ v = .tuple #[.agg (repCells (swapK k t).2.1).toArray, .bool (swapK k t).2.2, .int .i64 0] := by
  have hml := mem_lt (t := t) hm
  have hk' : k.stage ≠ 0 := by omega
  obtain ⟨w0, rfl⟩ : ∃ w0, w0 = w := ⟨_, rfl⟩
  refine CallW_of_CW Try.func18 rfl Try.ntmps18 Try.results18 rfl ?_
  have hG := Grow.refl hS
  (refine CW_seq ?_; refine CW_region rfl ?_)
  (refine S_op (W_alloc hS ?_)); intro w c2b hG' c2h c2; have n_cc_c2 : ccb ≠ c2b := (by have h1 := cc.lt; omega); replace c2h := Nat.le_trans hG.below.size (Nat.le_of_eq c2h); replace hG := hG.trans hG'; replace hS := hG'.sub; replace cc := cc.grow hG'; clear hG'
  (refine S_op ?_; refine W_assignBool (by first | rfl | assumption) ?_; refine S_op ?_; refine W_assignInt (by first | rfl | assumption) ?_; refine S_nil ?_; refine CW_seq ?_; refine CW_seq ?_; refine CW_region rfl ?_; refine S_op ?_; refine W_movePtr (by first | rfl | assumption) ?_)
  refine S_op ?_
  refine W_callW (by rfl) ((pending_c hS cc).mono ?_)
  rintro v w2 ⟨rfl, rfl⟩
  rw [show decide (k.stage ≠ 0) = true by simp [hk']]
  have cc' := cc
  replace cc := cc.mut
  (refine S_op ?_; refine W_not (by first | rfl | assumption) ?_; refine S_nil ?_; refine CW_false (by first | rfl | assumption) ?_; refine CW_skip ?_; refine CW_seq ?_; refine CW_seq ?_; refine CW_region rfl ?_; refine S_op ?_; refine W_movePtr (by first | rfl | assumption) ?_; refine S_op ?_; refine W_nilCheck (by first | rfl | assumption) ?_; refine S_op ?_; refine W_field (by first | rfl | assumption) ?_; refine S_op ?_; refine W_loadM (by first | rfl | assumption) (by assumption) (by rfl) ?_; refine S_nil ?_; refine CW_block ?_; refine CW_seq ?_; refine CW_region rfl ?_; refine S_op ?_; refine W_eqlF (by first | rfl | assumption) (by first | rfl | assumption) (by first | omega | rfl) ?_; refine S_op ?_; refine W_assignBool (by first | rfl | assumption) ?_; refine S_nil ?_; refine CW_false (by first | rfl | assumption) ?_; refine CW_seq ?_; refine CW_region rfl ?_; refine S_op ?_; refine W_eqlF (by first | rfl | assumption) (by first | rfl | assumption) (by first | omega | rfl) ?_; refine S_op ?_; refine W_assignBool (by first | rfl | assumption) ?_; refine S_nil ?_; refine CW_false (by first | rfl | assumption) ?_; refine CW_skip ?_; refine CW_seq ?_; refine CW_seq ?_)
  replace hm := hm.grow hG
  have hT1 := hG.turn (S := stepS ccb mb A)
  clear hG cc'
  apply CW_region_gt (fun q H w => Mut H w ccb (cliC (.pointer (some ⟨mb, 0, none⟩)) k) ∧ Mut H w c2b [.int .i64 0, .string ⟨#[]⟩, .bool false, .int .i64 0] ∧ (q = 0 → IsMem H w mb A ([t].map Tr.val) s c) ∧ (1 ≤ q → IsMem H w mb A ([if sameT t k.old = true then k.new else t].map Tr.val) (s + 1) (if sameT t k.old = true then c + 1 else c))) 0 [_, _, _, _, _, _, _, _, _, _, _, _, _, _, _, _, _, _] [none, none, none, none, none, none, none, none, none, none, none, none, some 0, none, none, none, none, none] [some 86, some 87, some 88, some 89, some 90, some 91, some 92, some 93, some 94, some 95, some 96, some 97, some 98, some 85, some 99, some 100, some 7, some 8] [86, 87, 88, 89, 90, 91, 92, 93, 94, 95, 96, 97, 98, 85, 99, 100, 7, 8] mixed rfl rfl rfl rfl (by decide) rfl rfl rfl (by assumption)
  · exact ⟨cc, c2, fun _ => hm, fun h => by omega⟩
  · exact fun q H w H' w' h hg => ⟨h.1.grow hg, h.2.1.grow hg, fun e => (h.2.2.1 e).grow hg, fun e => (h.2.2.2 e).grow hg⟩
  · ((apply steps_cons; case h1 => (apply A_pure; intro c u H' w' hG; have hS' := hG.sub; have hS2' := hG.subOld; (try (have hM0 := hG.m.1)); (repeat (first | refine depGo_eq rfl rfl rfl ?_ | (refine depGo_fact rfl rfl rfl ?_; intro v hv) | refine depGo_skip rfl ?_ | refine depGo_none rfl ?_)); apply Pure1.mk; intro K hk; exact W_movePtr (by first | rfl | assumption) hk)); (apply steps_cons; case h1 => (apply A_pure; intro c u H' w' hG; have hS' := hG.sub; have hS2' := hG.subOld; (try (have hM0 := hG.m.1)); (repeat (first | refine depGo_eq rfl rfl rfl ?_ | (refine depGo_fact rfl rfl rfl ?_; intro v hv) | refine depGo_skip rfl ?_ | refine depGo_none rfl ?_)); apply Pure1.mk; intro K hk; exact W_nilCheck (by first | rfl | assumption) hk)); (apply steps_cons; case h1 => (apply A_pure; intro c u H' w' hG; have hS' := hG.sub; have hS2' := hG.subOld; (try (have hM0 := hG.m.1)); (repeat (first | refine depGo_eq rfl rfl rfl ?_ | (refine depGo_fact rfl rfl rfl ?_; intro v hv) | refine depGo_skip rfl ?_ | refine depGo_none rfl ?_)); apply Pure1.mk; intro K hk; exact W_field (by first | rfl | assumption) hk)); (apply steps_cons; case h1 => (apply A_pure; intro c u H' w' hG; have hS' := hG.sub; have hS2' := hG.subOld; (try (have hM0 := hG.m.1)); (repeat (first | refine depGo_eq rfl rfl rfl ?_ | (refine depGo_fact rfl rfl rfl ?_; intro v hv) | refine depGo_skip rfl ?_ | refine depGo_none rfl ?_)); apply Pure1.mk; intro K hk; exact W_loadM (by first | rfl | assumption) (by assumption) (by rfl) hk)); (apply steps_cons; case h1 => (apply A_pure; intro c u H' w' hG; have hS' := hG.sub; have hS2' := hG.subOld; (try (have hM0 := hG.m.1)); (repeat (first | refine depGo_eq rfl rfl rfl ?_ | (refine depGo_fact rfl rfl rfl ?_; intro v hv) | refine depGo_skip rfl ?_ | refine depGo_none rfl ?_)); apply Pure1.mk; intro K hk; exact W_movePtr (by first | rfl | assumption) hk)); (apply steps_cons; case h1 => (apply A_pure; intro c u H' w' hG; have hS' := hG.sub; have hS2' := hG.subOld; (try (have hM0 := hG.m.1)); (repeat (first | refine depGo_eq rfl rfl rfl ?_ | (refine depGo_fact rfl rfl rfl ?_; intro v hv) | refine depGo_skip rfl ?_ | refine depGo_none rfl ?_)); apply Pure1.mk; intro K hk; exact W_nilCheck (by first | rfl | assumption) hk)); (apply steps_cons; case h1 => (apply A_pure; intro c u H' w' hG; have hS' := hG.sub; have hS2' := hG.subOld; (try (have hM0 := hG.m.1)); (repeat (first | refine depGo_eq rfl rfl rfl ?_ | (refine depGo_fact rfl rfl rfl ?_; intro v hv) | refine depGo_skip rfl ?_ | refine depGo_none rfl ?_)); apply Pure1.mk; intro K hk; exact W_field (by first | rfl | assumption) hk)); (apply steps_cons; case h1 => (apply A_pure; intro c u H' w' hG; have hS' := hG.sub; have hS2' := hG.subOld; (try (have hM0 := hG.m.1)); (repeat (first | refine depGo_eq rfl rfl rfl ?_ | (refine depGo_fact rfl rfl rfl ?_; intro v hv) | refine depGo_skip rfl ?_ | refine depGo_none rfl ?_)); apply Pure1.mk; intro K hk; exact W_loadM (by first | rfl | assumption) (by assumption) (by rfl) hk)); (apply steps_cons; case h1 => (apply A_pure; intro c u H' w' hG; have hS' := hG.sub; have hS2' := hG.subOld; (try (have hM0 := hG.m.1)); (repeat (first | refine depGo_eq rfl rfl rfl ?_ | (refine depGo_fact rfl rfl rfl ?_; intro v hv) | refine depGo_skip rfl ?_ | refine depGo_none rfl ?_)); apply Pure1.mk; intro K hk; exact W_movePtr (by first | rfl | assumption) hk)); (apply steps_cons; case h1 => (apply A_pure; intro c u H' w' hG; have hS' := hG.sub; have hS2' := hG.subOld; (try (have hM0 := hG.m.1)); (repeat (first | refine depGo_eq rfl rfl rfl ?_ | (refine depGo_fact rfl rfl rfl ?_; intro v hv) | refine depGo_skip rfl ?_ | refine depGo_none rfl ?_)); apply Pure1.mk; intro K hk; exact W_nilCheck (by first | rfl | assumption) hk)); (apply steps_cons; case h1 => (apply A_pure; intro c u H' w' hG; have hS' := hG.sub; have hS2' := hG.subOld; (try (have hM0 := hG.m.1)); (repeat (first | refine depGo_eq rfl rfl rfl ?_ | (refine depGo_fact rfl rfl rfl ?_; intro v hv) | refine depGo_skip rfl ?_ | refine depGo_none rfl ?_)); apply Pure1.mk; intro K hk; exact W_field (by first | rfl | assumption) hk)); (apply steps_cons; case h1 => (apply A_pure; intro c u H' w' hG; have hS' := hG.sub; have hS2' := hG.subOld; (try (have hM0 := hG.m.1)); (repeat (first | refine depGo_eq rfl rfl rfl ?_ | (refine depGo_fact rfl rfl rfl ?_; intro v hv) | refine depGo_skip rfl ?_ | refine depGo_none rfl ?_)); apply Pure1.mk; intro K hk; exact W_loadM (by first | rfl | assumption) (by assumption) (by rfl) hk)))
    apply steps_cons
    · refine A_eff (φ := fun v _ => v = .tuple #[.bool (sameT t k.old), .int .i64 0]) ?_
      intro u' H' w' hG'
      have hS' := hG'.sub
      obtain ⟨q1, q2, q3, _⟩ := hG'.m
      (repeat (first | refine depGo_eq rfl rfl rfl ?_ | (refine depGo_fact rfl rfl rfl ?_; intro v hv) | refine depGo_skip rfl ?_ | refine depGo_none rfl ?_))
      refine depGo_nil ?_
      refine W_callW (by rfl) ((cas_yes_Tr (q := 0) (x := k.old) (y := k.new) hS' (q3 rfl) (by simp) hs hcc (ht.mono hG'.le) (ho.mono hG'.le)).mono ?_)
      rintro v w3 ⟨rfl, hT3, hm3⟩
      refine ⟨H', HLe.refl _, hG'.next (hG'.grow.trans (hT3.wider fun j _ h => .inr h)) (HLe.refl _) ⟨q1.turn hT3 hb, q2.turn hT3 (fun e => by have := hml _ e; omega), fun h => by omega, fun _ => ?_⟩, fun _ _ => rfl⟩
      have e : (if sameT (nth [t] 0) k.old = true then [t].set 0 k.new else [t]) = [if sameT t k.old = true then k.new else t] := by
        show (if sameT t k.old = true then [k.new] else [t]) = _
        split <;> rfl
      rw [← e]
      exact hm3
    ((apply steps_cons; case h1 => (apply A_pure; intro c u H' w' hG; have hS' := hG.sub; have hS2' := hG.subOld; (repeat (first | refine depGo_eq rfl rfl rfl ?_ | (refine depGo_fact rfl rfl rfl ?_; intro v hv) | refine depGo_skip rfl ?_ | refine depGo_none rfl ?_)); apply Pure1.mk; intro K hk; exact W_moveTup (by first | rfl | assumption) hk)); (apply steps_cons; case h1 => (apply A_pure; intro c u H' w' hG; have hS' := hG.sub; have hS2' := hG.subOld; (repeat (first | refine depGo_eq rfl rfl rfl ?_ | (refine depGo_fact rfl rfl rfl ?_; intro v hv) | refine depGo_skip rfl ?_ | refine depGo_none rfl ?_)); apply Pure1.mk; intro K hk; exact W_extract (by first | rfl | assumption) (by rfl) hk)); (apply steps_cons; case h1 => (apply A_pure; intro c u H' w' hG; have hS' := hG.sub; have hS2' := hG.subOld; (repeat (first | refine depGo_eq rfl rfl rfl ?_ | (refine depGo_fact rfl rfl rfl ?_; intro v hv) | refine depGo_skip rfl ?_ | refine depGo_none rfl ?_)); apply Pure1.mk; intro K hk; exact W_extract (by first | rfl | assumption) (by rfl) hk)); (apply steps_cons; case h1 => (apply A_pure; intro c u H' w' hG; have hS' := hG.sub; have hS2' := hG.subOld; (repeat (first | refine depGo_eq rfl rfl rfl ?_ | (refine depGo_fact rfl rfl rfl ?_; intro v hv) | refine depGo_skip rfl ?_ | refine depGo_none rfl ?_)); apply Pure1.mk; intro K hk; exact W_assignBool (by first | rfl | assumption) hk)); (apply steps_cons; case h1 => (apply A_pure; intro c u H' w' hG; have hS' := hG.sub; have hS2' := hG.subOld; (repeat (first | refine depGo_eq rfl rfl rfl ?_ | (refine depGo_fact rfl rfl rfl ?_; intro v hv) | refine depGo_skip rfl ?_ | refine depGo_none rfl ?_)); apply Pure1.mk; intro K hk; exact W_assignInt (by first | rfl | assumption) hk)); exact trivial)
  · intro q H' w' hq hT' hle hM
    (repeat (first | refine fin_eq rfl rfl ?_ | (refine fin_fact rfl ?_; intro v hv) | refine fin_none rfl ?_)); refine fin_nil ?_
    obtain ⟨cc, c2, _, hm⟩ := hM
    replace hm := hm (by omega)
    clear hT1
    have hT1 := hT'
    clear hT'
    replace hS := hT1.sub
    obtain ⟨H, hHH⟩ : ∃ x, x = H' := ⟨_, rfl⟩
    obtain ⟨w, hww⟩ : ∃ x, x = w' := ⟨_, rfl⟩
    rw [← hHH, ← hww] at cc c2 hm hT1 hS
    rw [← hww]
    have hT := Turn.refl (S := fun j => j = ccb ∨ j = c2b) hS
    cases hsm : sameT t k.old with
    | true =>
      rw [show swapK k t = (endK k, k.rep, true) by simp [swapK, hsm]]
      rw [hsm] at hm
      replace cc : CliAt H w ccb (.pointer (some ⟨mb, 0, none⟩)) k := cc
      have cc' := cc.mut
      (refine CW_seq ?_; refine CW_region rfl ?_; refine S_op ?_; refine W_moveBool (by first | rfl | assumption) ?_; refine S_nil ?_; refine CW_true (by first | rfl | assumption) ?_; refine CW_seq ?_; refine CW_region rfl ?_; refine S_op ?_; refine W_movePtr (by first | rfl | assumption) ?_; refine S_op ?_; refine W_movePtr (by first | rfl | assumption) ?_; refine S_op ?_; refine W_nilCheck (by first | rfl | assumption) ?_; refine S_op ?_; refine W_field (by first | rfl | assumption) ?_; refine S_op ?_; refine W_loadMAggC (by first | rfl | assumption) (by assumption) (by rfl) (by rfl) ?_)
      refine S_op ?_
      refine W_callW (by rfl) ((cliEnds_c k.rep hS cc).mono ?_)
      rintro v w ⟨H, hT', rfl, cc⟩
      clear cc'
      replace c2 := c2.turn hT' (fun e => n_cc_c2 e.symm)
      replace hT := hT.trans (hT'.wider fun j _ h => .inl h)
      replace hS := hT.sub
      clear hT'
      (refine S_op ?_; refine W_extract (by first | rfl | assumption) (by rfl) ?_; refine S_op ?_; refine W_extract (by first | rfl | assumption) (by rfl) ?_; refine S_op ?_; refine W_extract (by first | rfl | assumption) (by rfl) ?_)
      (refine S_op0 (W_storeM (o := 0) (vs := repCells k.rep) (by rfl) (by rfl) c2 (by rfl) (OneCells.of_all (by rfl)) (by rfl) (Nat.le_of_ble_eq_true (by rfl)) ?_)); intro w hgb' hm'; replace hT := hT.grownBy hgb' (fun g h => by cases h; exact ⟨c2.out, .inr (.inr rfl)⟩); replace hS := hT.sub; replace cc := cc.other hgb' (by intro e2; cases e2; first | exact n_cc_c2 rfl | exact n_c2_cc rfl); replace c2 := hm'; clear hm' hgb'
      (refine S_op ?_; refine W_assignBool (by first | rfl | assumption) ?_; refine S_op ?_; refine W_assignInt (by first | rfl | assumption) ?_; refine S_nil ?_; refine CW_ret ?_)
      refine ⟨_, ResW_v3 (v2 := .bool _) (v3 := .int _ _) (RV_cell rfl c2 rfl) rfl rfl, H, ?_, ?_, cc, rfl⟩
      · exact hT1.after hT fun j h => by
          rcases h with rfl | rfl
          · exact .inr (.inl rfl)
          · exact .inl c2h
      · exact hm.turn hT fun j hj h => by
          rcases h with rfl | rfl
          · exact hb hj
          · have := hml _ hj; omega
    | false =>
      rw [show swapK k t = ({ k with stage := 1, tries := k.tries + 1 }, rep0, false) by simp [swapK, hsm]]
      rw [hsm] at hm
      (refine CW_seq ?_; refine CW_region rfl ?_; refine S_op ?_; refine W_moveBool (by first | rfl | assumption) ?_; refine S_nil ?_; refine CW_false (by first | rfl | assumption) ?_; refine CW_skip ?_; refine CW_seq ?_; refine CW_region rfl ?_; refine S_op ?_; refine W_movePtr (by first | rfl | assumption) ?_; refine S_op ?_; refine W_nilCheck (by first | rfl | assumption) ?_; refine S_op ?_; refine W_field (by first | rfl | assumption) ?_)
      (refine S_op0 (W_storeM (o := 4) (vs := [.int .i64 1]) (by rfl) (by rfl) cc (by rfl) (OneCells.of_all (by rfl)) (by rfl) (Nat.le_of_ble_eq_true (by rfl)) ?_)); intro w hgb' hm'; replace hT := hT.grownBy hgb' (fun g h => by cases h; exact ⟨cc.out, .inr (.inl rfl)⟩); replace hS := hT.sub; replace c2 := c2.other hgb' (by intro e2; cases e2; first | exact n_c2_cc rfl | exact n_cc_c2 rfl); replace cc := hm'; clear hm' hgb'
      (refine S_nil ?_; refine CW_seq ?_; refine CW_region rfl ?_; refine S_op ?_; refine W_movePtr (by first | rfl | assumption) ?_; refine S_op ?_; refine W_nilCheck (by first | rfl | assumption) ?_; refine S_op ?_; refine W_field (by first | rfl | assumption) ?_; refine S_op ?_; refine W_loadM (by first | rfl | assumption) (by assumption) (by rfl) ?_; refine S_op ?_; refine W_add1 (by first | rfl | assumption) (by omega) ?_; refine S_op ?_; refine W_nilCheck (by first | rfl | assumption) ?_; refine S_op ?_; refine W_field (by first | rfl | assumption) ?_)
      (refine S_op0 (W_storeM (o := 5) (vs := [.int .i64 ((k.tries + 1 : Nat) : Int)]) (by rfl) (by rfl) cc (by rfl) (OneCells.of_all (by rfl)) (by rfl) (Nat.le_of_ble_eq_true (by rfl)) ?_)); intro w hgb' hm'; replace hT := hT.grownBy hgb' (fun g h => by cases h; exact ⟨cc.out, .inr (.inl rfl)⟩); replace hS := hT.sub; replace c2 := c2.other hgb' (by intro e2; cases e2; first | exact n_c2_cc rfl | exact n_cc_c2 rfl); replace cc := hm'; clear hm' hgb'
      (refine S_nil ?_; refine CW_seq ?_; refine CW_region rfl ?_; refine S_op ?_; refine W_build (by rfl) ?_)
      (refine S_op0 (W_storeM (o := 0) (vs := [.int .i64 0, .string ⟨#[]⟩, .bool false, .int .i64 0]) (by rfl) (by rfl) c2 (by rfl) (OneCells.of_all (by rfl)) (by rfl) (Nat.le_of_ble_eq_true (by rfl)) ?_)); intro w hgb' hm'; replace hT := hT.grownBy hgb' (fun g h => by cases h; exact ⟨c2.out, .inr (.inr rfl)⟩); replace hS := hT.sub; replace cc := cc.other hgb' (by intro e2; cases e2; first | exact n_cc_c2 rfl | exact n_c2_cc rfl); replace c2 := hm'; clear hm' hgb'
      (refine S_op ?_; refine W_assignBool (by first | rfl | assumption) ?_; refine S_op ?_; refine W_assignInt (by first | rfl | assumption) ?_; refine S_nil ?_; refine CW_ret ?_)
      refine ⟨_, ResW_v3 (v2 := .bool _) (v3 := .int _ _) (RV_cell rfl c2 rfl) rfl rfl, H, ?_, ?_, cc, rfl⟩
      · exact hT1.after hT fun j h => by
          rcases h with rfl | rfl
          · exact .inr (.inl rfl)
          · exact .inl c2h
      · exact hm.turn hT fun j hj h => by
          rcases h with rfl | rfl
          · exact hb hj
          · have := hml _ hj; omega
end
end Go.Proofs.Ytglhnfficliaoaa
