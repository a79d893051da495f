/- walk.up, walked: it gives a tree's entries from a key upwards. Conditions: none but the tree's. -/
import Derived.Test.YtnjeoobcejlojaaIter
import Derived.Test.YtnjeoobcejlojaaTree1
namespace Go.Proofs.Ytnjeoobcejlojaa
open Go.Proofs Go.RowKit
set_option linter.unusedVariables false
attribute [local irreducible] CW SeqW OpW CallV
set_option maxHeartbeats 4000000
def encP (e : Ent) : List Value := [.string e.key, .string e.val]
def fromL (k : ByteArray) (l : List Ent) : List Ent := l.filter fun e => !slt e.key k
theorem fromL_append (k : ByteArray) (l m : List Ent) : fromL k (l ++ m) = fromL k l ++ fromL k m := List.filter_append ..
theorem fromL_nil_of {k : ByteArray} {l : List Ent} (h : ∀ e ∈ l, slt e.key k = true) : fromL k l = [] := by
  simp only [fromL, List.filter_eq_nil_iff]
  intro e he
  simp [h e he]
theorem fromL_take {k : ByteArray} {l : List Ent} {i : Nat} (h : i < l.length) : fromL k (l.take (i + 1)) = fromL k (l.take i) ++ (if slt (ent l i).key k then [] else [ent l i]) := by
  rw [take_succ' h, fromL_append]
  congr 1
  have e : l[i] = ent l i := by simp [ent, h]
  rw [e]
  cases hs : slt (ent l i).key k <;> simp [fromL, hs]
section
variable {xs : List Ent} {y : Value} {J Jx : Inv Ent} {key : ByteArray}
theorem up_nil {H0 : HF} {w0 : World} {X0 : Nat → Prop} {pre : List Ent} (hJ : Stable J) (hS : Sub H0 w0) (hj : J X0 pre H0 w0) :
    CallW Try.prog 90 [.pointer none, .string key, y].toArray w0 (Went xs J Jx X0 H0 w0 pre) := by
  refine CallW_of_CW Try.func90 rfl Try.ntmps90 Try.results90 rfl ?_
  have hG := Grow.refl hS
  have hI := Its.start hS hj
  (refine CW_seq ?_; refine CW_region rfl ?_; refine S_op ?_; refine W_assignBool (by first | rfl | assumption) ?_; refine S_nil ?_; refine CW_seq ?_; refine CW_seq ?_; refine CW_region rfl ?_; refine S_op ?_; refine W_movePtr (by first | rfl | assumption) ?_)
  (refine S_op ?_; refine W_call hS (by rfl) (ends_nil (H := H0)) ?_); rintro v H w hG' rfl; replace hG := hG.trans hG'; replace hS := hG'.sub; clear hG'
  (refine S_op ?_; refine W_moveTup (by first | rfl | assumption) ?_; refine S_op ?_; refine W_extract (by first | rfl | assumption) (by rfl) ?_; refine S_op ?_; refine W_extract (by first | rfl | assumption) (by rfl) ?_; refine S_op ?_; refine W_assignStr (by first | rfl | assumption) ?_; refine S_op ?_; refine W_assignStr (by first | rfl | assumption) ?_; refine S_nil ?_; refine CW_seq ?_; refine CW_region rfl ?_; refine S_op ?_; refine W_movePtr (by first | rfl | assumption) ?_; refine S_op ?_; refine W_peqnil (by first | rfl | assumption) (by first | rfl | assumption) ?_; refine S_op ?_; refine W_moveBool (by first | rfl | assumption) ?_; refine S_pass (by rfl) ?_; refine S_pass (by rfl) ?_; refine S_pass (by rfl) ?_; refine S_op ?_; refine W_pickT (by first | rfl | assumption) (by first | rfl | assumption) ?_; refine S_nil ?_; refine CW_true (by first | rfl | assumption) ?_; refine CW_seq ?_; refine CW_region rfl ?_; refine S_op ?_; refine W_assignBool (by first | rfl | assumption) ?_; refine S_nil ?_; refine CW_ret ?_)
  exact ⟨_, ResW_one (v := .bool _) rfl, .inl ⟨rfl, _, H, hI.step hJ hG⟩⟩
theorem from_split {k : ByteArray} {l : List Ent} {i : Nat} (h : i < l.length) (hk : slt (ent l i).key k = false) : fromL k l = fromL k (l.take i) ++ ent l i :: fromL k (l.drop (i + 1)) := by
  have h1 : l = l.take i ++ ent l i :: l.drop (i + 1) := by
    have e : l[i] = ent l i := by simp [ent, h]
    rw [← e, ← List.drop_eq_getElem_cons h, List.take_append_drop]
  conv => lhs; rw [h1, fromL_append]
  congr 1
  simp [fromL, hk]
theorem up_c (hJ : Stable J) (hy : Yields Try.prog y encP xs J Jx) (h : Nat) : ∀ (H0 : HF) (w0 : World) (x : Nd h) (X0 : Nat → Prop) (pre rest : List Ent), NodeAt H0 h x → Sub H0 w0 → xs = pre ++ fromL key (Nd.items h x) ++ rest → J X0 pre H0 w0 →
    CallW Try.prog 90 [x.ptr, .string key, y].toArray w0 (Went xs J Jx X0 H0 w0 (pre ++ fromL key (Nd.items h x))) := by
  induction h with
  | zero =>
    intro H0 w0 x X0 pre rest hx hS hxs hj
    refine CallW_of_CW Try.func90 rfl Try.ntmps90 Try.results90 rfl ?_
    have hG := Grow.refl hS
    have hI := Its.start hS hj
    (refine CW_seq ?_; refine CW_region rfl ?_; refine S_op ?_; refine W_assignBool (by first | rfl | assumption) ?_; refine S_nil ?_; refine CW_seq ?_; refine CW_seq ?_; refine CW_region rfl ?_; refine S_op ?_; refine W_movePtr (by first | rfl | assumption) ?_)
    (refine S_op ?_; refine W_call hS (by rfl) (ends_c hx) ?_); rintro v H w hG' rfl; replace hG := hG.trans hG'; replace hS := hG'.sub; replace hx := hx.mono hG'.le; clear hG'
    cases hk : slt x.hi key with
    | true =>
      (refine S_op ?_; refine W_moveTup (by first | rfl | assumption) ?_; refine S_op ?_; refine W_extract (by first | rfl | assumption) (by rfl) ?_; refine S_op ?_; refine W_extract (by first | rfl | assumption) (by rfl) ?_; refine S_op ?_; refine W_assignStr (by first | rfl | assumption) ?_; refine S_op ?_; refine W_assignStr (by first | rfl | assumption) ?_; refine S_nil ?_; refine CW_seq ?_; refine CW_region rfl ?_; refine S_op ?_; refine W_movePtr (by first | rfl | assumption) ?_; refine S_op ?_; refine W_peqnil (by first | rfl | assumption) (by first | rfl | assumption) ?_; refine S_op ?_; refine W_moveBool (by first | rfl | assumption) ?_; refine S_want (by rfl) ?_; refine W_moveStr (by first | rfl | assumption) ?_; refine S_want (by rfl) ?_; refine W_moveStr (by first | rfl | assumption) ?_; refine S_want (by rfl) ?_; refine W_slssB (by first | rfl | assumption) (by first | rfl | assumption) (by assumption) ?_; refine S_op ?_; refine W_pickF (by first | rfl | assumption) (by first | rfl | assumption) ?_; refine S_nil ?_; refine CW_true (by first | rfl | assumption) ?_; refine CW_seq ?_; refine CW_region rfl ?_; refine S_op ?_; refine W_assignBool (by first | rfl | assumption) ?_; refine S_nil ?_; refine CW_ret ?_)
      have hI1 := hI.step hJ hG
      rw [fromL_nil_of (fun e he => slt_of_le_of_lt (Nd.le_hi hx.ok he) hk), List.append_nil]
      exact ⟨_, ResW_one (v := .bool _) rfl, .inl ⟨rfl, _, H, hI1⟩⟩
    | false =>
      (refine S_op ?_; refine W_moveTup (by first | rfl | assumption) ?_; refine S_op ?_; refine W_extract (by first | rfl | assumption) (by rfl) ?_; refine S_op ?_; refine W_extract (by first | rfl | assumption) (by rfl) ?_; refine S_op ?_; refine W_assignStr (by first | rfl | assumption) ?_; refine S_op ?_; refine W_assignStr (by first | rfl | assumption) ?_; refine S_nil ?_; refine CW_seq ?_; refine CW_region rfl ?_; refine S_op ?_; refine W_movePtr (by first | rfl | assumption) ?_; refine S_op ?_; refine W_peqnil (by first | rfl | assumption) (by first | rfl | assumption) ?_; refine S_op ?_; refine W_moveBool (by first | rfl | assumption) ?_; refine S_want (by rfl) ?_; refine W_moveStr (by first | rfl | assumption) ?_; refine S_want (by rfl) ?_; refine W_moveStr (by first | rfl | assumption) ?_; refine S_want (by rfl) ?_; refine W_slssB (by first | rfl | assumption) (by first | rfl | assumption) (by assumption) ?_; refine S_op ?_; refine W_pickF (by first | rfl | assumption) (by first | rfl | assumption) ?_; refine S_nil ?_; refine CW_false (by first | rfl | assumption) ?_; refine CW_skip ?_; refine CW_seq ?_; refine CW_seq ?_; refine CW_region rfl ?_; refine S_op ?_; refine W_movePtr (by first | rfl | assumption) ?_)
      (refine S_op ?_; refine W_call hS (by rfl) (entries_c hx) ?_); rintro v H w hG' hv; replace hG := hG.trans hG'; replace hS := hG'.sub; replace hx := hx.mono hG'.le; clear hG'
      obtain ⟨A, c, rfl, hc, hl⟩ := hv
      have hl : EntsAt H A x.ents := hl
      have hxl : x.ents.length ≤ 4 := by have := hx.ok; simp only [Nd.Ok, leafB, Bool.and_eq_true, decide_eq_true_eq] at this; omega
      rw [show Nd.own 0 x = x.ents from rfl]
      have hxs : xs = pre ++ fromL key x.ents ++ rest := hxs
      (refine S_op ?_; refine W_len (by first | rfl | assumption) ?_; refine S_op ?_; refine W_moveInt (by first | rfl | assumption) ?_; refine S_nil ?_; refine CW_block ?_)
      refine CW_loopM [6, 10, 28, 29, 30, 31, 32, 33, 34, 35, 36, 37, 38, 39, 40, 41, 42, 43, 44, 45] (fun m u w2 => ∃ (i : Nat) (X : Nat → Prop) (H2 : HF), u 28 = .int .i64 (i : Int) ∧ i ≤ x.ents.length ∧ x.ents.length - i ≤ m ∧ HLe H H2 ∧ Its J X0 H0 w0 X (pre ++ fromL key (x.ents.take i)) H2 w2)
        (m := x.ents.length) ⟨0, _, H, rfl, by omega, by omega, HLe.refl _, by simpa [fromL] using hI.step hJ hG⟩ ?_
      clear hI hG hS hj
      rintro m u w2 ⟨i, X, H2, h28, hi, hm, hle, hI⟩
      have hS := hI.sub
      have hG := Grow.refl hS
      replace hl := hl.mono hle
      replace hx := hx.mono hle
      by_cases hlt : i < x.ents.length
      · obtain ⟨bb, off, hA, hrow⟩ := hl.some hlt
        have hft := fromL_take (k := key) hlt
        cases hk : slt (ent x.ents i).key key with
        | true =>
          rw [hk] at hft
          (refine CW_seq ?_; refine CW_region rfl ?_; refine S_op ?_; refine W_lssT (by first | rfl | assumption) (by first | rfl | assumption) (by first | omega | rfl) ?_; refine S_nil ?_; refine CW_seq ?_; refine CW_true (by first | rfl | assumption) ?_; refine CW_skip ?_; refine CW_seq ?_; refine CW_block ?_; refine CW_seq ?_; refine CW_region rfl ?_; refine S_op ?_; refine W_index (by first | rfl | assumption) (by first | rfl | assumption) (by first | assumption | omega | decide) (by first | rfl | assumption) ?_; refine S_op ?_; refine W_loadEnt (by first | rfl | assumption) (by assumption) (by first | assumption | omega) (by assumption) ?_)
          (refine S_op (W_alloc hS ?_)); intro w cb hG' ch c; replace ch := Nat.le_trans hG.below.size (Nat.le_of_eq ch); replace hG := hG.trans hG'; replace hS := hG'.sub; clear hG'
          skip
          (refine S_op0 (W_storeM (o := 0) (vs := [.string (ent x.ents i).key, .string (ent x.ents i).val]) (by rfl) (by rfl) c (by rfl) (OneCells.of_all (by rfl)) (by rfl) (Nat.le_of_ble_eq_true (by rfl)) ?_)); intro w hgb' hm'; replace hG := hG.grownBy hgb' (fun g h => by cases h; exact ⟨c.out, ch⟩); replace hS := hG.sub; replace c : Mut _ w cb ([.string (ent x.ents i).key, .string (ent x.ents i).val]) := hm'; clear hm'; clear hgb'
          (refine S_nil ?_; refine CW_seq ?_; refine CW_region rfl ?_; refine S_op ?_; refine W_field (by first | rfl | assumption) ?_; refine S_op ?_; refine W_loadM (by first | rfl | assumption) (by assumption) (by rfl) ?_; refine S_op ?_; refine W_moveStr (by first | rfl | assumption) ?_; refine S_op ?_; refine W_sgeqB (by first | rfl | assumption) (by first | rfl | assumption) (by assumption) ?_; refine S_op ?_; refine W_moveBool (by first | rfl | assumption) ?_; refine S_pass (by rfl) ?_; refine S_pass (by rfl) ?_; refine S_pass (by rfl) ?_; refine S_pass (by rfl) ?_; refine S_pass (by rfl) ?_; refine S_pass (by rfl) ?_; refine S_pass (by rfl) ?_; refine S_op ?_; refine W_pickF (by first | rfl | assumption) (by first | rfl | assumption) ?_; refine S_nil ?_; refine CW_false (by first | rfl | assumption) ?_; refine CW_skip ?_; refine CW_region rfl ?_; refine S_op ?_; refine W_add1 (by first | rfl | assumption) (by omega) ?_; refine S_op ?_; refine W_moveInt (by first | rfl | assumption) ?_; refine S_nil ?_)
          exact ⟨(by repeat (first | exact AgreeOff.over | refine AgreeOff.upd rfl ?_ | refine AgreeOff.over2 rfl ?_)), m - 1, by omega, i + 1, _, H2, rfl, by omega, by omega, hle, by rw [hft]; simpa using hI.step hJ hG⟩
        | false =>
          rw [hk] at hft
          have hsp := from_split hlt hk
          (refine CW_seq ?_; refine CW_region rfl ?_; refine S_op ?_; refine W_lssT (by first | rfl | assumption) (by first | rfl | assumption) (by first | omega | rfl) ?_; refine S_nil ?_; refine CW_seq ?_; refine CW_true (by first | rfl | assumption) ?_; refine CW_skip ?_; refine CW_seq ?_; refine CW_block ?_; refine CW_seq ?_; refine CW_region rfl ?_; refine S_op ?_; refine W_index (by first | rfl | assumption) (by first | rfl | assumption) (by first | assumption | omega | decide) (by first | rfl | assumption) ?_; refine S_op ?_; refine W_loadEnt (by first | rfl | assumption) (by assumption) (by first | assumption | omega) (by assumption) ?_)
          (refine S_op (W_alloc hS ?_)); intro w cb hG' ch c; replace ch := Nat.le_trans hG.below.size (Nat.le_of_eq ch); replace hG := hG.trans hG'; replace hS := hG'.sub; clear hG'
          skip
          (refine S_op0 (W_storeM (o := 0) (vs := [.string (ent x.ents i).key, .string (ent x.ents i).val]) (by rfl) (by rfl) c (by rfl) (OneCells.of_all (by rfl)) (by rfl) (Nat.le_of_ble_eq_true (by rfl)) ?_)); intro w hgb' hm'; replace hG := hG.grownBy hgb' (fun g h => by cases h; exact ⟨c.out, ch⟩); replace hS := hG.sub; replace c : Mut _ w cb ([.string (ent x.ents i).key, .string (ent x.ents i).val]) := hm'; clear hm'; clear hgb'
          (refine S_nil ?_; refine CW_seq ?_; refine CW_region rfl ?_; refine S_op ?_; refine W_field (by first | rfl | assumption) ?_; refine S_op ?_; refine W_loadM (by first | rfl | assumption) (by assumption) (by rfl) ?_; refine S_op ?_; refine W_moveStr (by first | rfl | assumption) ?_; refine S_op ?_; refine W_sgeqB (by first | rfl | assumption) (by first | rfl | assumption) (by assumption) ?_; refine S_op ?_; refine W_moveBool (by first | rfl | assumption) ?_; refine S_want (by rfl) ?_; refine W_move rfl ?_; refine S_want (by rfl) ?_; refine W_field (by first | rfl | assumption) ?_; refine S_want (by rfl) ?_; refine W_loadM (by first | rfl | assumption) (by assumption) (by rfl) ?_; refine S_want (by rfl) ?_; refine W_field (by first | rfl | assumption) ?_; refine S_want (by rfl) ?_; refine W_loadM (by first | rfl | assumption) (by assumption) (by rfl) ?_)
          refine S_want (by rfl) ?_
          have hI1 := hI.step hJ hG
          refine W_callVal (by rfl) (by rfl) ((hy.at (x := ent x.ents i) (r := fromL key (x.ents.drop (i + 1)) ++ rest) (by rw [hxs, hsp]; simp) (Its.start hS hI1.has)).mono ?_)
          clear hI hG hS c
          rintro v w (⟨rfl, X, H3, hI⟩ | ⟨rfl, X, H3, p, r, he, hI⟩)
          · (refine S_want (by rfl) ?_; refine W_not (by first | rfl | assumption) ?_; refine S_op ?_; refine W_pickT (by first | rfl | assumption) (by first | rfl | assumption) ?_; refine S_nil ?_; refine CW_false (by first | rfl | assumption) ?_; refine CW_skip ?_; refine CW_region rfl ?_; refine S_op ?_; refine W_add1 (by first | rfl | assumption) (by omega) ?_; refine S_op ?_; refine W_moveInt (by first | rfl | assumption) ?_; refine S_nil ?_)
            exact ⟨(by repeat (first | exact AgreeOff.over | refine AgreeOff.upd rfl ?_ | refine AgreeOff.over2 rfl ?_)), m - 1, by omega, i + 1, _, H3, rfl, by omega, by omega, hle.trans hI.le, by rw [hft]; simpa using hI1.trans hI⟩
          · (refine S_want (by rfl) ?_; refine W_not (by first | rfl | assumption) ?_; refine S_op ?_; refine W_pickT (by first | rfl | assumption) (by first | rfl | assumption) ?_; refine S_nil ?_; refine CW_true (by first | rfl | assumption) ?_; refine CW_seq ?_; refine CW_region rfl ?_; refine S_op ?_; refine W_assignBool (by first | rfl | assumption) ?_; refine S_nil ?_; refine CW_ret ?_)
            exact ⟨_, ResW_one (v := .bool _) rfl, .inr ⟨rfl, X, H3, p, r, he, hI1.trans hI⟩⟩
      · have hin : i = x.ents.length := by omega
        subst hin
        rw [List.take_length] at hI
        (refine CW_seq ?_; refine CW_region rfl ?_; refine S_op ?_; refine W_lssF (by first | rfl | assumption) (by first | rfl | assumption) (by first | omega | rfl) ?_; refine S_nil ?_; refine CW_seq ?_; refine CW_false (by first | rfl | assumption) ?_; refine CW_exit ?_; refine CW_seq ?_; refine CW_seq ?_; refine CW_region rfl ?_; refine S_op ?_; refine W_movePtr (by first | rfl | assumption) ?_)
        (refine S_op ?_; refine W_call hS (by rfl) (kids_leaf hx) ?_); rintro v H w hG' rfl; replace hG := hG.trans hG'; replace hS := hG'.sub; clear hG'
        (refine S_op ?_; refine W_len (by first | rfl | assumption) ?_; refine S_op ?_; refine W_moveInt (by first | rfl | assumption) ?_; refine S_nil ?_; refine CW_block ?_)
        refine CW_loopM [6, 12, 49, 50, 51, 52, 53, 54, 55, 56, 57, 58] (fun m u w2 => u 49 = .int .i64 0 ∧ w2 = w) (m := 0) ⟨rfl, rfl⟩ ?_
        rintro m u w2 ⟨h49, rfl⟩
        (refine CW_seq ?_; refine CW_region rfl ?_; refine S_op ?_; refine W_lssF (by first | rfl | assumption) (by first | rfl | assumption) (by first | omega | rfl) ?_; refine S_nil ?_; refine CW_seq ?_; refine CW_false (by first | rfl | assumption) ?_; refine CW_exit ?_; refine CW_seq ?_; refine CW_region rfl ?_; refine S_op ?_; refine W_assignBool (by first | rfl | assumption) ?_; refine S_nil ?_; refine CW_ret ?_)
        exact ⟨_, ResW_one (v := .bool _) rfl, .inl ⟨rfl, _, H, hI.step hJ hG⟩⟩
  | succ h ih =>
    intro H0 w0 x X0 pre rest hx hS hxs hj
    have hxs : xs = pre ++ fromL key (x.kids.flatMap (Nd.items h)) ++ rest := hxs
    have goal : ∀ v w', Went xs J Jx X0 H0 w0 (pre ++ fromL key (x.kids.flatMap (Nd.items h))) v w' → Went xs J Jx X0 H0 w0 (pre ++ fromL key (Nd.items (h + 1) x)) v w' := fun _ _ h => h
    refine CallW_of_CW Try.func90 rfl Try.ntmps90 Try.results90 rfl ?_
    have hG := Grow.refl hS
    have hI := Its.start hS hj
    (refine CW_seq ?_; refine CW_region rfl ?_; refine S_op ?_; refine W_assignBool (by first | rfl | assumption) ?_; refine S_nil ?_; refine CW_seq ?_; refine CW_seq ?_; refine CW_region rfl ?_; refine S_op ?_; refine W_movePtr (by first | rfl | assumption) ?_)
    (refine S_op ?_; refine W_call hS (by rfl) (ends_c hx) ?_); rintro v H w hG' rfl; replace hG := hG.trans hG'; replace hS := hG'.sub; replace hx := hx.mono hG'.le; clear hG'
    cases hk : slt x.hi key with
    | true =>
      (refine S_op ?_; refine W_moveTup (by first | rfl | assumption) ?_; refine S_op ?_; refine W_extract (by first | rfl | assumption) (by rfl) ?_; refine S_op ?_; refine W_extract (by first | rfl | assumption) (by rfl) ?_; refine S_op ?_; refine W_assignStr (by first | rfl | assumption) ?_; refine S_op ?_; refine W_assignStr (by first | rfl | assumption) ?_; refine S_nil ?_; refine CW_seq ?_; refine CW_region rfl ?_; refine S_op ?_; refine W_movePtr (by first | rfl | assumption) ?_; refine S_op ?_; refine W_peqnil (by first | rfl | assumption) (by first | rfl | assumption) ?_; refine S_op ?_; refine W_moveBool (by first | rfl | assumption) ?_; refine S_want (by rfl) ?_; refine W_moveStr (by first | rfl | assumption) ?_; refine S_want (by rfl) ?_; refine W_moveStr (by first | rfl | assumption) ?_; refine S_want (by rfl) ?_; refine W_slssB (by first | rfl | assumption) (by first | rfl | assumption) (by assumption) ?_; refine S_op ?_; refine W_pickF (by first | rfl | assumption) (by first | rfl | assumption) ?_; refine S_nil ?_; refine CW_true (by first | rfl | assumption) ?_; refine CW_seq ?_; refine CW_region rfl ?_; refine S_op ?_; refine W_assignBool (by first | rfl | assumption) ?_; refine S_nil ?_; refine CW_ret ?_)
      have hI1 := hI.step hJ hG
      rw [fromL_nil_of (fun e he => slt_of_le_of_lt (Nd.le_hi hx.ok he) hk), List.append_nil]
      exact ⟨_, ResW_one (v := .bool _) rfl, .inl ⟨rfl, _, H, hI1⟩⟩
    | false =>
      (refine S_op ?_; refine W_moveTup (by first | rfl | assumption) ?_; refine S_op ?_; refine W_extract (by first | rfl | assumption) (by rfl) ?_; refine S_op ?_; refine W_extract (by first | rfl | assumption) (by rfl) ?_; refine S_op ?_; refine W_assignStr (by first | rfl | assumption) ?_; refine S_op ?_; refine W_assignStr (by first | rfl | assumption) ?_; refine S_nil ?_; refine CW_seq ?_; refine CW_region rfl ?_; refine S_op ?_; refine W_movePtr (by first | rfl | assumption) ?_; refine S_op ?_; refine W_peqnil (by first | rfl | assumption) (by first | rfl | assumption) ?_; refine S_op ?_; refine W_moveBool (by first | rfl | assumption) ?_; refine S_want (by rfl) ?_; refine W_moveStr (by first | rfl | assumption) ?_; refine S_want (by rfl) ?_; refine W_moveStr (by first | rfl | assumption) ?_; refine S_want (by rfl) ?_; refine W_slssB (by first | rfl | assumption) (by first | rfl | assumption) (by assumption) ?_; refine S_op ?_; refine W_pickF (by first | rfl | assumption) (by first | rfl | assumption) ?_; refine S_nil ?_; refine CW_false (by first | rfl | assumption) ?_; refine CW_skip ?_; refine CW_seq ?_; refine CW_seq ?_; refine CW_region rfl ?_; refine S_op ?_; refine W_movePtr (by first | rfl | assumption) ?_)
      (refine S_op ?_; refine W_call hS (by rfl) (entries_branch hx) ?_); rintro v H w hG' rfl; replace hG := hG.trans hG'; replace hS := hG'.sub; replace hx := hx.mono hG'.le; clear hG'
      (refine S_op ?_; refine W_len (by first | rfl | assumption) ?_; refine S_op ?_; refine W_moveInt (by first | rfl | assumption) ?_; refine S_nil ?_; refine CW_block ?_)
      refine CW_loopM [6, 10, 28, 29, 30, 31, 32, 33, 34, 35, 36, 37, 38, 39, 40, 41, 42, 43, 44, 45] (fun m u w2 => u 28 = .int .i64 0 ∧ w2 = w) (m := 0) ⟨rfl, rfl⟩ ?_
      rintro m u w2 ⟨h28, rfl⟩
      (refine CW_seq ?_; refine CW_region rfl ?_; refine S_op ?_; refine W_lssF (by first | rfl | assumption) (by first | rfl | assumption) (by first | omega | rfl) ?_; refine S_nil ?_; refine CW_seq ?_; refine CW_false (by first | rfl | assumption) ?_; refine CW_exit ?_; refine CW_seq ?_; refine CW_seq ?_; refine CW_region rfl ?_; refine S_op ?_; refine W_movePtr (by first | rfl | assumption) ?_)
      (refine S_op ?_; refine W_call hS (by rfl) (kids_c hx) ?_); rintro v H w hG' hv; replace hG := hG.trans hG'; replace hS := hG'.sub; replace hx := hx.mono hG'.le; clear hG'
      obtain ⟨B, d, rfl, hd, hsl, _⟩ := hv
      have hks := hx.kids
      have hxl := hx.ok.2.1
      (refine S_op ?_; refine W_len (by first | rfl | assumption) ?_; refine S_op ?_; refine W_moveInt (by first | rfl | assumption) ?_; refine S_nil ?_; refine CW_block ?_)
      refine CW_loopM [6, 12, 49, 50, 51, 52, 53, 54, 55, 56, 57, 58] (fun m u w2 => ∃ (i : Nat) (X : Nat → Prop) (H2 : HF), u 49 = .int .i64 (i : Int) ∧ i ≤ x.kids.length ∧ x.kids.length - i ≤ m ∧ HLe H H2 ∧ Its J X0 H0 w0 X (pre ++ fromL key ((x.kids.take i).flatMap (Nd.items h))) H2 w2)
        (m := x.kids.length) ⟨0, _, H, rfl, by omega, by omega, HLe.refl _, by simpa [fromL] using hI.step hJ hG⟩ ?_
      clear hI hG hS hj
      rintro m u w2 ⟨i, X, H2, h49, hi, hm, hle, hI⟩
      have hS := hI.sub
      have hG := Grow.refl hS
      replace hsl := hsl.mono hle
      replace hks := hks.mono hle
      by_cases hlt : i < x.kids.length
      · obtain ⟨bb, off, hA, hrow⟩ := slAt_some hsl hlt
        have hget := ptr_get hlt
        have hxi := hks x.kids[i] (List.getElem_mem _)
        have hft := flat_take hlt
        have hsp : x.kids.flatMap (Nd.items h) = (x.kids.take i).flatMap (Nd.items h) ++ (Nd.items h x.kids[i] ++ (x.kids.drop (i + 1)).flatMap (Nd.items h)) := by
          have e : x.kids = x.kids.take i ++ x.kids[i] :: x.kids.drop (i + 1) := by rw [← List.drop_eq_getElem_cons hlt, List.take_append_drop]
          exact (congrArg (List.flatMap (Nd.items h)) e).trans (by rw [List.flatMap_append, List.flatMap_cons])
        (refine CW_seq ?_; refine CW_region rfl ?_; refine S_op ?_; refine W_lssT (by first | rfl | assumption) (by first | rfl | assumption) (by first | omega | rfl) ?_; refine S_nil ?_; refine CW_seq ?_; refine CW_true (by first | rfl | assumption) ?_; refine CW_skip ?_; refine CW_seq ?_; refine CW_block ?_; refine CW_seq ?_; refine CW_region rfl ?_; refine S_op ?_; refine W_index (by first | rfl | assumption) (by first | rfl | assumption) (by first | assumption | omega | decide) (by first | rfl | assumption) ?_)
        refine S_op (W_loadRow (by rfl) hrow hget hS ?_)
        (refine S_op ?_; refine W_assignPtr (by first | rfl | assumption) ?_; refine S_nil ?_; refine CW_seq ?_; refine CW_region rfl ?_; refine S_op ?_; refine W_movePtr (by first | rfl | assumption) ?_; refine S_op ?_; refine W_moveStr (by first | rfl | assumption) ?_; refine S_op ?_; refine W_move rfl ?_)
        have hI1 := hI.step hJ hG
        refine S_op ?_
        refine W_callW (vs := [x.kids[i].ptr, .string key, y]) (by rfl) ((ih H2 _ x.kids[i] _ (pre ++ fromL key ((x.kids.take i).flatMap (Nd.items h))) (fromL key ((x.kids.drop (i + 1)).flatMap (Nd.items h)) ++ rest) hxi hS (by rw [hxs, hsp]; simp [fromL_append]) hI1.has).mono ?_)
        clear hI hG hS
        rintro v w (⟨rfl, X, H3, hI⟩ | ⟨rfl, X, H3, p, r, he, hI⟩)
        · (refine S_op ?_; refine W_not (by first | rfl | assumption) ?_; refine S_nil ?_; refine CW_false (by first | rfl | assumption) ?_; refine CW_skip ?_; refine CW_region rfl ?_; refine S_op ?_; refine W_add1 (by first | rfl | assumption) (by omega) ?_; refine S_op ?_; refine W_moveInt (by first | rfl | assumption) ?_; refine S_nil ?_)
          exact ⟨(by repeat (first | exact AgreeOff.over | refine AgreeOff.upd rfl ?_ | refine AgreeOff.over2 rfl ?_)), m - 1, by omega, i + 1, _, H3, rfl, by omega, by omega, hle.trans hI.le, by rw [hft, fromL_append]; simpa using hI1.trans hI⟩
        · (refine S_op ?_; refine W_not (by first | rfl | assumption) ?_; refine S_nil ?_; refine CW_true (by first | rfl | assumption) ?_; refine CW_seq ?_; refine CW_region rfl ?_; refine S_op ?_; refine W_assignBool (by first | rfl | assumption) ?_; refine S_nil ?_; refine CW_ret ?_)
          exact ⟨_, ResW_one (v := .bool _) rfl, .inr ⟨rfl, X, H3, p, r, he, hI1.trans hI⟩⟩
      · have hin : i = x.kids.length := by omega
        subst hin
        rw [List.take_length] at hI
        (refine CW_seq ?_; refine CW_region rfl ?_; refine S_op ?_; refine W_lssF (by first | rfl | assumption) (by first | rfl | assumption) (by first | omega | rfl) ?_; refine S_nil ?_; refine CW_seq ?_; refine CW_false (by first | rfl | assumption) ?_; refine CW_exit ?_; refine CW_seq ?_; refine CW_region rfl ?_; refine S_op ?_; refine W_assignBool (by first | rfl | assumption) ?_; refine S_nil ?_; refine CW_ret ?_)
        exact ⟨_, ResW_one (v := .bool _) rfl, goal _ _ (.inl ⟨rfl, _, H2, hI.step hJ hG⟩)⟩
end
end Go.Proofs.Ytnjeoobcejlojaa
