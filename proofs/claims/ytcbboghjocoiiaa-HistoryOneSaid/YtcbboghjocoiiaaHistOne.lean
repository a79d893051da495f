/- HistoryOne: it answers true. Conditions: sizes. -/
import Derived.Test.YtcbboghjocoiiaaLaw20
import Derived.Test.YtcbboghjocoiiaaApp
import Derived.Test.YtcbboghjocoiiaaCalls
import Derived.Test.YtcbboghjocoiiaaConv
import Derived.Test.YtcbboghjocoiiaaNewOwn
import Derived.Test.YtcbboghjocoiiaaMemBase
namespace Go.Proofs.Ytcbboghjocoiiaa
open Go.Proofs Go.RowKit
set_option linter.unusedVariables false
attribute [local irreducible] CW SeqW OpW
set_option maxHeartbeats 8000000
/-! ### Calls one after the other -/
def seqH : List Ent → List Call → Nat → List Don
  | _, [], _ => []
  | l, x :: xs, i => ⟨x, doesR l x, ((2 * i : Nat) : Int), ((2 * i + 1 : Nat) : Int)⟩ :: seqH (doesL l x) xs (i + 1)
def afterC (l : List Ent) (xs : List Call) : List Ent := xs.foldl doesL l
theorem afterC_rise {l : List Ent} (h : riseB l = true) (xs : List Call) : riseB (afterC l xs) = true := by
  induction xs generalizing l with
  | nil => exact h
  | cons x xs ih => exact ih (doesL_rise h x)
theorem afterC_len (l : List Ent) (xs : List Call) : (afterC l xs).length ≤ l.length + xs.length := by
  induction xs generalizing l with
  | nil => exact Nat.le_refl _
  | cons x xs ih =>
    have h1 := ih (doesL l x)
    have h2 := doesL_len l x
    show (afterC (doesL l x) xs).length ≤ _
    simp only [List.length_cons]; omega
theorem seqH_len (l : List Ent) (xs : List Call) (i : Nat) : (seqH l xs i).length = xs.length := by
  induction xs generalizing l i with
  | nil => rfl
  | cons x xs ih => simp [seqH, ih]
theorem seqH_snoc (l : List Ent) (xs : List Call) (x : Call) (i : Nat) : seqH l (xs ++ [x]) i = seqH l xs i ++ [⟨x, doesR (afterC l xs) x, ((2 * (i + xs.length) : Nat) : Int), ((2 * (i + xs.length) + 1 : Nat) : Int)⟩] := by
  induction xs generalizing l i with
  | nil => simp [seqH, afterC]
  | cons y xs ih =>
    simp only [List.cons_append, seqH, ih, List.length_cons]
    rw [show i + 1 + xs.length = i + (xs.length + 1) by omega]
    rfl
theorem seqH_times : ∀ {xs : List Call} {l : List Ent} {i j : Nat}, j < xs.length → (don (seqH l xs i) j).from_ = ((2 * (i + j) : Nat) : Int) ∧ (don (seqH l xs i) j).to_ = ((2 * (i + j) + 1 : Nat) : Int)
  | [], _, _, _, h => by simp at h
  | x :: xs, l, i, 0, _ => ⟨rfl, rfl⟩
  | x :: xs, l, i, j + 1, h => by
    have := seqH_times (xs := xs) (l := doesL l x) (i := i + 1) (j := j) (by simpa using h)
    rw [show i + 1 + j = i + (j + 1) by omega] at this
    exact this
theorem seqH_mem {xs : List Call} {l : List Ent} {i : Nat} {e : Don} (he : e ∈ seqH l xs i) : ((2 * i + 1 : Nat) : Int) ≤ e.to_ := by
  obtain ⟨j, hj, rfl⟩ := List.mem_iff_getElem.1 he
  have hj' : j < xs.length := by rw [seqH_len] at hj; exact hj
  have h1 := (seqH_times (xs := xs) (l := l) (i := i) hj').2
  have h2 : don (seqH l xs i) j = (seqH l xs i)[j] := by
    have := don_get hj
    rw [List.getElem?_eq_getElem hj] at this
    exact (Option.some.inj this).symm
  rw [h2] at h1
  rw [h1]; omega
theorem fits_seq : ∀ (xs : List Call) (l : List Ent) (i : Nat), Fits l (seqH l xs i)
  | [], _, _ => trivial
  | x :: xs, l, i => ⟨fun e he => by
      have := seqH_mem he
      show ¬ e.to_ < ((2 * i : Nat) : Int)
      omega, rfl, fits_seq xs (doesL l x) (i + 1)⟩
theorem lin_seq (l : List Ent) (xs : List Call) (i : Nat) : Lin l (seqH l xs i) := ⟨_, List.Perm.refl _, fits_seq xs l i⟩
def flipD (d : Don) : Don := { d with r := { d.r with yes := !d.r.yes } }
/-- The first one ends ahead of each other one's beginning: it must be the first. -/
theorem lin_first {l : List Ent} {d : Don} {t : List Don} (h : ∀ e ∈ t, d.to_ < e.from_) (hL : Lin l (d :: t)) : doesR l d.x = d.r ∧ Lin (doesL l d.x) t := by
  obtain ⟨i, hi, h1, h2, h3⟩ := (lin_step (by simp)).1 hL
  cases i with
  | zero => exact ⟨h2, by simpa [don] using h3⟩
  | succ i =>
    exfalso
    refine h1 0 (by simp) (by omega) ?_
    have hm : don (d :: t) (i + 1) ∈ t := by
      have hi' : i < t.length := by simpa using hi
      have : don (d :: t) (i + 1) = don t i := by simp [don]
      rw [this]; exact don_mem hi'
    exact h _ hm
theorem not_lin_flip : ∀ (xs : List Call) (l : List Ent) (i k : Nat), k < xs.length → ¬ Lin l ((seqH l xs i).set k (flipD (don (seqH l xs i) k)))
  | [], _, _, _, h => by simp at h
  | x :: xs, l, i, 0, _ => by
    intro hL
    simp only [seqH, List.set_cons_zero] at hL
    have h1 := (lin_first (fun e he => by
      obtain ⟨j, hj, rfl⟩ := List.mem_iff_getElem.1 he
      have hj' : j < xs.length := by rw [seqH_len] at hj; exact hj
      have h1 := (seqH_times (xs := xs) (l := doesL l x) (i := i + 1) hj').1
      have h2 : don (seqH (doesL l x) xs (i + 1)) j = (seqH (doesL l x) xs (i + 1))[j] := by
        have := don_get hj
        rw [List.getElem?_eq_getElem hj] at this
        exact (Option.some.inj this).symm
      rw [h2] at h1
      rw [h1]
      show ((2 * i + 1 : Nat) : Int) < _
      omega) hL).1
    have h2 : doesR l x = { doesR l x with yes := !(doesR l x).yes } := h1
    have h3 := congrArg Rep4.yes h2
    simp at h3
  | x :: xs, l, i, k + 1, h => by
    intro hL
    have hk : k < xs.length := by simpa using h
    have e1 : don (seqH l (x :: xs) i) (k + 1) = don (seqH (doesL l x) xs (i + 1)) k := by simp [don, seqH]
    rw [e1] at hL
    simp only [seqH, List.set_cons_succ] at hL
    have h1 := (lin_first (fun e he => by
      have h3 : ∀ j, j < xs.length → (don ((seqH (doesL l x) xs (i + 1)).set k (flipD (don (seqH (doesL l x) xs (i + 1)) k))) j).from_ = (don (seqH (doesL l x) xs (i + 1)) j).from_ := by
        intro j hj
        by_cases e : k = j
        · subst e
          have : k < (seqH (doesL l x) xs (i + 1)).length := by rw [seqH_len]; exact hj
          simp [don, this, flipD]
        · simp [don, List.getElem?_set, e]
      obtain ⟨j, hj, rfl⟩ := List.mem_iff_getElem.1 he
      have hj' : j < xs.length := by rw [List.length_set, seqH_len] at hj; exact hj
      have h1 := (seqH_times (xs := xs) (l := doesL l x) (i := i + 1) hj').1
      rw [← h3 j hj'] at h1
      have h2 : don ((seqH (doesL l x) xs (i + 1)).set k (flipD (don (seqH (doesL l x) xs (i + 1)) k))) j = ((seqH (doesL l x) xs (i + 1)).set k (flipD (don (seqH (doesL l x) xs (i + 1)) k)))[j] := by
        have := don_get hj
        rw [List.getElem?_eq_getElem hj] at this
        exact (Option.some.inj this).symm
      rw [h2] at h1
      rw [h1]
      show ((2 * i + 1 : Nat) : Int) < _
      omega) hL).2
    exact not_lin_flip xs (doesL l x) (i + 1) k hk h1
theorem dons_flip : ∀ {h : List Don} {k : Nat}, k < h.length → (dons h).set (k * 9 + 5) (.bool (!(don h k).r.yes)) = dons (h.set k (flipD (don h k)))
  | [], _, h => by simp at h
  | d :: t, 0, _ => by
    simp only [dons, List.set_cons_zero]
    rw [List.set_append_left _ _ (by simp [donCells_len])]
    rfl
  | d :: t, k + 1, h => by
    have ih := dons_flip (h := t) (k := k) (by simpa using h)
    have e1 : don (d :: t) (k + 1) = don t k := by simp [don]
    rw [e1]
    simp only [dons, List.set_cons_succ]
    rw [List.set_append_right _ _ (by simp [donCells_len]; omega), donCells_len, show (k + 1) * 9 + 5 - 9 = k * 9 + 5 by omega, ih]
theorem historyOne_c (H0 : HF) (A B : Option Addr) (c d : Nat) (l : List Ent) (xs : List Call) (p : Nat) (hp : p < 18446744073709551616) (hl : EntsAt H0 A l) (hc : l.length ≤ c) (hd : CallsAt H0 B xs) (hdc : xs.length ≤ d) (sl : SzE l) (hxb : xs.length ≤ 100000000000000) (sx : ∀ x ∈ xs, SzC x) :
    Fn Try.prog 5 [.slice A l.length c, .slice B xs.length d, .int .u64 (p : Int)] H0 fun v _ => v = .bool true := by
  refine Fn_of_CW Try.func5 rfl Try.ntmps5 Try.results5 rfl fun w0 hS => ?_; have hG := Grow.refl hS
  (refine CW_seq ?_; refine CW_region rfl ?_; refine S_op ?_; refine W_assignBool (by first | rfl | assumption) ?_; refine S_nil ?_; refine CW_seq ?_; refine CW_seq ?_; refine CW_region rfl ?_)
  (refine S_op ?_; refine W_call hS (by rfl) (awake20_c H0) ?_); rintro v H w hG' rfl; replace hG := hG.trans hG'; replace hS := hG'.sub; replace hl := hl.mono hG'.le; replace hd := hd.mono hG'.le; clear hG'
  (refine S_op ?_; refine W_not (by first | rfl | assumption) ?_; refine S_op ?_; refine W_moveBool (by first | rfl | assumption) ?_; refine S_want (by rfl) ?_; refine W_moveSl (by first | rfl | assumption) ?_)
  (refine S_want (by rfl) ?_; refine W_call hS (by rfl) (few20_c H A none c 0 l [] hl (.inl rfl) sl ⟨by simp, by intro d hd; cases hd⟩) ?_); rintro v H w hG' ⟨z, rfl, hz⟩; replace hG := hG.trans hG'; replace hS := hG'.sub; replace hl := hl.mono hG'.le; replace hd := hd.mono hG'.le; clear hG'
  cases z with
  | false =>
    skip
    (refine S_want (by rfl) ?_; refine W_not (by first | rfl | assumption) ?_; refine S_op ?_; refine W_pickF (by first | rfl | assumption) (by first | rfl | assumption) ?_; refine S_op ?_; refine W_moveBool (by first | rfl | assumption) ?_; refine S_pass (by rfl) ?_; refine S_pass (by rfl) ?_; refine S_pass (by rfl) ?_; refine S_op ?_; refine W_pickT (by first | rfl | assumption) (by first | rfl | assumption) ?_; refine S_nil ?_; refine CW_true (by first | rfl | assumption) ?_; refine CW_seq ?_; refine CW_region rfl ?_)
    (refine S_op ?_; refine W_call hS (by rfl) (awake20_c H) ?_); rintro v H w hG' rfl; replace hG := hG.trans hG'; replace hS := hG'.sub; clear hG'
    (refine S_op ?_; refine W_assignBool (by first | rfl | assumption) ?_; refine S_nil ?_; refine CW_ret ?_)
    exact ⟨_, ResW_one (v := .bool _) rfl, H, hG, rfl⟩
  | true =>
    obtain ⟨h40, h20, hr⟩ := hz rfl
    by_cases h7 : 7 < xs.length
    · skip
      (refine S_want (by rfl) ?_; refine W_not (by first | rfl | assumption) ?_; refine S_op ?_; refine W_pickF (by first | rfl | assumption) (by first | rfl | assumption) ?_; refine S_op ?_; refine W_moveBool (by first | rfl | assumption) ?_; refine S_want (by rfl) ?_; refine W_moveSl (by first | rfl | assumption) ?_; refine S_want (by rfl) ?_; refine W_len (by first | rfl | assumption) ?_; refine S_want (by rfl) ?_; refine W_gtrT (by first | rfl | assumption) (by first | rfl | assumption) (by first | omega | rfl) ?_; refine S_op ?_; refine W_pickF (by first | rfl | assumption) (by first | rfl | assumption) ?_; refine S_nil ?_; refine CW_true (by first | rfl | assumption) ?_; refine CW_seq ?_; refine CW_region rfl ?_)
      (refine S_op ?_; refine W_call hS (by rfl) (awake20_c H) ?_); rintro v H w hG' rfl; replace hG := hG.trans hG'; replace hS := hG'.sub; clear hG'
      (refine S_op ?_; refine W_assignBool (by first | rfl | assumption) ?_; refine S_nil ?_; refine CW_ret ?_)
      exact ⟨_, ResW_one (v := .bool _) rfl, H, hG, rfl⟩
    (refine S_want (by rfl) ?_; refine W_not (by first | rfl | assumption) ?_; refine S_op ?_; refine W_pickF (by first | rfl | assumption) (by first | rfl | assumption) ?_; refine S_op ?_; refine W_moveBool (by first | rfl | assumption) ?_; refine S_want (by rfl) ?_; refine W_moveSl (by first | rfl | assumption) ?_; refine S_want (by rfl) ?_; refine W_len (by first | rfl | assumption) ?_; refine S_want (by rfl) ?_; refine W_gtrF (by first | rfl | assumption) (by first | rfl | assumption) (by first | omega | rfl) ?_; refine S_op ?_; refine W_pickF (by first | rfl | assumption) (by first | rfl | assumption) ?_; refine S_nil ?_; refine CW_false (by first | rfl | assumption) ?_; refine CW_skip ?_; refine CW_seq ?_; refine CW_region rfl ?_; refine S_op ?_; refine W_assignSl (by first | rfl | assumption) ?_; refine S_nil ?_; refine CW_seq ?_; refine CW_region rfl ?_; refine S_op ?_; refine W_moveSl (by first | rfl | assumption) ?_; refine S_op ?_; refine W_assignSl (by first | rfl | assumption) ?_; refine S_nil ?_; refine CW_seq ?_; refine CW_seq ?_; refine CW_region rfl ?_; refine S_op ?_; refine W_moveSl (by first | rfl | assumption) ?_; refine S_op ?_; refine W_len (by first | rfl | assumption) ?_; refine S_op ?_; refine W_moveInt (by first | rfl | assumption) ?_; refine S_nil ?_; refine CW_block ?_)
    refine CW_loopM [6, 7, 8, 9, 10, 11, 33, 34, 35, 36, 37, 38, 39, 40, 41, 42, 43, 44, 45, 46, 47, 48, 49, 50, 51, 52, 53, 54, 55, 56, 57, 58, 59, 60, 61, 62, 63, 64, 65, 66, 67, 68, 69, 70, 71, 72, 73, 74]
      (fun m u w2 => ∃ (k : Nat) (A1 A2 : Option Addr) (c1 c2 : Nat) (H2 : HF), u 33 = .int .i64 (k : Int) ∧ u 7 = .slice A1 k c1 ∧ u 8 = .slice A2 (afterC l (xs.take k)).length c2 ∧ Grow H0 w0 H2 w2 ∧ EntsAt H2 A l ∧ CallsAt H2 B xs ∧ Own H2 w2 w0.heap.size 43 9 A1 k c1 (dons (seqH l (xs.take k) 0)) ∧ EntsAt H2 A2 (afterC l (xs.take k)) ∧ (afterC l (xs.take k)).length ≤ c2 ∧ k ≤ xs.length ∧ xs.length - k ≤ m)
      (m := xs.length) ⟨0, none, A, 0, c, H, rfl, rfl, rfl, hG, hl, hd, Own.nil _ _ _ _ _, hl, hc, by omega, by omega⟩ ?_
    clear hl hd hG hS
    rintro m u w ⟨k, A1, A2, c1, c2, H2, h33, h7', h8, hG, hl, hd, ho, hl2, hc2, hk, hm⟩
    have hS := hG.sub
    by_cases hlt : k < xs.length
    · obtain ⟨bb, off, hB, hrow⟩ := hd.some hlt
      obtain ⟨q1, q2⟩ := sx _ (cal_mem hlt)
      have hr2 := afterC_rise hr (xs.take k)
      have hn2 := afterC_len l (xs.take k)
      rw [List.length_take_of_le hk] at hn2
      (refine CW_seq ?_; refine CW_region rfl ?_; refine S_op ?_; refine W_lssT (by first | rfl | assumption) (by first | rfl | assumption) (by first | omega | rfl) ?_; refine S_nil ?_; refine CW_seq ?_; refine CW_true (by first | rfl | assumption) ?_; refine CW_skip ?_; refine CW_seq ?_; refine CW_block ?_; refine CW_seq ?_; refine CW_region rfl ?_; refine S_op ?_; refine W_moveInt (by first | rfl | assumption) ?_; refine S_op ?_; refine W_assignInt (by first | rfl | assumption) ?_; refine S_nil ?_; refine CW_seq ?_; refine CW_seq ?_)
      apply CW_region_grow [_, _, _, _, _, _, _, _, _, _, _, _, _, _] [none, none, none, none, none, none, none, none, none, none, none, none, none, none] [some 36, some 37, some 38, some 39, some 40, some 41, some 42, some 43, some 44, some 45, some 46, some 47, some 48, some 49] [36, 37, 38, 39, 40, 41, 42, 43, 44, 45, 46, 47, 48, 49] mixed rfl rfl rfl rfl (by decide) rfl (by assumption)
      · ((apply steps_cons; case h1 => (apply A_pure; intro c u H' w' hG; have hS' := hG.sub; have hS2' := hG.subOld; (repeat (first | refine depGo_eq rfl rfl rfl ?_ | (refine depGo_fact rfl rfl rfl ?_; intro v hv) | refine depGo_skip rfl ?_ | refine depGo_none rfl ?_)); apply Pure1.mk; intro K hk; exact W_moveSl (by first | rfl | assumption) hk)); (apply steps_cons; case h1 => (apply A_pure; intro c u H' w' hG; have hS' := hG.sub; have hS2' := hG.subOld; (repeat (first | refine depGo_eq rfl rfl rfl ?_ | (refine depGo_fact rfl rfl rfl ?_; intro v hv) | refine depGo_skip rfl ?_ | refine depGo_none rfl ?_)); apply Pure1.mk; intro K hk; exact W_moveInt (by first | rfl | assumption) hk)); (apply steps_cons; case h1 => (apply A_pure; intro c u H' w' hG; have hS' := hG.sub; have hS2' := hG.subOld; (repeat (first | refine depGo_eq rfl rfl rfl ?_ | (refine depGo_fact rfl rfl rfl ?_; intro v hv) | refine depGo_skip rfl ?_ | refine depGo_none rfl ?_)); apply Pure1.mk; intro K hk; exact W_index (by first | rfl | assumption) (by first | rfl | assumption) (by first | assumption | omega | decide) (by first | rfl | assumption) hk)); (apply steps_cons; case h1 => (apply A_pure; intro c u H' w' hG; have hS' := hG.sub; have hS2' := hG.subOld; (repeat (first | refine depGo_eq rfl rfl rfl ?_ | (refine depGo_fact rfl rfl rfl ?_; intro v hv) | refine depGo_skip rfl ?_ | refine depGo_none rfl ?_)); apply Pure1.mk; intro K hk; exact W_field (by first | rfl | assumption) hk)); (apply steps_cons; case h1 => (apply A_pure; intro c u H' w' hG; have hS' := hG.sub; have hS2' := hG.subOld; (repeat (first | refine depGo_eq rfl rfl rfl ?_ | (refine depGo_fact rfl rfl rfl ?_; intro v hv) | refine depGo_skip rfl ?_ | refine depGo_none rfl ?_)); apply Pure1.mk; intro K hk; exact W_loadOj (by first | rfl | assumption) (by assumption) (by first | assumption | omega) (by assumption) hk)); (apply steps_cons; case h1 => (apply A_pure; intro c u H' w' hG; have hS' := hG.sub; have hS2' := hG.subOld; (repeat (first | refine depGo_eq rfl rfl rfl ?_ | (refine depGo_fact rfl rfl rfl ?_; intro v hv) | refine depGo_skip rfl ?_ | refine depGo_none rfl ?_)); apply Pure1.mk; intro K hk; exact W_lenS (by first | rfl | assumption) hk)); (apply steps_cons; case h1 => (apply A_pure; intro c u H' w' hG; have hS' := hG.sub; have hS2' := hG.subOld; (repeat (first | refine depGo_eq rfl rfl rfl ?_ | (refine depGo_fact rfl rfl rfl ?_; intro v hv) | refine depGo_skip rfl ?_ | refine depGo_none rfl ?_)); apply Pure1.mk; intro K hk; exact W_moveSl (by first | rfl | assumption) hk)); (apply steps_cons; case h1 => (apply A_pure; intro c u H' w' hG; have hS' := hG.sub; have hS2' := hG.subOld; (repeat (first | refine depGo_eq rfl rfl rfl ?_ | (refine depGo_fact rfl rfl rfl ?_; intro v hv) | refine depGo_skip rfl ?_ | refine depGo_none rfl ?_)); apply Pure1.mk; intro K hk; exact W_moveInt (by first | rfl | assumption) hk)); (apply steps_cons; case h1 => (apply A_pure; intro c u H' w' hG; have hS' := hG.sub; have hS2' := hG.subOld; (repeat (first | refine depGo_eq rfl rfl rfl ?_ | (refine depGo_fact rfl rfl rfl ?_; intro v hv) | refine depGo_skip rfl ?_ | refine depGo_none rfl ?_)); apply Pure1.mk; intro K hk; exact W_index (by first | rfl | assumption) (by first | rfl | assumption) (by first | assumption | omega | decide) (by first | rfl | assumption) hk)); (apply steps_cons; case h1 => (apply A_pure; intro c u H' w' hG; have hS' := hG.sub; have hS2' := hG.subOld; (repeat (first | refine depGo_eq rfl rfl rfl ?_ | (refine depGo_fact rfl rfl rfl ?_; intro v hv) | refine depGo_skip rfl ?_ | refine depGo_none rfl ?_)); apply Pure1.mk; intro K hk; exact W_field (by first | rfl | assumption) hk)); (apply steps_cons; case h1 => (apply A_pure; intro c u H' w' hG; have hS' := hG.sub; have hS2' := hG.subOld; (repeat (first | refine depGo_eq rfl rfl rfl ?_ | (refine depGo_fact rfl rfl rfl ?_; intro v hv) | refine depGo_skip rfl ?_ | refine depGo_none rfl ?_)); apply Pure1.mk; intro K hk; exact W_loadOk (by first | rfl | assumption) (by assumption) (by first | assumption | omega) (by assumption) hk)); (apply steps_cons; case h1 => (apply A_pure; intro c u H' w' hG; have hS' := hG.sub; have hS2' := hG.subOld; (repeat (first | refine depGo_eq rfl rfl rfl ?_ | (refine depGo_fact rfl rfl rfl ?_; intro v hv) | refine depGo_skip rfl ?_ | refine depGo_none rfl ?_)); apply Pure1.mk; intro K hk; exact W_lenS (by first | rfl | assumption) hk)); (apply steps_cons; case h1 => (apply A_pure; intro c u H' w' hG; have hS' := hG.sub; have hS2' := hG.subOld; (repeat (first | refine depGo_eq rfl rfl rfl ?_ | (refine depGo_fact rfl rfl rfl ?_; intro v hv) | refine depGo_skip rfl ?_ | refine depGo_none rfl ?_)); apply Pure1.mk; intro K hk; exact W_addN (by first | rfl | assumption) (by first | rfl | assumption) (by omega) hk)); (apply steps_cons; case h1 => (apply A_pure; intro c u H' w' hG; have hS' := hG.sub; have hS2' := hG.subOld; (repeat (first | refine depGo_eq rfl rfl rfl ?_ | (refine depGo_fact rfl rfl rfl ?_; intro v hv) | refine depGo_skip rfl ?_ | refine depGo_none rfl ?_)); apply Pure1.mk; intro K hk; exact W_gtrC (by first | rfl | assumption) hk)); exact trivial)
      intro H w hG'
      (repeat (first | refine fin_eq rfl rfl ?_ | (refine fin_fact rfl ?_; intro v hv) | refine fin_none rfl ?_)); refine fin_nil ?_
      replace hG := hG.trans hG'
      replace hS := hG'.sub
      replace hl := hl.mono hG'.le
      replace hl2 := hl2.mono hG'.le
      replace hd := hd.mono hG'.le
      replace hrow := hrow.mono hG'.le
      replace ho := ho.grow hG'
      clear hG'
      by_cases hbig : (1000 : Int) < (((cal xs k).key.size + (cal xs k).val.size : Nat) : Int)
      · rw [decide_eq_true hbig]
        (refine CW_true (by first | rfl | assumption) ?_; refine CW_seq ?_; refine CW_region rfl ?_; refine S_op ?_; refine W_assignBool (by first | rfl | assumption) ?_; refine S_nil ?_; refine CW_ret ?_)
        exact ⟨_, ResW_one (v := .bool _) rfl, H, hG, rfl⟩
      · rw [decide_eq_false hbig]
        (refine CW_false (by first | rfl | assumption) ?_; refine CW_skip ?_; refine CW_seq ?_; refine CW_region rfl ?_; refine S_op ?_; refine W_moveSl (by first | rfl | assumption) ?_; refine S_op ?_; refine W_moveSl (by first | rfl | assumption) ?_; refine S_op ?_; refine W_moveInt (by first | rfl | assumption) ?_; refine S_op ?_; refine W_index (by first | rfl | assumption) (by first | rfl | assumption) (by first | assumption | omega | decide) (by first | rfl | assumption) ?_; refine S_op ?_; refine W_loadOi (by first | rfl | assumption) (by assumption) (by first | assumption | omega) (by assumption) ?_)
        (refine S_op ?_; refine W_call hS (by rfl) (rDoes_c H A2 c2 (afterC l (xs.take k)) (cal xs k) hl2 hc2 hr2 (by omega)) ?_); rintro v H w hG' ⟨s, rfl, hs⟩; replace hG := hG.trans hG'; replace hS := hG'.sub; replace hl := hl.mono hG'.le; replace hd := hd.mono hG'.le; replace hrow := hrow.mono hG'.le; replace ho := ho.grow hG'; clear hG'
        obtain ⟨A3, c3, rfl, hc3, hl3⟩ := hs
        (refine S_op ?_; refine W_moveTup (by first | rfl | assumption) ?_; refine S_op ?_; refine W_extract (by first | rfl | assumption) (by rfl) ?_; refine S_op ?_; refine W_extract (by first | rfl | assumption) (by rfl) ?_)
        (refine S_op (W_alloc hS ?_)); intro w yab hG' yah ya; have n_ho_ya := fun (a : Addr) ha => Nat.ne_of_lt (Nat.lt_of_lt_of_eq (ho.block (a := a) ha).2 yah); replace yah := Nat.le_trans hG.below.size (Nat.le_of_eq yah); replace hG := hG.trans hG'; replace hS := hG'.sub; replace ho := ho.grow hG'; clear hG'
        (refine S_op ?_; refine W_assignSl (by first | rfl | assumption) ?_)
        (refine S_op0 (W_storeM (o := 0) (vs := repCells (doesR (afterC l (xs.take k)) (cal xs k))) (by rfl) (by rfl) ya (by rfl) (OneCells.of_all (by rfl)) (by rfl) (Nat.le_of_ble_eq_true (by rfl)) ?_)); intro w hgb' hm'; replace hG := hG.grownBy hgb' (fun g h => by cases h; exact ⟨ya.out, yah⟩); replace hS := hG.sub; replace ya : Mut _ w yab (repCells (doesR (afterC l (xs.take k)) (cal xs k))) := hm'; clear hm'; replace ho := ho.other hgb' (fun a ha e2 => n_ho_ya a ha (Option.some.inj e2)); clear hgb'
        (obtain ⟨H, _, hle', hG, hm', hoth'⟩ := ya.freeze hG yah); replace hS := hG.sub; clear ya; have ya := hm'; clear hm'; replace hl := hl.mono hle'; replace hd := hd.mono hle'; replace hrow := hrow.mono hle'; replace hl3 := hl3.mono hle'; replace ho := Own.mk ho.row (fun a ha => (hoth' _ (n_ho_ya a ha)).trans (ho.out a ha)); clear hle' hoth'
        (refine S_nil ?_; refine CW_seq ?_)
        have hnews : ∀ n, n = k → donCells ⟨cal xs k, doesR (afterC l (xs.take k)) (cal xs k), ((2 * n : Nat) : Int), ((2 * n + 1 : Nat) : Int)⟩ = donCells ⟨cal xs k, doesR (afterC l (xs.take k)) (cal xs k), ((2 * k : Nat) : Int), ((2 * k + 1 : Nat) : Int)⟩ := fun n h => by rw [h]
        apply CW_region_gu [72, 7] (AppM w0.heap.size 43 9 A1 k c1 (dons (seqH l (xs.take k) 0)) (donCells ⟨cal xs k, doesR (afterC l (xs.take k)) (cal xs k), ((2 * k : Nat) : Int), ((2 * k + 1 : Nat) : Int)⟩) 72 7) 1 [_, _, _, _, _, _, _, _, _, _, _, _, _, _, _] [none, none, none, none, none, none, none, none, none, none, none, none, none, some 0, some 1] [some 1, none, none, none, none, none, none, none, none, none, none, none, none, none, none] [some 59, some 60, some 61, some 62, some 63, some 64, some 65, some 66, some 67, some 68, some 69, some 70, some 71, some 72, some 7] [59, 60, 61, 62, 63, 64, 65, 66, 67, 68, 69, 70, 71, 72, 7] mixed rfl rfl rfl rfl (by decide) rfl rfl rfl rfl (by assumption)
        · exact AppM.begin h7' ho
        · exact AppM.cl rfl rfl
        · apply stepsU_cons; case h1 => (apply U_pure; (case hd => rfl); intro c u H' w' hB hG'; have h8 := hG'.m.old hB; (repeat (first | refine depU_eq rfl rfl rfl ?_ | (refine depU_fact rfl rfl rfl ?_; intro v hu hv) | refine depU_skip rfl ?_ | refine depU_none rfl ?_)); refine depU_nil ?_; apply Pure1.mk; intro K hk; exact W_moveSl h8 hk)
          ((apply stepsU_cons; case h1 => (apply U_pure; (case hd => rfl); intro c u H' w' hB hG; have hS' := hG.sub; have hS2' := hG.subOld; (repeat (first | refine depU_eq rfl rfl rfl ?_ | (refine depU_fact rfl rfl rfl ?_; intro v hu hv) | refine depU_skip rfl ?_ | refine depU_none rfl ?_)); apply Pure1.mk; intro K hk; exact W_moveSl (by first | rfl | assumption) hk)); (apply stepsU_cons; case h1 => (apply U_pure; (case hd => rfl); intro c u H' w' hB hG; have hS' := hG.sub; have hS2' := hG.subOld; (repeat (first | refine depU_eq rfl rfl rfl ?_ | (refine depU_fact rfl rfl rfl ?_; intro v hu hv) | refine depU_skip rfl ?_ | refine depU_none rfl ?_)); apply Pure1.mk; intro K hk; exact W_moveInt (by first | rfl | assumption) hk)); (apply stepsU_cons; case h1 => (apply U_pure; (case hd => rfl); intro c u H' w' hB hG; have hS' := hG.sub; have hS2' := hG.subOld; (repeat (first | refine depU_eq rfl rfl rfl ?_ | (refine depU_fact rfl rfl rfl ?_; intro v hu hv) | refine depU_skip rfl ?_ | refine depU_none rfl ?_)); apply Pure1.mk; intro K hk; exact W_index (by first | rfl | assumption) (by first | rfl | assumption) (by first | assumption | omega | decide) (by first | rfl | assumption) hk)); (apply stepsU_cons; case h1 => (apply U_pure; (case hd => rfl); intro c u H' w' hB hG; have hS' := hG.sub; have hS2' := hG.subOld; (repeat (first | refine depU_eq rfl rfl rfl ?_ | (refine depU_fact rfl rfl rfl ?_; intro v hu hv) | refine depU_skip rfl ?_ | refine depU_none rfl ?_)); apply Pure1.mk; intro K hk; exact W_loadOi (by first | rfl | assumption) (by assumption) (by first | assumption | omega) (by assumption) hk)); (apply stepsU_cons; case h1 => (apply U_pure; (case hd => rfl); intro c u H' w' hB hG; have hS' := hG.sub; have hS2' := hG.subOld; (repeat (first | refine depU_eq rfl rfl rfl ?_ | (refine depU_fact rfl rfl rfl ?_; intro v hu hv) | refine depU_skip rfl ?_ | refine depU_none rfl ?_)); apply Pure1.mk; intro K hk; exact W_loadWhole (by first | rfl | assumption) (by assumption) (by rfl) (by assumption) hk)); (apply stepsU_cons; case h1 => (apply U_pure; (case hd => rfl); intro c u H' w' hB hG; have hS' := hG.sub; have hS2' := hG.subOld; (repeat (first | refine depU_eq rfl rfl rfl ?_ | (refine depU_fact rfl rfl rfl ?_; intro v hu hv) | refine depU_skip rfl ?_ | refine depU_none rfl ?_)); apply Pure1.mk; intro K hk; exact W_moveInt (by first | rfl | assumption) hk)); (apply stepsU_cons; case h1 => (apply U_pure; (case hd => rfl); intro c u H' w' hB hG; have hS' := hG.sub; have hS2' := hG.subOld; (repeat (first | refine depU_eq rfl rfl rfl ?_ | (refine depU_fact rfl rfl rfl ?_; intro v hu hv) | refine depU_skip rfl ?_ | refine depU_none rfl ?_)); apply Pure1.mk; intro K hk; exact W_mul2 (by first | rfl | assumption) (by omega) hk)); (apply stepsU_cons; case h1 => (apply U_pure; (case hd => rfl); intro c u H' w' hB hG; have hS' := hG.sub; have hS2' := hG.subOld; (repeat (first | refine depU_eq rfl rfl rfl ?_ | (refine depU_fact rfl rfl rfl ?_; intro v hu hv) | refine depU_skip rfl ?_ | refine depU_none rfl ?_)); apply Pure1.mk; intro K hk; exact W_moveInt (by first | rfl | assumption) hk)); (apply stepsU_cons; case h1 => (apply U_pure; (case hd => rfl); intro c u H' w' hB hG; have hS' := hG.sub; have hS2' := hG.subOld; (repeat (first | refine depU_eq rfl rfl rfl ?_ | (refine depU_fact rfl rfl rfl ?_; intro v hu hv) | refine depU_skip rfl ?_ | refine depU_none rfl ?_)); apply Pure1.mk; intro K hk; exact W_mul2 (by first | rfl | assumption) (by omega) hk)); (apply stepsU_cons; case h1 => (apply U_pure; (case hd => rfl); intro c u H' w' hB hG; have hS' := hG.sub; have hS2' := hG.subOld; (repeat (first | refine depU_eq rfl rfl rfl ?_ | (refine depU_fact rfl rfl rfl ?_; intro v hu hv) | refine depU_skip rfl ?_ | refine depU_none rfl ?_)); apply Pure1.mk; intro K hk; exact W_add1 (by first | rfl | assumption) (by omega) hk)))
          apply stepsU_cons; case h1 => (apply U_pure; (case hd => rfl); intro c u H' w' hB hG'; (repeat (first | refine depU_eq rfl rfl rfl ?_ | (refine depU_fact rfl rfl rfl ?_; intro v hu hv) | refine depU_skip rfl ?_ | refine depU_none rfl ?_)); refine depU_nil ?_; apply Pure1.mk; intro K hk; exact W_build (cs := donCells ⟨cal xs k, doesR (afterC l (xs.take k)) (cal xs k), ((2 * k : Nat) : Int), ((2 * k + 1 : Nat) : Int)⟩) (fill_don4 _ _ _ _) hk)
          apply stepsU_cons
          · refine U_fact (by rfl) (φ := fun v H => ∃ b, v = .slice (some ⟨b, 0, none⟩) 1 1 ∧ SlAt H (some ⟨b, 0, none⟩) (donCells ⟨cal xs k, doesR (afterC l (xs.take k)) (cal xs k), ((2 * k : Nat) : Int), ((2 * k + 1 : Nat) : Int)⟩)) ?_
            intro c' u H' w' hB hG'
            have hS' := hG'.sub
            (repeat (first | refine depU_eq rfl rfl rfl ?_ | (refine depU_fact rfl rfl rfl ?_; intro v hu hv) | refine depU_skip rfl ?_ | refine depU_none rfl ?_))
            refine depU_nil ?_
            refine W_build1 (sz := 9) (v := .agg (donCells ⟨cal xs k, doesR (afterC l (xs.take k)) (cal xs k), ((2 * k : Nat) : Int), ((2 * k + 1 : Nat) : Int)⟩).toArray) hS' (by omega) (by rfl) (by rfl) ?_
            intro H3 w3 b hG3 hb3 _ _
            exact ⟨H3, hG3.le, hG'.trans hG3, fun H'' hle => ⟨b, rfl, SlAt.of_row (hle _ _ hb3)⟩⟩
          apply stepsU_cons
          · refine U_eff (φ := fun _ _ => True) ?_
            intro u' H' w' hG'
            (repeat (first | refine depU_eq rfl rfl rfl ?_ | (refine depU_fact rfl rfl rfl ?_; intro v hu hv) | refine depU_skip rfl ?_ | refine depU_none rfl ?_))
            obtain ⟨b2, rfl, hb2⟩ := hv
            refine depU_nil ?_
            refine W_append (news := donCells ⟨cal xs k, doesR (afterC l (xs.take k)) (cal xs k), ((2 * k : Nat) : Int), ((2 * k + 1 : Nat) : Int)⟩) (m := 1) (by rfl) (by rfl) hG'.grow (hG'.m.2.1 rfl) (hb2.cells hG'.sub) (by rfl) (OneCells.of_all (by rfl)) (by decide) (by omega) (by omega) ?_
            intro A' c' w3 hg3 ho3 _ _
            exact ⟨H', HLe.refl _, hG'.next hg3 (HLe.refl _) (hG'.m.app rfl ho3), fun _ _ => trivial⟩
          apply stepsU_cons
          · refine U_eff (φ := fun _ _ => True) ?_
            intro u' H' w' hG'
            (repeat (first | refine depU_eq rfl rfl rfl ?_ | (refine depU_fact rfl rfl rfl ?_; intro v hu hv) | refine depU_skip rfl ?_ | refine depU_none rfl ?_))
            refine depU_nil ?_
            refine W_assign (by rfl) ?_
            exact ⟨H', HLe.refl _, hG'.next hG'.grow (HLe.refl _) (hG'.m.asg rfl hu), fun _ _ => trivial⟩
          (exact trivial)
        intro q u2 H w hq hG hle hm8
        (repeat (first | refine finU_eq rfl rfl ?_ | (refine finU_fact rfl ?_; intro v hu hv) | refine finU_none rfl ?_)); refine finU_nil ?_
        obtain ⟨A5, c5, e5, o5⟩ := hm8.fin hq
        have hv : v = .slice A5 (k + 1) c5 := hu.symm.trans e5
        subst hv
        replace hl := hl.mono hle
        replace hd := hd.mono hle
        replace hl3 := hl3.mono hle
        have e1 : xs.take (k + 1) = xs.take k ++ [cal xs k] := by
          have h1 : xs[k] = cal xs k := by
            have := cal_get hlt
            rw [List.getElem?_eq_getElem hlt] at this
            exact Option.some.inj this
          rw [take_succ' hlt, h1]
        have e2 : afterC l (xs.take (k + 1)) = doesL (afterC l (xs.take k)) (cal xs k) := by rw [e1]; simp [afterC, List.foldl_append]
        have e3 : dons (seqH l (xs.take (k + 1)) 0) = dons (seqH l (xs.take k) 0) ++ donCells ⟨cal xs k, doesR (afterC l (xs.take k)) (cal xs k), ((2 * k : Nat) : Int), ((2 * k + 1 : Nat) : Int)⟩ := by
          rw [e1, seqH_snoc, dons_append, List.length_take_of_le hk, Nat.zero_add]
          simp [dons]
        rw [← e2] at hl3 hc3 ⊢
        (refine CW_region rfl ?_; refine S_op ?_; refine W_moveSl (by first | rfl | assumption) ?_; refine S_op ?_; refine W_assignSl (by first | rfl | assumption) ?_; refine S_nil ?_; refine CW_region rfl ?_; refine S_op ?_; refine W_add1 (by first | rfl | assumption) (by omega) ?_; refine S_op ?_; refine W_moveInt (by first | rfl | assumption) ?_; refine S_nil ?_)
        exact ⟨(by repeat (first | exact AgreeOff.over | refine AgreeOff.upd rfl ?_ | refine AgreeOff.over2 rfl ?_)), m - 1, by omega, k + 1, A5, A3, c5, c3, H, rfl, rfl, rfl, hG, hl, hd, (by rw [e3]; exact o5), hl3, hc3, by omega, by omega⟩
    · have hkn : k = xs.length := by omega
      subst hkn
      rw [List.take_length] at ho
      have hc1 := ho.cap
      have hlen := seqH_len l xs 0
      (refine CW_seq ?_; refine CW_region rfl ?_; refine S_op ?_; refine W_lssF (by first | rfl | assumption) (by first | rfl | assumption) (by first | omega | rfl) ?_; refine S_nil ?_; refine CW_seq ?_; refine CW_false (by first | rfl | assumption) ?_; refine CW_exit ?_; refine CW_seq ?_; refine CW_region rfl ?_; refine S_op ?_; refine W_moveSl (by first | rfl | assumption) ?_; refine S_op ?_; refine W_moveSl (by first | rfl | assumption) ?_)
      refine S_op ?_
      refine W_callW (by rfl) ((CallW.lentOwn hS ho (fun H1 hle1 hat => made_c H1 A1 c1 xs.length (seqH l xs 0) hlen hat (by omega))).mono ?_)
      rintro v w ⟨H1, H3, H, hle1, hle2, hle3, hG', hnew, hbb⟩
      replace hnew := hnew.lent hle1 hbb
      replace hG := hG.trans hG'
      replace hS := hG'.sub
      replace hl := hl.mono hG'.le
      replace ho := ho.grow hG'
      clear hG' hle1 hle2 hle3 hbb
      obtain ⟨A4, c4, rfl, hc4, hm4⟩ := hnew.dons
      skip
      (refine S_op ?_; refine W_call hS (by rfl) (linear_c H A A4 c c4 l (seqH l xs 0) xs.length hlen hl hc (by omega) hm4 hc4) ?_); rintro v H w hG' hv; replace hG := hG.trans hG'; replace hS := hG'.sub; replace hl := hl.mono hG'.le; replace ho := ho.grow hG'; clear hG'
      rcases hv with ⟨q7, _⟩ | ⟨q7, u1, rfl, ⟨rfl, _⟩ | ⟨_, hN⟩⟩
      · omega
      · by_cases h0 : xs.length = 0
        · (refine S_op ?_; refine W_moveTup (by first | rfl | assumption) ?_; refine S_op ?_; refine W_extract (by first | rfl | assumption) (by rfl) ?_; refine S_op ?_; refine W_extract (by first | rfl | assumption) (by rfl) ?_; refine S_op ?_; refine W_assignBool (by first | rfl | assumption) ?_; refine S_op ?_; refine W_assignInt (by first | rfl | assumption) ?_; refine S_nil ?_; refine CW_seq ?_; refine CW_seq ?_; refine CW_region rfl ?_; refine S_op ?_; refine W_moveBool (by first | rfl | assumption) ?_; refine S_op ?_; refine W_not (by first | rfl | assumption) ?_; refine S_op ?_; refine W_moveBool (by first | rfl | assumption) ?_; refine S_want (by rfl) ?_; refine W_moveInt (by first | rfl | assumption) ?_; refine S_want (by rfl) ?_; refine W_neqF (by first | rfl | assumption) (by first | rfl | assumption) (by first | omega | rfl) ?_; refine S_op ?_; refine W_pickF (by first | rfl | assumption) (by first | rfl | assumption) ?_; refine S_nil ?_; refine CW_false (by first | rfl | assumption) ?_; refine CW_skip ?_; refine CW_seq ?_; refine CW_seq ?_; refine CW_region rfl ?_; refine S_op ?_; refine W_moveSl (by first | rfl | assumption) ?_; refine S_op ?_; refine W_len (by first | rfl | assumption) ?_; refine S_op ?_; refine W_eqlT (by first | rfl | assumption) (by first | rfl | assumption) (by first | omega | rfl) ?_; refine S_nil ?_; refine CW_true (by first | rfl | assumption) ?_; refine CW_seq ?_; refine CW_region rfl ?_; refine S_op ?_; refine W_assignBool (by first | rfl | assumption) ?_; refine S_nil ?_; refine CW_ret ?_)
          exact ⟨_, ResW_one (v := .bool _) rfl, H, hG, rfl⟩
        have hpn : p % xs.length < xs.length := Nat.mod_lt _ (by omega)
        have hpk : p % xs.length < (seqH l xs 0).length := by rw [hlen]; exact hpn
        obtain ⟨g1, cs, rfl, hBg, hmut, htake⟩ := ho.mut (by omega)
        (refine S_op ?_; refine W_moveTup (by first | rfl | assumption) ?_; refine S_op ?_; refine W_extract (by first | rfl | assumption) (by rfl) ?_; refine S_op ?_; refine W_extract (by first | rfl | assumption) (by rfl) ?_; refine S_op ?_; refine W_assignBool (by first | rfl | assumption) ?_; refine S_op ?_; refine W_assignInt (by first | rfl | assumption) ?_; refine S_nil ?_; refine CW_seq ?_; refine CW_seq ?_; refine CW_region rfl ?_; refine S_op ?_; refine W_moveBool (by first | rfl | assumption) ?_; refine S_op ?_; refine W_not (by first | rfl | assumption) ?_; refine S_op ?_; refine W_moveBool (by first | rfl | assumption) ?_; refine S_want (by rfl) ?_; refine W_moveInt (by first | rfl | assumption) ?_; refine S_want (by rfl) ?_; refine W_neqF (by first | rfl | assumption) (by first | rfl | assumption) (by first | omega | rfl) ?_; refine S_op ?_; refine W_pickF (by first | rfl | assumption) (by first | rfl | assumption) ?_; refine S_nil ?_; refine CW_false (by first | rfl | assumption) ?_; refine CW_skip ?_; refine CW_seq ?_; refine CW_seq ?_; refine CW_region rfl ?_; refine S_op ?_; refine W_moveSl (by first | rfl | assumption) ?_; refine S_op ?_; refine W_len (by first | rfl | assumption) ?_; refine S_op ?_; refine W_eqlF (by first | rfl | assumption) (by first | rfl | assumption) (by first | omega | rfl) ?_; refine S_nil ?_; refine CW_false (by first | rfl | assumption) ?_; refine CW_skip ?_; refine CW_seq ?_; refine CW_region rfl ?_; refine S_op ?_; refine W_moveInt (by first | rfl | assumption) ?_; refine S_op ?_; refine W_moveSl (by first | rfl | assumption) ?_; refine S_op ?_; refine W_len (by first | rfl | assumption) ?_)
        refine S_op (W_convInt (by rfl) (IntWalk.u64_in _ (by omega)) ?_)
        (refine S_op ?_; refine W_remN (by first | rfl | assumption) (by first | rfl | assumption) (by omega) ?_; refine S_op ?_; refine W_assignInt (by first | rfl | assumption) ?_; refine S_nil ?_; refine CW_seq ?_; refine CW_region rfl ?_; refine S_op ?_; refine W_moveSl (by first | rfl | assumption) ?_; refine S_op ?_; refine W_moveInt (by first | rfl | assumption) ?_; refine S_op ?_; refine W_moveSl (by first | rfl | assumption) ?_; refine S_op ?_; refine W_moveInt (by first | rfl | assumption) ?_; refine S_op ?_; refine W_index (by first | rfl | assumption) (by first | rfl | assumption) (by first | assumption | omega | decide) (by first | rfl | assumption) ?_; refine S_op ?_; refine W_field (by first | rfl | assumption) ?_; refine S_op ?_; refine W_field (by first | rfl | assumption) ?_)
        generalize p % xs.length = q at *
        have hcell : cs[0 + q * 9 + 3 + 2]? = some (.bool (don (seqH l xs 0) q).r.yes) := by
          have h1 := dons_at (l := seqH l xs 0) (i := q) (j := 5) hpk (by omega)
          rw [← htake, List.getElem?_take, if_pos (by omega)] at h1
          rw [show 0 + q * 9 + 3 + 2 = q * 9 + 5 by omega, h1]; rfl
        have hcl : 0 + q * 9 + 3 + 2 < cs.length := (List.getElem?_eq_some_iff.1 hcell).1
        refine S_op (W_loadM (by rfl) hmut hcell ?_)
        (refine S_op ?_; refine W_not (by first | rfl | assumption) ?_; refine S_op ?_; refine W_index (by first | rfl | assumption) (by first | rfl | assumption) (by first | assumption | omega | decide) (by first | rfl | assumption) ?_; refine S_op ?_; refine W_field (by first | rfl | assumption) ?_; refine S_op ?_; refine W_field (by first | rfl | assumption) ?_)
        refine S_op0 (W_storeM (vs := [.bool (!(don (seqH l xs 0) q).r.yes)]) (by rfl) (by rfl) hmut (by rfl) (OneCells.of_all (by rfl)) (by rfl) (by simp; omega) ?_)
        intro w hgb hmut2
        replace hG := hG.grownBy hgb (fun g h => by cases h; exact ⟨hmut.out, hBg⟩)
        replace hS := hG.sub
        rw [splice_one _ _ _ hcl] at hmut2
        obtain ⟨H, T, hle, hG, hb, _⟩ := hmut2.freeze hG hBg
        replace hS := hG.sub
        replace hl := hl.mono hle
        have hd2 : DonsAt H (some ⟨g1, 0, none⟩) ((seqH l xs 0).set q (flipD (don (seqH l xs 0) q))) := by
          have h1 := (SlAt.of_row hb).take (xs.length * 9)
          rw [List.toList_toArray, List.take_set, htake, show 0 + q * 9 + 3 + 2 = q * 9 + 5 by omega, dons_flip hpk] at h1
          exact h1
        clear hle hmut hmut2 hgb hb ho
        (refine S_nil ?_; refine CW_seq ?_; refine CW_region rfl ?_; refine S_op ?_; refine W_moveSl (by first | rfl | assumption) ?_; refine S_op ?_; refine W_moveSl (by first | rfl | assumption) ?_)
        (refine S_op ?_; refine W_call hS (by rfl) (made_c H (some ⟨g1, 0, none⟩) c1 xs.length ((seqH l xs 0).set q (flipD (don (seqH l xs 0) q))) (by simp [hlen]) hd2 (by omega)) ?_); rintro v H w hG' hm2; replace hG := hG.trans hG'; replace hS := hG'.sub; replace hl := hl.mono hG'.le; clear hG'
        obtain ⟨A5, c5, rfl, hc5, hm5⟩ := hm2.dons
        skip
        (refine S_op ?_; refine W_call hS (by rfl) (linear_c H A A5 c c5 l ((seqH l xs 0).set q (flipD (don (seqH l xs 0) q))) xs.length (by simp [hlen]) hl hc (by omega) hm5 hc5) ?_); rintro v H w hG' hv; replace hG := hG.trans hG'; replace hS := hG'.sub; replace hl := hl.mono hG'.le; clear hG'
        rcases hv with ⟨p7, _⟩ | ⟨p7, u2, rfl, ⟨_, hY⟩ | ⟨rfl, _⟩⟩
        · omega
        · exact absurd hY (not_lin_flip xs l 0 q hpn)
        · (refine S_op ?_; refine W_moveTup (by first | rfl | assumption) ?_; refine S_op ?_; refine W_extract (by first | rfl | assumption) (by rfl) ?_; refine S_op ?_; refine W_extract (by first | rfl | assumption) (by rfl) ?_; refine S_op ?_; refine W_assignBool (by first | rfl | assumption) ?_; refine S_op ?_; refine W_assignInt (by first | rfl | assumption) ?_; refine S_nil ?_; refine CW_seq ?_; refine CW_region rfl ?_; refine S_op ?_; refine W_moveBool (by first | rfl | assumption) ?_; refine S_op ?_; refine W_not (by first | rfl | assumption) ?_; refine S_op ?_; refine W_moveBool (by first | rfl | assumption) ?_; refine S_want (by rfl) ?_; refine W_moveInt (by first | rfl | assumption) ?_; refine S_want (by rfl) ?_; refine W_eqlT (by first | rfl | assumption) (by first | rfl | assumption) (by first | omega | rfl) ?_; refine S_op ?_; refine W_pickT (by first | rfl | assumption) (by first | rfl | assumption) ?_; refine S_op ?_; refine W_assignBool (by first | rfl | assumption) ?_; refine S_nil ?_; refine CW_ret ?_)
          exact ⟨_, ResW_one (v := .bool _) rfl, H, hG, rfl⟩
      · exact absurd (lin_seq l xs 0) hN
end Go.Proofs.Ytcbboghjocoiiaa
