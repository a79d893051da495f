/- The reference of layer 3: what its functions answer. Conditions: sizes. -/
import Derived.Test.YtaimilhkfmpdoaaPair2
import Derived.Test.YtaimilhkfmpdoaaKey
namespace Go.Proofs.Ytaimilhkfmpdoaa
open Go.Proofs Go.RowKit
set_option linter.unusedVariables false
attribute [local irreducible] CW SeqW OpW
set_option maxHeartbeats 4000000

def rFindGo (key : ByteArray) : List Ent → Nat → Nat → Nat × Bool
  | [], _, n => (n, false)
  | e :: l, i, n => if e.key = key then (i, true) else rFindGo key l (i + 1) (if slt e.key key then n + 1 else n)
def rFind (l : List Ent) (key : ByteArray) : Nat × Bool := rFindGo key l 0 0
def rWithout (l : List Ent) (key : ByteArray) : List Ent := l.filter fun e => decide (e.key ≠ key)
def rWithGo (e : Ent) : List Ent → Bool → List Ent
  | [], done => if done then [] else [e]
  | x :: l, done => (if done = false ∧ slt x.key e.key = false then [e] else []) ++ (if x.key = e.key then [] else [x]) ++ rWithGo e l (done || !slt x.key e.key)
def rWith (l : List Ent) (e : Ent) : List Ent := rWithGo e l false

theorem rFind_c (H : HF) (A : Option Addr) (c : Nat) (l : List Ent) (key : ByteArray) (hl : EntsAt H A l) (hb : l.length ≤ 1000000) :
    Fn Try.prog 43 [.slice A l.length c, .string key] H fun v _ => v = .tuple #[.int .i64 ((rFind l key).1 : Nat), .bool (rFind l key).2] := by
  refine Fn_of_CW Try.func43 rfl Try.ntmps43 Try.results43 rfl fun w hS => ?_
  (refine CW_seq ?_; refine CW_region rfl ?_; refine S_op ?_; refine W_assignInt (by first | rfl | assumption) ?_; refine S_op ?_; refine W_assignBool (by first | rfl | assumption) ?_; refine S_nil ?_; refine CW_seq ?_; refine CW_region rfl ?_; refine S_op ?_; refine W_assignInt (by first | rfl | assumption) ?_; refine S_nil ?_; refine CW_seq ?_; refine CW_seq ?_; refine CW_region rfl ?_; refine S_op ?_; refine W_moveSl (by first | rfl | assumption) ?_; refine S_op ?_; refine W_len (by first | rfl | assumption) ?_; refine S_op ?_; refine W_moveInt (by first | rfl | assumption) ?_; refine S_nil ?_; refine CW_block ?_)
  refine CW_loopM [4, 5, 6, 7, 10, 11, 12, 13, 14, 15, 16, 17, 18, 19, 20, 21, 22, 23, 24, 25, 26, 27, 28, 29, 30]
    (fun m u w' => ∃ i n : Nat, u 10 = .int .i64 (i : Int) ∧ u 6 = .int .i64 (n : Int) ∧ w' = w ∧ i ≤ l.length ∧ n ≤ i ∧ l.length - i ≤ m ∧ rFindGo key (l.drop i) i n = rFind l key)
    (m := l.length) ⟨0, 0, rfl, rfl, rfl, by omega, by omega, by omega, rfl⟩ ?_
  rintro m u w' ⟨i, n, h10, h6, rfl, hi, hn, hm, hf⟩
  by_cases hlt : i < l.length
  · obtain ⟨b, off, hA, hrow⟩ := hl.some hlt
    rw [ent_drop hlt] at hf
    simp only [rFindGo] at hf
    by_cases hk : (ent l i).key = key
    · rw [if_pos hk] at hf
      (refine CW_seq ?_; refine CW_region rfl ?_; refine S_op ?_; refine W_lssT (by first | rfl | assumption) (by first | rfl | assumption) (by omega) ?_; refine S_nil ?_; refine CW_seq ?_; refine CW_true (by first | rfl | assumption) ?_; refine CW_skip ?_; refine CW_seq ?_; refine CW_block ?_; refine CW_seq ?_; refine CW_region rfl ?_; refine S_op ?_; refine W_moveInt (by first | rfl | assumption) ?_; refine S_op ?_; refine W_assignInt (by first | rfl | assumption) ?_; refine S_nil ?_; refine CW_seq ?_; refine CW_seq ?_; refine CW_region rfl ?_; refine S_op ?_; refine W_moveSl (by first | rfl | assumption) ?_; refine S_op ?_; refine W_moveInt (by first | rfl | assumption) ?_; refine S_op ?_; refine W_index (by first | rfl | assumption) (by first | rfl | assumption) (by first | assumption | omega) (by assumption) ?_; refine S_op ?_; refine W_field (by first | rfl | assumption) ?_; refine S_op ?_; refine W_loadKey (by first | rfl | assumption) (by assumption) (by first | assumption | omega) (by assumption) ?_; refine S_op ?_; refine W_moveStr (by first | rfl | assumption) ?_; refine S_op ?_; refine W_seqlT (by first | rfl | assumption) (by first | rfl | assumption) (by assumption) ?_; refine S_nil ?_; refine CW_true (by first | rfl | assumption) ?_; refine CW_seq ?_; refine CW_region rfl ?_; refine S_op ?_; refine W_moveInt (by first | rfl | assumption) ?_; refine S_op ?_; refine W_assignInt (by first | rfl | assumption) ?_; refine S_op ?_; refine W_assignBool (by first | rfl | assumption) ?_; refine S_nil ?_; refine CW_ret ?_)
      exact ⟨_, ResW_two (v1 := .int .i64 _) (v2 := .bool _) rfl rfl, _, Grow.refl hS, by rw [← hf]⟩
    · rw [if_neg hk] at hf
      cases hs : slt (ent l i).key key with
      | true =>
        rw [hs] at hf
        (refine CW_seq ?_; refine CW_region rfl ?_; refine S_op ?_; refine W_lssT (by first | rfl | assumption) (by first | rfl | assumption) (by omega) ?_; refine S_nil ?_; refine CW_seq ?_; refine CW_true (by first | rfl | assumption) ?_; refine CW_skip ?_; refine CW_seq ?_; refine CW_block ?_; refine CW_seq ?_; refine CW_region rfl ?_; refine S_op ?_; refine W_moveInt (by first | rfl | assumption) ?_; refine S_op ?_; refine W_assignInt (by first | rfl | assumption) ?_; refine S_nil ?_; refine CW_seq ?_; refine CW_seq ?_; refine CW_region rfl ?_; refine S_op ?_; refine W_moveSl (by first | rfl | assumption) ?_; refine S_op ?_; refine W_moveInt (by first | rfl | assumption) ?_; refine S_op ?_; refine W_index (by first | rfl | assumption) (by first | rfl | assumption) (by first | assumption | omega) (by assumption) ?_; refine S_op ?_; refine W_field (by first | rfl | assumption) ?_; refine S_op ?_; refine W_loadKey (by first | rfl | assumption) (by assumption) (by first | assumption | omega) (by assumption) ?_; refine S_op ?_; refine W_moveStr (by first | rfl | assumption) ?_; refine S_op ?_; refine W_seqlF (by first | rfl | assumption) (by first | rfl | assumption) (by assumption) ?_; refine S_nil ?_; refine CW_false (by first | rfl | assumption) ?_; refine CW_skip ?_; refine CW_seq ?_; refine CW_region rfl ?_; refine S_op ?_; refine W_moveSl (by first | rfl | assumption) ?_; refine S_op ?_; refine W_moveInt (by first | rfl | assumption) ?_; refine S_op ?_; refine W_index (by first | rfl | assumption) (by first | rfl | assumption) (by first | assumption | omega) (by assumption) ?_; refine S_op ?_; refine W_field (by first | rfl | assumption) ?_; refine S_op ?_; refine W_loadKey (by first | rfl | assumption) (by assumption) (by first | assumption | omega) (by assumption) ?_; refine S_op ?_; refine W_moveStr (by first | rfl | assumption) ?_; refine S_op ?_; refine W_slssB (by first | rfl | assumption) (by first | rfl | assumption) (by assumption) ?_; refine S_nil ?_; refine CW_true (by first | rfl | assumption) ?_; refine CW_region rfl ?_; refine S_op ?_; refine W_moveInt (by first | rfl | assumption) ?_; refine S_op ?_; refine W_add1 (by first | rfl | assumption) (by omega) ?_; refine S_op ?_; refine W_assignInt (by first | rfl | assumption) ?_; refine S_nil ?_; refine CW_region rfl ?_; refine S_op ?_; refine W_add1 (by first | rfl | assumption) (by omega) ?_; refine S_op ?_; refine W_moveInt (by first | rfl | assumption) ?_; refine S_nil ?_)
        exact ⟨(by repeat (first | exact AgreeOff.over | refine AgreeOff.upd rfl ?_ | refine AgreeOff.over2 rfl ?_)), m - 1, by omega, i + 1, n + 1, rfl, rfl, rfl, by omega, by omega, by omega, hf⟩
      | false =>
        rw [hs] at hf
        (refine CW_seq ?_; refine CW_region rfl ?_; refine S_op ?_; refine W_lssT (by first | rfl | assumption) (by first | rfl | assumption) (by omega) ?_; refine S_nil ?_; refine CW_seq ?_; refine CW_true (by first | rfl | assumption) ?_; refine CW_skip ?_; refine CW_seq ?_; refine CW_block ?_; refine CW_seq ?_; refine CW_region rfl ?_; refine S_op ?_; refine W_moveInt (by first | rfl | assumption) ?_; refine S_op ?_; refine W_assignInt (by first | rfl | assumption) ?_; refine S_nil ?_; refine CW_seq ?_; refine CW_seq ?_; refine CW_region rfl ?_; refine S_op ?_; refine W_moveSl (by first | rfl | assumption) ?_; refine S_op ?_; refine W_moveInt (by first | rfl | assumption) ?_; refine S_op ?_; refine W_index (by first | rfl | assumption) (by first | rfl | assumption) (by first | assumption | omega) (by assumption) ?_; refine S_op ?_; refine W_field (by first | rfl | assumption) ?_; refine S_op ?_; refine W_loadKey (by first | rfl | assumption) (by assumption) (by first | assumption | omega) (by assumption) ?_; refine S_op ?_; refine W_moveStr (by first | rfl | assumption) ?_; refine S_op ?_; refine W_seqlF (by first | rfl | assumption) (by first | rfl | assumption) (by assumption) ?_; refine S_nil ?_; refine CW_false (by first | rfl | assumption) ?_; refine CW_skip ?_; refine CW_seq ?_; refine CW_region rfl ?_; refine S_op ?_; refine W_moveSl (by first | rfl | assumption) ?_; refine S_op ?_; refine W_moveInt (by first | rfl | assumption) ?_; refine S_op ?_; refine W_index (by first | rfl | assumption) (by first | rfl | assumption) (by first | assumption | omega) (by assumption) ?_; refine S_op ?_; refine W_field (by first | rfl | assumption) ?_; refine S_op ?_; refine W_loadKey (by first | rfl | assumption) (by assumption) (by first | assumption | omega) (by assumption) ?_; refine S_op ?_; refine W_moveStr (by first | rfl | assumption) ?_; refine S_op ?_; refine W_slssB (by first | rfl | assumption) (by first | rfl | assumption) (by assumption) ?_; refine S_nil ?_; refine CW_false (by first | rfl | assumption) ?_; refine CW_skip ?_; refine CW_region rfl ?_; refine S_op ?_; refine W_add1 (by first | rfl | assumption) (by omega) ?_; refine S_op ?_; refine W_moveInt (by first | rfl | assumption) ?_; refine S_nil ?_)
        exact ⟨(by repeat (first | exact AgreeOff.over | refine AgreeOff.upd rfl ?_ | refine AgreeOff.over2 rfl ?_)), m - 1, by omega, i + 1, n, rfl, h6, rfl, by omega, by omega, by omega, hf⟩
  · rw [List.drop_eq_nil_of_le (by omega)] at hf
    simp only [rFindGo] at hf
    (refine CW_seq ?_; refine CW_region rfl ?_; refine S_op ?_; refine W_lssF (by first | rfl | assumption) (by first | rfl | assumption) (by omega) ?_; refine S_nil ?_; refine CW_seq ?_; refine CW_false (by first | rfl | assumption) ?_; refine CW_exit ?_; refine CW_seq ?_; refine CW_region rfl ?_; refine S_op ?_; refine W_moveInt (by first | rfl | assumption) ?_; refine S_op ?_; refine W_assignInt (by first | rfl | assumption) ?_; refine S_op ?_; refine W_assignBool (by first | rfl | assumption) ?_; refine S_nil ?_; refine CW_ret ?_)
    exact ⟨_, ResW_two (v1 := .int .i64 _) (v2 := .bool _) rfl rfl, _, Grow.refl hS, by rw [← hf]⟩


theorem rWithout_c (H : HF) (A : Option Addr) (c : Nat) (l : List Ent) (key : ByteArray) (hl : EntsAt H A l) (hb : l.length ≤ 1000000) :
    Fn Try.prog 44 [.slice A l.length c, .string key] H fun v H' => ∃ s, v = .tuple #[s, .bool (decide ((rWithout l key).length < l.length))] ∧ IsEnts s (rWithout l key) H' := by
  refine Fn_of_CW Try.func44 rfl Try.ntmps44 Try.results44 rfl fun w hS => ?_
  (refine CW_seq ?_; refine CW_region rfl ?_; refine S_op ?_; refine W_assignSl (by first | rfl | assumption) ?_; refine S_op ?_; refine W_assignBool (by first | rfl | assumption) ?_; refine S_nil ?_; refine CW_seq ?_; refine CW_region rfl ?_; refine S_op ?_; refine W_assignSl (by first | rfl | assumption) ?_; refine S_nil ?_; refine CW_seq ?_; refine CW_seq ?_; refine CW_region rfl ?_; refine S_op ?_; refine W_moveSl (by first | rfl | assumption) ?_; refine S_op ?_; refine W_len (by first | rfl | assumption) ?_; refine S_op ?_; refine W_moveInt (by first | rfl | assumption) ?_; refine S_nil ?_; refine CW_block ?_)
  refine CW_loopM [6, 7, 10, 11, 12, 13, 14, 15, 16, 17, 18, 19, 20, 21, 22, 23, 24, 25, 26, 27]
    (fun m u w2 => ∃ (i : Nat) (out : List Ent) (H2 : HF) (A2 : Option Addr) (c2 : Nat), u 10 = .int .i64 (i : Int) ∧ u 6 = .slice A2 out.length c2 ∧ Grow H w H2 w2 ∧ Own H2 w2 w.heap.size 62 2 A2 out.length c2 (entCells out) ∧
      i ≤ l.length ∧ out.length ≤ i ∧ l.length - i ≤ m ∧ out ++ rWithout (l.drop i) key = rWithout l key)
    (m := l.length) ⟨0, [], H, none, 0, rfl, rfl, Grow.refl hS, Own.nil _ _ _ _ _, by omega, by simp, by omega, rfl⟩ ?_
  rintro m u w2 ⟨i, out, H2, A2, c2, h10, h6, hG2, hown2, hi, hn, hm, hf⟩
  have hS2 := hG2.sub
  have hl2 := hl.mono hG2.le
  by_cases hlt : i < l.length
  · obtain ⟨b, off, hA, hrow⟩ := hl2.some hlt
    rw [ent_drop hlt] at hf
    by_cases hk : (ent l i).key = key
    · simp only [rWithout, List.filter_cons, hk, ne_eq, not_true_eq_false, decide_false, Bool.false_eq_true, if_false] at hf
      (refine CW_seq ?_; refine CW_region rfl ?_; refine S_op ?_; refine W_lssT (by first | rfl | assumption) (by first | rfl | assumption) (by omega) ?_; refine S_nil ?_; refine CW_seq ?_; refine CW_true (by first | rfl | assumption) ?_; refine CW_skip ?_; refine CW_seq ?_; refine CW_block ?_; refine CW_seq ?_; refine CW_region rfl ?_; refine S_op ?_; refine W_moveInt (by first | rfl | assumption) ?_; refine S_op ?_; refine W_assignInt (by first | rfl | assumption) ?_; refine S_nil ?_; refine CW_seq ?_; refine CW_region rfl ?_; refine S_op ?_; refine W_moveSl (by first | rfl | assumption) ?_; refine S_op ?_; refine W_moveInt (by first | rfl | assumption) ?_; refine S_op ?_; refine W_index (by first | rfl | assumption) (by first | rfl | assumption) (by first | assumption | omega) (by assumption) ?_; refine S_op ?_; refine W_field (by first | rfl | assumption) ?_; refine S_op ?_; refine W_loadKey (by first | rfl | assumption) (by assumption) (by first | assumption | omega) (by assumption) ?_; refine S_op ?_; refine W_moveStr (by first | rfl | assumption) ?_; refine S_op ?_; refine W_sneqF (by first | rfl | assumption) (by first | rfl | assumption) (by assumption) ?_; refine S_nil ?_; refine CW_false (by first | rfl | assumption) ?_; refine CW_skip ?_; refine CW_region rfl ?_; refine S_op ?_; refine W_add1 (by first | rfl | assumption) (by omega) ?_; refine S_op ?_; refine W_moveInt (by first | rfl | assumption) ?_; refine S_nil ?_)
      exact ⟨(by repeat (first | exact AgreeOff.over | refine AgreeOff.upd rfl ?_ | refine AgreeOff.over2 rfl ?_)), m - 1, by omega, i + 1, out, H2, A2, c2, rfl, h6, hG2, hown2, by omega, by omega, by omega, hf⟩
    · simp only [rWithout, List.filter_cons, hk, ne_eq, not_false_eq_true, decide_true, if_true] at hf
      (refine CW_seq ?_; refine CW_region rfl ?_; refine S_op ?_; refine W_lssT (by first | rfl | assumption) (by first | rfl | assumption) (by omega) ?_; refine S_nil ?_; refine CW_seq ?_; refine CW_true (by first | rfl | assumption) ?_; refine CW_skip ?_; refine CW_seq ?_; refine CW_block ?_; refine CW_seq ?_; refine CW_region rfl ?_; refine S_op ?_; refine W_moveInt (by first | rfl | assumption) ?_; refine S_op ?_; refine W_assignInt (by first | rfl | assumption) ?_; refine S_nil ?_; refine CW_seq ?_; refine CW_region rfl ?_; refine S_op ?_; refine W_moveSl (by first | rfl | assumption) ?_; refine S_op ?_; refine W_moveInt (by first | rfl | assumption) ?_; refine S_op ?_; refine W_index (by first | rfl | assumption) (by first | rfl | assumption) (by first | assumption | omega) (by assumption) ?_; refine S_op ?_; refine W_field (by first | rfl | assumption) ?_; refine S_op ?_; refine W_loadKey (by first | rfl | assumption) (by assumption) (by first | assumption | omega) (by assumption) ?_; refine S_op ?_; refine W_moveStr (by first | rfl | assumption) ?_; refine S_op ?_; refine W_sneqT (by first | rfl | assumption) (by first | rfl | assumption) (by assumption) ?_; refine S_nil ?_; refine CW_true (by first | rfl | assumption) ?_; refine CW_region rfl ?_; refine S_op ?_; refine W_moveSl (by first | rfl | assumption) ?_; refine S_op ?_; refine W_moveSl (by first | rfl | assumption) ?_; refine S_op ?_; refine W_moveInt (by first | rfl | assumption) ?_; refine S_op ?_; refine W_index (by first | rfl | assumption) (by first | rfl | assumption) (by first | assumption | omega) (by assumption) ?_; refine S_op ?_; refine W_loadEnt (by first | rfl | assumption) (by assumption) (by first | assumption | omega) (by assumption) ?_)
      refine S_op ?_
      refine W_build1 (sz := 2) (v := .agg #[.string (ent l i).key, .string (ent l i).val]) hS2 (by omega) (by rfl) (by rfl) ?_
      intro Hb wb bb hGb hbb _ _
      skip
      refine S_op ?_
      refine W_append (news := entCells [ent l i]) (by rfl) (by rfl) (hG2.trans hGb) (hown2.grow hGb) ((SlAt.of_row hbb).cells hGb.sub) rfl (entCells_one _) (by decide) (by omega) (by omega) ?_
      intro A9 c9 w9 hG9 hown9 _ hA9
      clear hA9
      rw [← entCells_append] at hown9
      (refine S_op ?_; refine W_assignSl (by first | rfl | assumption) ?_; refine S_nil ?_; refine CW_region rfl ?_; refine S_op ?_; refine W_add1 (by first | rfl | assumption) (by omega) ?_; refine S_op ?_; refine W_moveInt (by first | rfl | assumption) ?_; refine S_nil ?_)
      exact ⟨(by repeat (first | exact AgreeOff.over | refine AgreeOff.upd rfl ?_ | refine AgreeOff.over2 rfl ?_)), m - 1, by omega, i + 1, out ++ [ent l i], Hb, A9, c9, rfl, by simp; rfl, hG9, by simpa using hown9, by omega, by simp; omega, by omega, by rw [List.append_assoc]; simpa [rWithout] using hf⟩
  · rw [List.drop_eq_nil_of_le (by omega)] at hf
    simp only [rWithout, List.filter_nil, List.append_nil] at hf
    obtain ⟨H3, hle3, hG3, hsl3, _⟩ := hown2.freeze hG2
    have hcap : out.length ≤ c2 := by
      rcases hown2.row.2 with ⟨h7, h8⟩ | ⟨g, cap', cur, hv, _, _, h5, _⟩
      · omega
      · simp at hv; omega
    rw [show (rWithout l key) = out from hf.symm]
    (refine CW_seq ?_; refine CW_region rfl ?_; refine S_op ?_; refine W_lssF (by first | rfl | assumption) (by first | rfl | assumption) (by omega) ?_; refine S_nil ?_; refine CW_seq ?_; refine CW_false (by first | rfl | assumption) ?_; refine CW_exit ?_; refine CW_seq ?_; refine CW_region rfl ?_; refine S_op ?_; refine W_moveSl (by first | rfl | assumption) ?_; refine S_op ?_; refine W_moveSl (by first | rfl | assumption) ?_; refine S_op ?_; refine W_len (by first | rfl | assumption) ?_; refine S_op ?_; refine W_moveSl (by first | rfl | assumption) ?_; refine S_op ?_; refine W_len (by first | rfl | assumption) ?_; refine S_op ?_; refine W_lssN (by first | rfl | assumption) (by first | rfl | assumption) ?_; refine S_op ?_; refine W_assignSl (by first | rfl | assumption) ?_; refine S_op ?_; refine W_assignBool (by first | rfl | assumption) ?_; refine S_nil ?_; refine CW_ret ?_)
    refine ⟨_, ResW_two (v1 := .slice _ _ _) (v2 := .bool _) rfl rfl, H3, hG3, _, rfl, A2, c2, rfl, hcap, hsl3⟩

theorem rWith_step (e x : Ent) (l : List Ent) (done : Bool) : rWithGo e (x :: l) done = (if done = false ∧ slt x.key e.key = false then [e] else []) ++ (if x.key = e.key then [] else [x]) ++ rWithGo e l (done || !slt x.key e.key) := rfl
theorem rWith_c (H : HF) (A : Option Addr) (c : Nat) (l : List Ent) (e : Ent) (hl : EntsAt H A l) (hb : l.length ≤ 1000000) :
    Fn Try.prog 46 [.slice A l.length c, .agg #[.string e.key, .string e.val]] H fun v H' => IsEnts v (rWith l e) H' := by
  refine Fn_of_CW Try.func46 rfl Try.ntmps46 Try.results46 rfl fun w hS => ?_
  (refine CW_seq ?_; refine CW_region rfl ?_)
  refine S_op (W_boxAgg hS rfl ?_)
  intro H1 w1 bx hG1 hb1
  have hl1 := hl.mono hG1.le
  have hS1 := hG1.sub
  (refine S_op ?_; refine W_assignSl (by first | rfl | assumption) ?_; refine S_nil ?_; refine CW_seq ?_; refine CW_region rfl ?_; refine S_op ?_; refine W_assignSl (by first | rfl | assumption) ?_; refine S_nil ?_; refine CW_seq ?_; refine CW_region rfl ?_; refine S_op ?_; refine W_assignBool (by first | rfl | assumption) ?_; refine S_nil ?_; refine CW_seq ?_; refine CW_seq ?_; refine CW_region rfl ?_; refine S_op ?_; refine W_moveSl (by first | rfl | assumption) ?_; refine S_op ?_; refine W_len (by first | rfl | assumption) ?_; refine S_op ?_; refine W_moveInt (by first | rfl | assumption) ?_; refine S_nil ?_; refine CW_block ?_)
  refine CW_loopM [5, 6, 7, 10, 11, 12, 13, 14, 15, 16, 17, 18, 19, 20, 21, 22, 23, 24, 25, 26, 27, 28, 29, 30, 31, 32, 33, 34, 35, 36, 37, 38, 39, 40, 41, 42, 43, 44]
    (fun m u w2 => ∃ (i : Nat) (done : Bool) (out : List Ent) (H2 : HF) (A2 : Option Addr) (n c2 : Nat), u 10 = .int .i64 (i : Int) ∧ u 6 = .bool done ∧ u 5 = .slice A2 n c2 ∧ n = out.length ∧ Grow H w H2 w2 ∧
      H2 bx = some (.cells #[.string e.key, .string e.val] 62 (0, 0)) ∧ Own H2 w2 w.heap.size 62 2 A2 n c2 (entCells out) ∧ i ≤ l.length ∧ n ≤ 2 * i ∧ l.length - i ≤ m ∧ out ++ rWithGo e (l.drop i) done = rWith l e)
    (m := l.length) ⟨0, false, [], H1, none, 0, 0, rfl, rfl, rfl, rfl, hG1, hb1, Own.nil _ _ _ _ _, by omega, by omega, by omega, rfl⟩ ?_
  rintro m u w2 ⟨i, done, out, H2, A2, n, c2, h10, h6, h5, hno, hG2, hbx, hown2, hi, hn, hm, hf⟩
  have hS2 := hG2.sub
  have hl2 := hl.mono hG2.le
  clear hb1
  by_cases hlt : i < l.length
  · obtain ⟨b, off, hA, hrow⟩ := hl2.some hlt
    rw [ent_drop hlt, rWith_step] at hf
    cases done with
    | true =>
      simp only [Bool.true_eq_false, false_and, if_false, List.nil_append, Bool.true_or] at hf
      (refine CW_seq ?_; refine CW_region rfl ?_; refine S_op ?_; refine W_lssT (by first | rfl | assumption) (by first | rfl | assumption) (by omega) ?_; refine S_nil ?_; refine CW_seq ?_; refine CW_true (by first | rfl | assumption) ?_; refine CW_skip ?_; refine CW_seq ?_; refine CW_block ?_; refine CW_seq ?_; refine CW_region rfl ?_; refine S_op ?_; refine W_moveInt (by first | rfl | assumption) ?_; refine S_op ?_; refine W_assignInt (by first | rfl | assumption) ?_; refine S_nil ?_; refine CW_seq ?_; refine CW_seq ?_)
      apply CW_region_grow [_, _, _, _, _, _, _, _, _, _, _, _] [none, none, none, none, none, none, none, none, none, none, none, none] [some 13, some 14, some 15, some 16, some 17, some 18, some 19, some 20, some 21, some 22, some 23, some 24] [13, 14, 15, 16, 17, 18, 19, 20, 21, 22, 23, 24] mixed rfl rfl rfl rfl (by decide) rfl (by assumption)
      · ((apply steps_cons; case h1 => (apply A_pure; intro c u H' w' hG; have hS' := hG.sub; have hS2' := hG.subOld; (repeat (first | rintro _ rfl | intro v hv)); apply Pure1.mk; intro K hk; exact W_moveBool (by first | rfl | assumption) hk)); (apply steps_cons; case h1 => (apply A_pure; intro c u H' w' hG; have hS' := hG.sub; have hS2' := hG.subOld; (repeat (first | rintro _ rfl | intro v hv)); apply Pure1.mk; intro K hk; exact W_not (by first | rfl | assumption) hk)); (apply steps_cons; case h1 => (apply A_pure; intro c u H' w' hG; have hS' := hG.sub; have hS2' := hG.subOld; (repeat (first | rintro _ rfl | intro v hv)); apply Pure1.mk; intro K hk; exact W_moveBool (by first | rfl | assumption) hk)); (apply steps_cons; case h1 => (apply A_pass; intro c u H' w' hG; (repeat (first | rintro _ rfl | intro v hv)); exact Pass1.mk rfl)); (apply steps_cons; case h1 => (apply A_pass; intro c u H' w' hG; (repeat (first | rintro _ rfl | intro v hv)); exact Pass1.mk rfl)); (apply steps_cons; case h1 => (apply A_pass; intro c u H' w' hG; (repeat (first | rintro _ rfl | intro v hv)); exact Pass1.mk rfl)); (apply steps_cons; case h1 => (apply A_pass; intro c u H' w' hG; (repeat (first | rintro _ rfl | intro v hv)); exact Pass1.mk rfl)); (apply steps_cons; case h1 => (apply A_pass; intro c u H' w' hG; (repeat (first | rintro _ rfl | intro v hv)); exact Pass1.mk rfl)); (apply steps_cons; case h1 => (apply A_pass; intro c u H' w' hG; (repeat (first | rintro _ rfl | intro v hv)); exact Pass1.mk rfl)); (apply steps_cons; case h1 => (apply A_pass; intro c u H' w' hG; (repeat (first | rintro _ rfl | intro v hv)); exact Pass1.mk rfl)); (apply steps_cons; case h1 => (apply A_pass; intro c u H' w' hG; (repeat (first | rintro _ rfl | intro v hv)); exact Pass1.mk rfl)); (apply steps_cons; case h1 => (apply A_pure; intro c u H' w' hG; have hS' := hG.sub; have hS2' := hG.subOld; (repeat (first | rintro _ rfl | intro v hv)); apply Pure1.mk; intro K hk; exact W_pickF (by first | rfl | assumption) (by first | rfl | assumption) hk)); exact trivial)
      · intro H3 w3 hG3
        (repeat (rintro _ rfl))
        have hG2 := hG2.trans hG3
        have hS2 := hG2.sub
        have hown2 := hown2.grow hG3
        have hrow := hrow.mono (hG3).le
        have hbx := (hG3).le _ _ hbx
        clear hG3
        (refine CW_false (by first | rfl | assumption) ?_; refine CW_skip ?_; refine CW_seq ?_)
        by_cases hk : (ent l i).key = e.key
        · rw [if_pos hk] at hf
          skip
          apply CW_region_grow [_, _, _, _, _, _, _, _] [none, none, none, none, none, none, none, none] [some 29, some 30, some 31, some 32, some 33, some 34, some 35, some 36] [29, 30, 31, 32, 33, 34, 35, 36] mixed rfl rfl rfl rfl (by decide) rfl (by assumption)
          · ((apply steps_cons; case h1 => (apply A_pure; intro c u H' w' hG; have hS' := hG.sub; have hS2' := hG.subOld; (repeat (first | rintro _ rfl | intro v hv)); apply Pure1.mk; intro K hk; exact W_moveSl (by first | rfl | assumption) hk)); (apply steps_cons; case h1 => (apply A_pure; intro c u H' w' hG; have hS' := hG.sub; have hS2' := hG.subOld; (repeat (first | rintro _ rfl | intro v hv)); apply Pure1.mk; intro K hk; exact W_moveInt (by first | rfl | assumption) hk)); (apply steps_cons; case h1 => (apply A_pure; intro c u H' w' hG; have hS' := hG.sub; have hS2' := hG.subOld; (repeat (first | rintro _ rfl | intro v hv)); apply Pure1.mk; intro K hk; exact W_index (by first | rfl | assumption) (by first | rfl | assumption) (by first | assumption | omega) (by assumption) hk)); (apply steps_cons; case h1 => (apply A_pure; intro c u H' w' hG; have hS' := hG.sub; have hS2' := hG.subOld; (repeat (first | rintro _ rfl | intro v hv)); apply Pure1.mk; intro K hk; exact W_field (by first | rfl | assumption) hk)); (apply steps_cons; case h1 => (apply A_pure; intro c u H' w' hG; have hS' := hG.sub; have hS2' := hG.subOld; (repeat (first | rintro _ rfl | intro v hv)); apply Pure1.mk; intro K hk; exact W_loadKey (by first | rfl | assumption) (by assumption) (by first | assumption | omega) (by assumption) hk)); (apply steps_cons; case h1 => (apply A_pure; intro c u H' w' hG; have hS' := hG.sub; have hS2' := hG.subOld; (repeat (first | rintro _ rfl | intro v hv)); apply Pure1.mk; intro K hk; exact W_field (by first | rfl | assumption) hk)); (apply steps_cons; case h1 => (apply A_pure; intro c u H' w' hG; have hS' := hG.sub; have hS2' := hG.subOld; (repeat (first | rintro _ rfl | intro v hv)); apply Pure1.mk; intro K hk; exact W_loadH (by first | rfl | assumption) (by assumption) (by rfl) (by assumption) hk)); (apply steps_cons; case h1 => (apply A_pure; intro c u H' w' hG; have hS' := hG.sub; have hS2' := hG.subOld; (repeat (first | rintro _ rfl | intro v hv)); apply Pure1.mk; intro K hk; exact W_sneqF (by first | rfl | assumption) (by first | rfl | assumption) (by assumption) hk)); exact trivial)
          · intro H4 w4 hG4
            (repeat (rintro _ rfl))
            have hG2 := hG2.trans hG4
            have hS2 := hG2.sub
            have hown2 := hown2.grow hG4
            have hrow := hrow.mono (hG4).le
            have hbx := (hG4).le _ _ hbx
            clear hG4
            (refine CW_false (by first | rfl | assumption) ?_; refine CW_skip ?_; refine CW_region rfl ?_; refine S_op ?_; refine W_add1 (by first | rfl | assumption) (by omega) ?_; refine S_op ?_; refine W_moveInt (by first | rfl | assumption) ?_; refine S_nil ?_)
            exact ⟨(by repeat (first | exact AgreeOff.over | refine AgreeOff.upd rfl ?_ | refine AgreeOff.over2 rfl ?_)), m - 1, by omega, i + 1, true, out, _, _, _, _, rfl, by first | assumption | rfl, by first | assumption | rfl, by first | omega | (simp; omega), hG2, hbx, hown2, by omega, by omega, by omega, by simpa using hf⟩
        · rw [if_neg hk] at hf
          skip
          apply CW_region_grow [_, _, _, _, _, _, _, _] [none, none, none, none, none, none, none, none] [some 29, some 30, some 31, some 32, some 33, some 34, some 35, some 36] [29, 30, 31, 32, 33, 34, 35, 36] mixed rfl rfl rfl rfl (by decide) rfl (by assumption)
          · ((apply steps_cons; case h1 => (apply A_pure; intro c u H' w' hG; have hS' := hG.sub; have hS2' := hG.subOld; (repeat (first | rintro _ rfl | intro v hv)); apply Pure1.mk; intro K hk; exact W_moveSl (by first | rfl | assumption) hk)); (apply steps_cons; case h1 => (apply A_pure; intro c u H' w' hG; have hS' := hG.sub; have hS2' := hG.subOld; (repeat (first | rintro _ rfl | intro v hv)); apply Pure1.mk; intro K hk; exact W_moveInt (by first | rfl | assumption) hk)); (apply steps_cons; case h1 => (apply A_pure; intro c u H' w' hG; have hS' := hG.sub; have hS2' := hG.subOld; (repeat (first | rintro _ rfl | intro v hv)); apply Pure1.mk; intro K hk; exact W_index (by first | rfl | assumption) (by first | rfl | assumption) (by first | assumption | omega) (by assumption) hk)); (apply steps_cons; case h1 => (apply A_pure; intro c u H' w' hG; have hS' := hG.sub; have hS2' := hG.subOld; (repeat (first | rintro _ rfl | intro v hv)); apply Pure1.mk; intro K hk; exact W_field (by first | rfl | assumption) hk)); (apply steps_cons; case h1 => (apply A_pure; intro c u H' w' hG; have hS' := hG.sub; have hS2' := hG.subOld; (repeat (first | rintro _ rfl | intro v hv)); apply Pure1.mk; intro K hk; exact W_loadKey (by first | rfl | assumption) (by assumption) (by first | assumption | omega) (by assumption) hk)); (apply steps_cons; case h1 => (apply A_pure; intro c u H' w' hG; have hS' := hG.sub; have hS2' := hG.subOld; (repeat (first | rintro _ rfl | intro v hv)); apply Pure1.mk; intro K hk; exact W_field (by first | rfl | assumption) hk)); (apply steps_cons; case h1 => (apply A_pure; intro c u H' w' hG; have hS' := hG.sub; have hS2' := hG.subOld; (repeat (first | rintro _ rfl | intro v hv)); apply Pure1.mk; intro K hk; exact W_loadH (by first | rfl | assumption) (by assumption) (by rfl) (by assumption) hk)); (apply steps_cons; case h1 => (apply A_pure; intro c u H' w' hG; have hS' := hG.sub; have hS2' := hG.subOld; (repeat (first | rintro _ rfl | intro v hv)); apply Pure1.mk; intro K hk; exact W_sneqT (by first | rfl | assumption) (by first | rfl | assumption) (by assumption) hk)); exact trivial)
          · intro H4 w4 hG4
            (repeat (rintro _ rfl))
            have hG2 := hG2.trans hG4
            have hS2 := hG2.sub
            have hown2 := hown2.grow hG4
            have hrow := hrow.mono (hG4).le
            have hbx := (hG4).le _ _ hbx
            clear hG4
            (refine CW_true (by first | rfl | assumption) ?_; refine CW_region rfl ?_; refine S_op ?_; refine W_moveSl (by first | rfl | assumption) ?_; refine S_op ?_; refine W_moveSl (by first | rfl | assumption) ?_; refine S_op ?_; refine W_moveInt (by first | rfl | assumption) ?_; refine S_op ?_; refine W_index (by first | rfl | assumption) (by first | rfl | assumption) (by first | assumption | omega) (by assumption) ?_; refine S_op ?_; refine W_loadEnt (by first | rfl | assumption) (by assumption) (by first | assumption | omega) (by assumption) ?_)
            refine S_op ?_
            refine W_build1 (sz := 2) (v := .agg #[.string (ent l i).key, .string (ent l i).val]) hS2 (by omega) (by rfl) (by rfl) ?_
            intro Hb wb bb hGb hbb _ _
            skip
            refine S_op ?_
            refine W_append (news := entCells [ent l i]) (by rfl) (by rfl) (hG2.trans hGb) (hown2.grow hGb) ((SlAt.of_row hbb).cells hGb.sub) rfl (entCells_one _) (by decide) (by omega) (by omega) ?_
            intro A9 c9 w9 hG9 hown9 hgb9 hA9
            clear hA9
            rw [← entCells_append] at hown9
            have hrow := hrow.mono hGb.le
            have hbx := hGb.le _ _ hbx
            (refine S_op ?_; refine W_assignSl (by first | rfl | assumption) ?_; refine S_nil ?_; refine CW_region rfl ?_; refine S_op ?_; refine W_add1 (by first | rfl | assumption) (by omega) ?_; refine S_op ?_; refine W_moveInt (by first | rfl | assumption) ?_; refine S_nil ?_)
            exact ⟨(by repeat (first | exact AgreeOff.over | refine AgreeOff.upd rfl ?_ | refine AgreeOff.over2 rfl ?_)), m - 1, by omega, i + 1, true, out ++ [ent l i], _, _, _, _, rfl, by first | assumption | rfl, rfl, by first | omega | (simp; omega), hG9, hbx, hown9, by omega, by omega, by omega, by simpa using hf⟩
    | false =>
      cases hs : slt (ent l i).key e.key with
      | true =>
        simp only [hs, Bool.true_eq_false, and_false, if_false, List.nil_append, Bool.not_true, Bool.or_false] at hf
        (refine CW_seq ?_; refine CW_region rfl ?_; refine S_op ?_; refine W_lssT (by first | rfl | assumption) (by first | rfl | assumption) (by omega) ?_; refine S_nil ?_; refine CW_seq ?_; refine CW_true (by first | rfl | assumption) ?_; refine CW_skip ?_; refine CW_seq ?_; refine CW_block ?_; refine CW_seq ?_; refine CW_region rfl ?_; refine S_op ?_; refine W_moveInt (by first | rfl | assumption) ?_; refine S_op ?_; refine W_assignInt (by first | rfl | assumption) ?_; refine S_nil ?_; refine CW_seq ?_; refine CW_seq ?_)
        apply CW_region_grow [_, _, _, _, _, _, _, _, _, _, _, _] [none, none, none, none, none, none, none, none, none, none, none, none] [some 13, some 14, some 15, some 16, some 17, some 18, some 19, some 20, some 21, some 22, some 23, some 24] [13, 14, 15, 16, 17, 18, 19, 20, 21, 22, 23, 24] mixed rfl rfl rfl rfl (by decide) rfl (by assumption)
        · ((apply steps_cons; case h1 => (apply A_pure; intro c u H' w' hG; have hS' := hG.sub; have hS2' := hG.subOld; (repeat (first | rintro _ rfl | intro v hv)); apply Pure1.mk; intro K hk; exact W_moveBool (by first | rfl | assumption) hk)); (apply steps_cons; case h1 => (apply A_pure; intro c u H' w' hG; have hS' := hG.sub; have hS2' := hG.subOld; (repeat (first | rintro _ rfl | intro v hv)); apply Pure1.mk; intro K hk; exact W_not (by first | rfl | assumption) hk)); (apply steps_cons; case h1 => (apply A_pure; intro c u H' w' hG; have hS' := hG.sub; have hS2' := hG.subOld; (repeat (first | rintro _ rfl | intro v hv)); apply Pure1.mk; intro K hk; exact W_moveBool (by first | rfl | assumption) hk)); (apply steps_cons; case h1 => (apply A_want; intro c u H' w' hG; have hS' := hG.sub; have hS2' := hG.subOld; (repeat (first | rintro _ rfl | intro v hv)); apply Pure2.mk; (case want => rfl); intro K hk; exact W_moveSl (by first | rfl | assumption) hk)); (apply steps_cons; case h1 => (apply A_want; intro c u H' w' hG; have hS' := hG.sub; have hS2' := hG.subOld; (repeat (first | rintro _ rfl | intro v hv)); apply Pure2.mk; (case want => rfl); intro K hk; exact W_moveInt (by first | rfl | assumption) hk)); (apply steps_cons; case h1 => (apply A_want; intro c u H' w' hG; have hS' := hG.sub; have hS2' := hG.subOld; (repeat (first | rintro _ rfl | intro v hv)); apply Pure2.mk; (case want => rfl); intro K hk; exact W_index (by first | rfl | assumption) (by first | rfl | assumption) (by first | assumption | omega) (by assumption) hk)); (apply steps_cons; case h1 => (apply A_want; intro c u H' w' hG; have hS' := hG.sub; have hS2' := hG.subOld; (repeat (first | rintro _ rfl | intro v hv)); apply Pure2.mk; (case want => rfl); intro K hk; exact W_field (by first | rfl | assumption) hk)); (apply steps_cons; case h1 => (apply A_want; intro c u H' w' hG; have hS' := hG.sub; have hS2' := hG.subOld; (repeat (first | rintro _ rfl | intro v hv)); apply Pure2.mk; (case want => rfl); intro K hk; exact W_loadKey (by first | rfl | assumption) (by assumption) (by first | assumption | omega) (by assumption) hk)); (apply steps_cons; case h1 => (apply A_want; intro c u H' w' hG; have hS' := hG.sub; have hS2' := hG.subOld; (repeat (first | rintro _ rfl | intro v hv)); apply Pure2.mk; (case want => rfl); intro K hk; exact W_field (by first | rfl | assumption) hk)); (apply steps_cons; case h1 => (apply A_want; intro c u H' w' hG; have hS' := hG.sub; have hS2' := hG.subOld; (repeat (first | rintro _ rfl | intro v hv)); apply Pure2.mk; (case want => rfl); intro K hk; exact W_loadH (by first | rfl | assumption) (by assumption) (by rfl) (by assumption) hk)); (apply steps_cons; case h1 => (apply A_want; intro c u H' w' hG; have hS' := hG.sub; have hS2' := hG.subOld; (repeat (first | rintro _ rfl | intro v hv)); apply Pure2.mk; (case want => rfl); intro K hk; exact W_sgeqB (by first | rfl | assumption) (by first | rfl | assumption) (by assumption) hk)); (apply steps_cons; case h1 => (apply A_pure; intro c u H' w' hG; have hS' := hG.sub; have hS2' := hG.subOld; (repeat (first | rintro _ rfl | intro v hv)); apply Pure1.mk; intro K hk; exact W_pickT (by first | rfl | assumption) (by first | rfl | assumption) hk)); exact trivial)
        · intro H3 w3 hG3
          (repeat (rintro _ rfl))
          have hG2 := hG2.trans hG3
          have hS2 := hG2.sub
          have hown2 := hown2.grow hG3
          have hrow := hrow.mono (hG3).le
          have hbx := (hG3).le _ _ hbx
          clear hG3
          (refine CW_false (by first | rfl | assumption) ?_; refine CW_skip ?_; refine CW_seq ?_)
          by_cases hk : (ent l i).key = e.key
          · rw [if_pos hk] at hf
            skip
            apply CW_region_grow [_, _, _, _, _, _, _, _] [none, none, none, none, none, none, none, none] [some 29, some 30, some 31, some 32, some 33, some 34, some 35, some 36] [29, 30, 31, 32, 33, 34, 35, 36] mixed rfl rfl rfl rfl (by decide) rfl (by assumption)
            · ((apply steps_cons; case h1 => (apply A_pure; intro c u H' w' hG; have hS' := hG.sub; have hS2' := hG.subOld; (repeat (first | rintro _ rfl | intro v hv)); apply Pure1.mk; intro K hk; exact W_moveSl (by first | rfl | assumption) hk)); (apply steps_cons; case h1 => (apply A_pure; intro c u H' w' hG; have hS' := hG.sub; have hS2' := hG.subOld; (repeat (first | rintro _ rfl | intro v hv)); apply Pure1.mk; intro K hk; exact W_moveInt (by first | rfl | assumption) hk)); (apply steps_cons; case h1 => (apply A_pure; intro c u H' w' hG; have hS' := hG.sub; have hS2' := hG.subOld; (repeat (first | rintro _ rfl | intro v hv)); apply Pure1.mk; intro K hk; exact W_index (by first | rfl | assumption) (by first | rfl | assumption) (by first | assumption | omega) (by assumption) hk)); (apply steps_cons; case h1 => (apply A_pure; intro c u H' w' hG; have hS' := hG.sub; have hS2' := hG.subOld; (repeat (first | rintro _ rfl | intro v hv)); apply Pure1.mk; intro K hk; exact W_field (by first | rfl | assumption) hk)); (apply steps_cons; case h1 => (apply A_pure; intro c u H' w' hG; have hS' := hG.sub; have hS2' := hG.subOld; (repeat (first | rintro _ rfl | intro v hv)); apply Pure1.mk; intro K hk; exact W_loadKey (by first | rfl | assumption) (by assumption) (by first | assumption | omega) (by assumption) hk)); (apply steps_cons; case h1 => (apply A_pure; intro c u H' w' hG; have hS' := hG.sub; have hS2' := hG.subOld; (repeat (first | rintro _ rfl | intro v hv)); apply Pure1.mk; intro K hk; exact W_field (by first | rfl | assumption) hk)); (apply steps_cons; case h1 => (apply A_pure; intro c u H' w' hG; have hS' := hG.sub; have hS2' := hG.subOld; (repeat (first | rintro _ rfl | intro v hv)); apply Pure1.mk; intro K hk; exact W_loadH (by first | rfl | assumption) (by assumption) (by rfl) (by assumption) hk)); (apply steps_cons; case h1 => (apply A_pure; intro c u H' w' hG; have hS' := hG.sub; have hS2' := hG.subOld; (repeat (first | rintro _ rfl | intro v hv)); apply Pure1.mk; intro K hk; exact W_sneqF (by first | rfl | assumption) (by first | rfl | assumption) (by assumption) hk)); exact trivial)
            · intro H4 w4 hG4
              (repeat (rintro _ rfl))
              have hG2 := hG2.trans hG4
              have hS2 := hG2.sub
              have hown2 := hown2.grow hG4
              have hrow := hrow.mono (hG4).le
              have hbx := (hG4).le _ _ hbx
              clear hG4
              (refine CW_false (by first | rfl | assumption) ?_; refine CW_skip ?_; refine CW_region rfl ?_; refine S_op ?_; refine W_add1 (by first | rfl | assumption) (by omega) ?_; refine S_op ?_; refine W_moveInt (by first | rfl | assumption) ?_; refine S_nil ?_)
              exact ⟨(by repeat (first | exact AgreeOff.over | refine AgreeOff.upd rfl ?_ | refine AgreeOff.over2 rfl ?_)), m - 1, by omega, i + 1, false, out, _, _, _, _, rfl, by first | assumption | rfl, by first | assumption | rfl, by first | omega | (simp; omega), hG2, hbx, hown2, by omega, by omega, by omega, by simpa using hf⟩
          · rw [if_neg hk] at hf
            skip
            apply CW_region_grow [_, _, _, _, _, _, _, _] [none, none, none, none, none, none, none, none] [some 29, some 30, some 31, some 32, some 33, some 34, some 35, some 36] [29, 30, 31, 32, 33, 34, 35, 36] mixed rfl rfl rfl rfl (by decide) rfl (by assumption)
            · ((apply steps_cons; case h1 => (apply A_pure; intro c u H' w' hG; have hS' := hG.sub; have hS2' := hG.subOld; (repeat (first | rintro _ rfl | intro v hv)); apply Pure1.mk; intro K hk; exact W_moveSl (by first | rfl | assumption) hk)); (apply steps_cons; case h1 => (apply A_pure; intro c u H' w' hG; have hS' := hG.sub; have hS2' := hG.subOld; (repeat (first | rintro _ rfl | intro v hv)); apply Pure1.mk; intro K hk; exact W_moveInt (by first | rfl | assumption) hk)); (apply steps_cons; case h1 => (apply A_pure; intro c u H' w' hG; have hS' := hG.sub; have hS2' := hG.subOld; (repeat (first | rintro _ rfl | intro v hv)); apply Pure1.mk; intro K hk; exact W_index (by first | rfl | assumption) (by first | rfl | assumption) (by first | assumption | omega) (by assumption) hk)); (apply steps_cons; case h1 => (apply A_pure; intro c u H' w' hG; have hS' := hG.sub; have hS2' := hG.subOld; (repeat (first | rintro _ rfl | intro v hv)); apply Pure1.mk; intro K hk; exact W_field (by first | rfl | assumption) hk)); (apply steps_cons; case h1 => (apply A_pure; intro c u H' w' hG; have hS' := hG.sub; have hS2' := hG.subOld; (repeat (first | rintro _ rfl | intro v hv)); apply Pure1.mk; intro K hk; exact W_loadKey (by first | rfl | assumption) (by assumption) (by first | assumption | omega) (by assumption) hk)); (apply steps_cons; case h1 => (apply A_pure; intro c u H' w' hG; have hS' := hG.sub; have hS2' := hG.subOld; (repeat (first | rintro _ rfl | intro v hv)); apply Pure1.mk; intro K hk; exact W_field (by first | rfl | assumption) hk)); (apply steps_cons; case h1 => (apply A_pure; intro c u H' w' hG; have hS' := hG.sub; have hS2' := hG.subOld; (repeat (first | rintro _ rfl | intro v hv)); apply Pure1.mk; intro K hk; exact W_loadH (by first | rfl | assumption) (by assumption) (by rfl) (by assumption) hk)); (apply steps_cons; case h1 => (apply A_pure; intro c u H' w' hG; have hS' := hG.sub; have hS2' := hG.subOld; (repeat (first | rintro _ rfl | intro v hv)); apply Pure1.mk; intro K hk; exact W_sneqT (by first | rfl | assumption) (by first | rfl | assumption) (by assumption) hk)); exact trivial)
            · intro H4 w4 hG4
              (repeat (rintro _ rfl))
              have hG2 := hG2.trans hG4
              have hS2 := hG2.sub
              have hown2 := hown2.grow hG4
              have hrow := hrow.mono (hG4).le
              have hbx := (hG4).le _ _ hbx
              clear hG4
              (refine CW_true (by first | rfl | assumption) ?_; refine CW_region rfl ?_; refine S_op ?_; refine W_moveSl (by first | rfl | assumption) ?_; refine S_op ?_; refine W_moveSl (by first | rfl | assumption) ?_; refine S_op ?_; refine W_moveInt (by first | rfl | assumption) ?_; refine S_op ?_; refine W_index (by first | rfl | assumption) (by first | rfl | assumption) (by first | assumption | omega) (by assumption) ?_; refine S_op ?_; refine W_loadEnt (by first | rfl | assumption) (by assumption) (by first | assumption | omega) (by assumption) ?_)
              refine S_op ?_
              refine W_build1 (sz := 2) (v := .agg #[.string (ent l i).key, .string (ent l i).val]) hS2 (by omega) (by rfl) (by rfl) ?_
              intro Hb wb bb hGb hbb _ _
              skip
              refine S_op ?_
              refine W_append (news := entCells [ent l i]) (by rfl) (by rfl) (hG2.trans hGb) (hown2.grow hGb) ((SlAt.of_row hbb).cells hGb.sub) rfl (entCells_one _) (by decide) (by omega) (by omega) ?_
              intro A9 c9 w9 hG9 hown9 hgb9 hA9
              clear hA9
              rw [← entCells_append] at hown9
              have hrow := hrow.mono hGb.le
              have hbx := hGb.le _ _ hbx
              (refine S_op ?_; refine W_assignSl (by first | rfl | assumption) ?_; refine S_nil ?_; refine CW_region rfl ?_; refine S_op ?_; refine W_add1 (by first | rfl | assumption) (by omega) ?_; refine S_op ?_; refine W_moveInt (by first | rfl | assumption) ?_; refine S_nil ?_)
              exact ⟨(by repeat (first | exact AgreeOff.over | refine AgreeOff.upd rfl ?_ | refine AgreeOff.over2 rfl ?_)), m - 1, by omega, i + 1, false, out ++ [ent l i], _, _, _, _, rfl, by first | assumption | rfl, rfl, by first | omega | (simp; omega), hG9, hbx, hown9, by omega, by omega, by omega, by simpa using hf⟩
      | false =>
        simp only [hs, and_self, if_true, Bool.not_false, Bool.or_true] at hf
        (refine CW_seq ?_; refine CW_region rfl ?_; refine S_op ?_; refine W_lssT (by first | rfl | assumption) (by first | rfl | assumption) (by omega) ?_; refine S_nil ?_; refine CW_seq ?_; refine CW_true (by first | rfl | assumption) ?_; refine CW_skip ?_; refine CW_seq ?_; refine CW_block ?_; refine CW_seq ?_; refine CW_region rfl ?_; refine S_op ?_; refine W_moveInt (by first | rfl | assumption) ?_; refine S_op ?_; refine W_assignInt (by first | rfl | assumption) ?_; refine S_nil ?_; refine CW_seq ?_; refine CW_seq ?_)
        apply CW_region_grow [_, _, _, _, _, _, _, _, _, _, _, _] [none, none, none, none, none, none, none, none, none, none, none, none] [some 13, some 14, some 15, some 16, some 17, some 18, some 19, some 20, some 21, some 22, some 23, some 24] [13, 14, 15, 16, 17, 18, 19, 20, 21, 22, 23, 24] mixed rfl rfl rfl rfl (by decide) rfl (by assumption)
        · ((apply steps_cons; case h1 => (apply A_pure; intro c u H' w' hG; have hS' := hG.sub; have hS2' := hG.subOld; (repeat (first | rintro _ rfl | intro v hv)); apply Pure1.mk; intro K hk; exact W_moveBool (by first | rfl | assumption) hk)); (apply steps_cons; case h1 => (apply A_pure; intro c u H' w' hG; have hS' := hG.sub; have hS2' := hG.subOld; (repeat (first | rintro _ rfl | intro v hv)); apply Pure1.mk; intro K hk; exact W_not (by first | rfl | assumption) hk)); (apply steps_cons; case h1 => (apply A_pure; intro c u H' w' hG; have hS' := hG.sub; have hS2' := hG.subOld; (repeat (first | rintro _ rfl | intro v hv)); apply Pure1.mk; intro K hk; exact W_moveBool (by first | rfl | assumption) hk)); (apply steps_cons; case h1 => (apply A_want; intro c u H' w' hG; have hS' := hG.sub; have hS2' := hG.subOld; (repeat (first | rintro _ rfl | intro v hv)); apply Pure2.mk; (case want => rfl); intro K hk; exact W_moveSl (by first | rfl | assumption) hk)); (apply steps_cons; case h1 => (apply A_want; intro c u H' w' hG; have hS' := hG.sub; have hS2' := hG.subOld; (repeat (first | rintro _ rfl | intro v hv)); apply Pure2.mk; (case want => rfl); intro K hk; exact W_moveInt (by first | rfl | assumption) hk)); (apply steps_cons; case h1 => (apply A_want; intro c u H' w' hG; have hS' := hG.sub; have hS2' := hG.subOld; (repeat (first | rintro _ rfl | intro v hv)); apply Pure2.mk; (case want => rfl); intro K hk; exact W_index (by first | rfl | assumption) (by first | rfl | assumption) (by first | assumption | omega) (by assumption) hk)); (apply steps_cons; case h1 => (apply A_want; intro c u H' w' hG; have hS' := hG.sub; have hS2' := hG.subOld; (repeat (first | rintro _ rfl | intro v hv)); apply Pure2.mk; (case want => rfl); intro K hk; exact W_field (by first | rfl | assumption) hk)); (apply steps_cons; case h1 => (apply A_want; intro c u H' w' hG; have hS' := hG.sub; have hS2' := hG.subOld; (repeat (first | rintro _ rfl | intro v hv)); apply Pure2.mk; (case want => rfl); intro K hk; exact W_loadKey (by first | rfl | assumption) (by assumption) (by first | assumption | omega) (by assumption) hk)); (apply steps_cons; case h1 => (apply A_want; intro c u H' w' hG; have hS' := hG.sub; have hS2' := hG.subOld; (repeat (first | rintro _ rfl | intro v hv)); apply Pure2.mk; (case want => rfl); intro K hk; exact W_field (by first | rfl | assumption) hk)); (apply steps_cons; case h1 => (apply A_want; intro c u H' w' hG; have hS' := hG.sub; have hS2' := hG.subOld; (repeat (first | rintro _ rfl | intro v hv)); apply Pure2.mk; (case want => rfl); intro K hk; exact W_loadH (by first | rfl | assumption) (by assumption) (by rfl) (by assumption) hk)); (apply steps_cons; case h1 => (apply A_want; intro c u H' w' hG; have hS' := hG.sub; have hS2' := hG.subOld; (repeat (first | rintro _ rfl | intro v hv)); apply Pure2.mk; (case want => rfl); intro K hk; exact W_sgeqB (by first | rfl | assumption) (by first | rfl | assumption) (by assumption) hk)); (apply steps_cons; case h1 => (apply A_pure; intro c u H' w' hG; have hS' := hG.sub; have hS2' := hG.subOld; (repeat (first | rintro _ rfl | intro v hv)); apply Pure1.mk; intro K hk; exact W_pickT (by first | rfl | assumption) (by first | rfl | assumption) hk)); exact trivial)
        · intro H3 w3 hG3
          (repeat (rintro _ rfl))
          have hG2 := hG2.trans hG3
          have hS2 := hG2.sub
          have hown2 := hown2.grow hG3
          have hrow := hrow.mono (hG3).le
          have hbx := (hG3).le _ _ hbx
          clear hG3
          (refine CW_true (by first | rfl | assumption) ?_; refine CW_seq ?_; refine CW_region rfl ?_; refine S_op ?_; refine W_moveSl (by first | rfl | assumption) ?_; refine S_op ?_; refine W_loadWhole (by first | rfl | assumption) (by assumption) (by rfl) (by assumption) ?_)
          refine S_op ?_
          refine W_build1 (sz := 2) (v := .agg #[.string (e).key, .string (e).val]) hS2 (by omega) (by rfl) (by rfl) ?_
          intro Hb wb bb hGb hbb _ _
          skip
          refine S_op ?_
          refine W_append (news := entCells [e]) (by rfl) (by rfl) (hG2.trans hGb) (hown2.grow hGb) ((SlAt.of_row hbb).cells hGb.sub) rfl (entCells_one _) (by decide) (by omega) (by omega) ?_
          intro A9 c9 w9 hG9 hown9 hgb9 hA9
          clear hA9
          rw [← entCells_append] at hown9
          have hrow := hrow.mono hGb.le
          have hbx := hGb.le _ _ hbx
          have hG2 := hG9
          have hS2 := hG9.sub
          have hown2 := hown9
          clear hG9 hown9 hbb hgb9 hGb
          (refine S_op ?_; refine W_assignSl (by first | rfl | assumption) ?_; refine S_nil ?_; refine CW_region rfl ?_; refine S_op ?_; refine W_assignBool (by first | rfl | assumption) ?_; refine S_nil ?_; refine CW_seq ?_)
          by_cases hk : (ent l i).key = e.key
          · rw [if_pos hk] at hf
            skip
            apply CW_region_grow [_, _, _, _, _, _, _, _] [none, none, none, none, none, none, none, none] [some 29, some 30, some 31, some 32, some 33, some 34, some 35, some 36] [29, 30, 31, 32, 33, 34, 35, 36] mixed rfl rfl rfl rfl (by decide) rfl (by assumption)
            · ((apply steps_cons; case h1 => (apply A_pure; intro c u H' w' hG; have hS' := hG.sub; have hS2' := hG.subOld; (repeat (first | rintro _ rfl | intro v hv)); apply Pure1.mk; intro K hk; exact W_moveSl (by first | rfl | assumption) hk)); (apply steps_cons; case h1 => (apply A_pure; intro c u H' w' hG; have hS' := hG.sub; have hS2' := hG.subOld; (repeat (first | rintro _ rfl | intro v hv)); apply Pure1.mk; intro K hk; exact W_moveInt (by first | rfl | assumption) hk)); (apply steps_cons; case h1 => (apply A_pure; intro c u H' w' hG; have hS' := hG.sub; have hS2' := hG.subOld; (repeat (first | rintro _ rfl | intro v hv)); apply Pure1.mk; intro K hk; exact W_index (by first | rfl | assumption) (by first | rfl | assumption) (by first | assumption | omega) (by assumption) hk)); (apply steps_cons; case h1 => (apply A_pure; intro c u H' w' hG; have hS' := hG.sub; have hS2' := hG.subOld; (repeat (first | rintro _ rfl | intro v hv)); apply Pure1.mk; intro K hk; exact W_field (by first | rfl | assumption) hk)); (apply steps_cons; case h1 => (apply A_pure; intro c u H' w' hG; have hS' := hG.sub; have hS2' := hG.subOld; (repeat (first | rintro _ rfl | intro v hv)); apply Pure1.mk; intro K hk; exact W_loadKey (by first | rfl | assumption) (by assumption) (by first | assumption | omega) (by assumption) hk)); (apply steps_cons; case h1 => (apply A_pure; intro c u H' w' hG; have hS' := hG.sub; have hS2' := hG.subOld; (repeat (first | rintro _ rfl | intro v hv)); apply Pure1.mk; intro K hk; exact W_field (by first | rfl | assumption) hk)); (apply steps_cons; case h1 => (apply A_pure; intro c u H' w' hG; have hS' := hG.sub; have hS2' := hG.subOld; (repeat (first | rintro _ rfl | intro v hv)); apply Pure1.mk; intro K hk; exact W_loadH (by first | rfl | assumption) (by assumption) (by rfl) (by assumption) hk)); (apply steps_cons; case h1 => (apply A_pure; intro c u H' w' hG; have hS' := hG.sub; have hS2' := hG.subOld; (repeat (first | rintro _ rfl | intro v hv)); apply Pure1.mk; intro K hk; exact W_sneqF (by first | rfl | assumption) (by first | rfl | assumption) (by assumption) hk)); exact trivial)
            · intro H4 w4 hG4
              (repeat (rintro _ rfl))
              have hG2 := hG2.trans hG4
              have hS2 := hG2.sub
              have hown2 := hown2.grow hG4
              have hrow := hrow.mono (hG4).le
              have hbx := (hG4).le _ _ hbx
              clear hG4
              (refine CW_false (by first | rfl | assumption) ?_; refine CW_skip ?_; refine CW_region rfl ?_; refine S_op ?_; refine W_add1 (by first | rfl | assumption) (by omega) ?_; refine S_op ?_; refine W_moveInt (by first | rfl | assumption) ?_; refine S_nil ?_)
              exact ⟨(by repeat (first | exact AgreeOff.over | refine AgreeOff.upd rfl ?_ | refine AgreeOff.over2 rfl ?_)), m - 1, by omega, i + 1, true, out ++ [e], _, _, _, _, rfl, by first | assumption | rfl, by first | assumption | rfl, by first | omega | (simp; omega), hG2, hbx, hown2, by omega, by omega, by omega, by simpa using hf⟩
          · rw [if_neg hk] at hf
            skip
            apply CW_region_grow [_, _, _, _, _, _, _, _] [none, none, none, none, none, none, none, none] [some 29, some 30, some 31, some 32, some 33, some 34, some 35, some 36] [29, 30, 31, 32, 33, 34, 35, 36] mixed rfl rfl rfl rfl (by decide) rfl (by assumption)
            · ((apply steps_cons; case h1 => (apply A_pure; intro c u H' w' hG; have hS' := hG.sub; have hS2' := hG.subOld; (repeat (first | rintro _ rfl | intro v hv)); apply Pure1.mk; intro K hk; exact W_moveSl (by first | rfl | assumption) hk)); (apply steps_cons; case h1 => (apply A_pure; intro c u H' w' hG; have hS' := hG.sub; have hS2' := hG.subOld; (repeat (first | rintro _ rfl | intro v hv)); apply Pure1.mk; intro K hk; exact W_moveInt (by first | rfl | assumption) hk)); (apply steps_cons; case h1 => (apply A_pure; intro c u H' w' hG; have hS' := hG.sub; have hS2' := hG.subOld; (repeat (first | rintro _ rfl | intro v hv)); apply Pure1.mk; intro K hk; exact W_index (by first | rfl | assumption) (by first | rfl | assumption) (by first | assumption | omega) (by assumption) hk)); (apply steps_cons; case h1 => (apply A_pure; intro c u H' w' hG; have hS' := hG.sub; have hS2' := hG.subOld; (repeat (first | rintro _ rfl | intro v hv)); apply Pure1.mk; intro K hk; exact W_field (by first | rfl | assumption) hk)); (apply steps_cons; case h1 => (apply A_pure; intro c u H' w' hG; have hS' := hG.sub; have hS2' := hG.subOld; (repeat (first | rintro _ rfl | intro v hv)); apply Pure1.mk; intro K hk; exact W_loadKey (by first | rfl | assumption) (by assumption) (by first | assumption | omega) (by assumption) hk)); (apply steps_cons; case h1 => (apply A_pure; intro c u H' w' hG; have hS' := hG.sub; have hS2' := hG.subOld; (repeat (first | rintro _ rfl | intro v hv)); apply Pure1.mk; intro K hk; exact W_field (by first | rfl | assumption) hk)); (apply steps_cons; case h1 => (apply A_pure; intro c u H' w' hG; have hS' := hG.sub; have hS2' := hG.subOld; (repeat (first | rintro _ rfl | intro v hv)); apply Pure1.mk; intro K hk; exact W_loadH (by first | rfl | assumption) (by assumption) (by rfl) (by assumption) hk)); (apply steps_cons; case h1 => (apply A_pure; intro c u H' w' hG; have hS' := hG.sub; have hS2' := hG.subOld; (repeat (first | rintro _ rfl | intro v hv)); apply Pure1.mk; intro K hk; exact W_sneqT (by first | rfl | assumption) (by first | rfl | assumption) (by assumption) hk)); exact trivial)
            · intro H4 w4 hG4
              (repeat (rintro _ rfl))
              have hG2 := hG2.trans hG4
              have hS2 := hG2.sub
              have hown2 := hown2.grow hG4
              have hrow := hrow.mono (hG4).le
              have hbx := (hG4).le _ _ hbx
              clear hG4
              (refine CW_true (by first | rfl | assumption) ?_; refine CW_region rfl ?_; refine S_op ?_; refine W_moveSl (by first | rfl | assumption) ?_; refine S_op ?_; refine W_moveSl (by first | rfl | assumption) ?_; refine S_op ?_; refine W_moveInt (by first | rfl | assumption) ?_; refine S_op ?_; refine W_index (by first | rfl | assumption) (by first | rfl | assumption) (by first | assumption | omega) (by assumption) ?_; refine S_op ?_; refine W_loadEnt (by first | rfl | assumption) (by assumption) (by first | assumption | omega) (by assumption) ?_)
              refine S_op ?_
              refine W_build1 (sz := 2) (v := .agg #[.string (ent l i).key, .string (ent l i).val]) hS2 (by omega) (by rfl) (by rfl) ?_
              intro Hb wb bb hGb hbb _ _
              skip
              refine S_op ?_
              refine W_append (news := entCells [ent l i]) (by rfl) (by rfl) (hG2.trans hGb) (hown2.grow hGb) ((SlAt.of_row hbb).cells hGb.sub) rfl (entCells_one _) (by decide) (by omega) (by omega) ?_
              intro A9 c9 w9 hG9 hown9 hgb9 hA9
              clear hA9
              rw [← entCells_append] at hown9
              have hrow := hrow.mono hGb.le
              have hbx := hGb.le _ _ hbx
              (refine S_op ?_; refine W_assignSl (by first | rfl | assumption) ?_; refine S_nil ?_; refine CW_region rfl ?_; refine S_op ?_; refine W_add1 (by first | rfl | assumption) (by omega) ?_; refine S_op ?_; refine W_moveInt (by first | rfl | assumption) ?_; refine S_nil ?_)
              exact ⟨(by repeat (first | exact AgreeOff.over | refine AgreeOff.upd rfl ?_ | refine AgreeOff.over2 rfl ?_)), m - 1, by omega, i + 1, true, out ++ [e] ++ [ent l i], _, _, _, _, rfl, by first | assumption | rfl, rfl, by first | omega | (simp; omega), hG9, hbx, hown9, by omega, by omega, by omega, by simpa using hf⟩
  · rw [List.drop_eq_nil_of_le (by omega)] at hf
    simp only [rWithGo] at hf
    cases done with
    | true =>
      simp only [if_true, List.append_nil] at hf
      obtain ⟨H3, hle3, hG3, hsl3, _⟩ := hown2.freeze hG2
      have hcap := hown2.cap
      (refine CW_seq ?_; refine CW_region rfl ?_; refine S_op ?_; refine W_lssF (by first | rfl | assumption) (by first | rfl | assumption) (by omega) ?_; refine S_nil ?_; refine CW_seq ?_; refine CW_false (by first | rfl | assumption) ?_; refine CW_exit ?_; refine CW_seq ?_; refine CW_seq ?_; refine CW_region rfl ?_; refine S_op ?_; refine W_moveBool (by first | rfl | assumption) ?_; refine S_op ?_; refine W_not (by first | rfl | assumption) ?_; refine S_nil ?_; refine CW_false (by first | rfl | assumption) ?_; refine CW_skip ?_; refine CW_seq ?_; refine CW_region rfl ?_; refine S_op ?_; refine W_moveSl (by first | rfl | assumption) ?_; refine S_op ?_; refine W_assignSl (by first | rfl | assumption) ?_; refine S_nil ?_; refine CW_ret ?_)
      rw [← hf]
      subst hno
      exact ⟨_, ResW_one (v := .slice _ _ _) rfl, H3, hG3, A2, c2, rfl, hcap, hsl3⟩
    | false =>
      simp only [Bool.false_eq_true, if_false] at hf
      (refine CW_seq ?_; refine CW_region rfl ?_; refine S_op ?_; refine W_lssF (by first | rfl | assumption) (by first | rfl | assumption) (by omega) ?_; refine S_nil ?_; refine CW_seq ?_; refine CW_false (by first | rfl | assumption) ?_; refine CW_exit ?_; refine CW_seq ?_; refine CW_seq ?_; refine CW_region rfl ?_; refine S_op ?_; refine W_moveBool (by first | rfl | assumption) ?_; refine S_op ?_; refine W_not (by first | rfl | assumption) ?_; refine S_nil ?_; refine CW_true (by first | rfl | assumption) ?_; refine CW_region rfl ?_; refine S_op ?_; refine W_moveSl (by first | rfl | assumption) ?_; refine S_op ?_; refine W_loadWhole (by first | rfl | assumption) (by assumption) (by rfl) (by assumption) ?_)
      refine S_op ?_
      refine W_build1 (sz := 2) (v := .agg #[.string (e).key, .string (e).val]) hS2 (by omega) (by rfl) (by rfl) ?_
      intro Hb wb bb hGb hbb _ _
      skip
      refine S_op ?_
      refine W_append (news := entCells [e]) (by rfl) (by rfl) (hG2.trans hGb) (hown2.grow hGb) ((SlAt.of_row hbb).cells hGb.sub) rfl (entCells_one _) (by decide) (by omega) (by omega) ?_
      intro A9 c9 w9 hG9 hown9 _ hA9
      clear hA9
      rw [← entCells_append] at hown9
      obtain ⟨H3, hle3, hG3, hsl3, _⟩ := hown9.freeze hG9
      have hcap := hown9.cap
      (refine S_op ?_; refine W_assignSl (by first | rfl | assumption) ?_; refine S_nil ?_; refine CW_seq ?_; refine CW_region rfl ?_; refine S_op ?_; refine W_moveSl (by first | rfl | assumption) ?_; refine S_op ?_; refine W_assignSl (by first | rfl | assumption) ?_; refine S_nil ?_; refine CW_ret ?_)
      rw [← hf]
      subst hno
      exact ⟨_, ResW_one (v := .slice _ _ _) rfl, H3, hG3, A9, c9, by simp, by simpa using hcap, hsl3⟩
end Go.Proofs.Ytaimilhkfmpdoaa
