/- tree: kid, Path, Get, Items, Right: walked. Conditions: sizes. -/
import Derived.Test.YtnjeoobcejlojaaTree0
import Derived.Test.YtnjeoobcejlojaaPure2
import Derived.Test.YtnjeoobcejlojaaNode5
namespace Go.Proofs.Ytnjeoobcejlojaa
open Go.Proofs Go.RowKit
set_option linter.unusedVariables false
attribute [local irreducible] CW SeqW OpW
set_option maxHeartbeats 4000000
theorem ptr_get {h : Nat} {ks : List (Nd h)} {i : Nat} (hi : i < ks.length) : (ks.map Nd.ptr)[i * 1]? = some (ks[i]).ptr := by simp [hi]
theorem kid_c (H : HF) (B : Option Addr) (d h : Nat) (ks : List (Nd h)) (key : ByteArray) (hl : SlAt H B (ks.map Nd.ptr)) (hk : AllAt H h ks) (hb : ks.length ≤ 1000000) :
    Fn Try.prog 95 [.slice B ks.length d, .string key] H fun v _ => v = .int .i64 (Nd.kidAt ks key : Nat) := by
  refine Fn_of_CW Try.func95 rfl Try.ntmps95 Try.results95 rfl fun w hS => ?_; have hG := Grow.refl hS; have hS0 := hS
  (refine CW_seq ?_; refine CW_region rfl ?_; refine S_op ?_; refine W_assignInt (by first | rfl | assumption) ?_; refine S_nil ?_; refine CW_seq ?_; refine CW_region rfl ?_; refine S_op ?_; refine W_assignInt (by first | rfl | assumption) ?_; refine S_nil ?_; refine CW_seq ?_; refine CW_seq ?_; refine CW_region rfl ?_; refine S_op ?_; refine W_moveSl (by first | rfl | assumption) ?_; refine S_op ?_; refine W_len (by first | rfl | assumption) ?_; refine S_op ?_; refine W_moveInt (by first | rfl | assumption) ?_; refine S_nil ?_; refine CW_block ?_)
  refine CW_loopM [5, 6, 7, 8, 9, 12, 13, 14, 15, 16, 17, 18, 19, 20, 21, 22, 23, 24, 25, 26]
    (fun m u w2 => ∃ (i p : Nat) (H2 : HF), u 12 = .int .i64 (i : Int) ∧ u 5 = .int .i64 (p : Int) ∧ Grow H w H2 w2 ∧ i ≤ ks.length ∧ ks.length - i ≤ m ∧ Nd.kidGo key (ks.drop i) i p = Nd.kidAt ks key)
    (m := ks.length) ⟨0, 0, H, rfl, rfl, hG, by omega, by omega, rfl⟩ ?_
  rintro m u w ⟨i, p, H, h12, h5, hG, hi, hm, hf⟩
  have hS := hG.sub
  replace hl := hl.mono hG.le
  replace hk := hk.mono hG.le
  by_cases hlt : i < ks.length
  · obtain ⟨b, off, hA, hrow⟩ := slAt_some hl hlt
    have hget := ptr_get hlt
    have hx := hk ks[i] (List.getElem_mem _)
    rw [List.drop_eq_getElem_cons hlt] at hf
    simp only [Nd.kidGo] at hf
    cases hs : slt key ks[i].lo with
    | true =>
      rw [hs] at hf
      (refine CW_seq ?_; refine CW_region rfl ?_; refine S_op ?_; refine W_lssT (by first | rfl | assumption) (by first | rfl | assumption) (by first | omega | rfl) ?_; refine S_nil ?_; refine CW_seq ?_; refine CW_true (by first | rfl | assumption) ?_; refine CW_skip ?_; refine CW_seq ?_; refine CW_block ?_; refine CW_seq ?_; refine CW_region rfl ?_; refine S_op ?_; refine W_moveInt (by first | rfl | assumption) ?_; refine S_op ?_; refine W_index (by first | rfl | assumption) (by first | rfl | assumption) (by first | assumption | omega | decide) (by first | rfl | assumption) ?_)
      refine S_op (W_loadRow (by rfl) hrow hget hS ?_)
      (refine S_op ?_; refine W_assignInt (by first | rfl | assumption) ?_; refine S_op ?_; refine W_assignPtr (by first | rfl | assumption) ?_; refine S_nil ?_; refine CW_seq ?_; refine CW_region rfl ?_; refine S_op ?_; refine W_movePtr (by first | rfl | assumption) ?_)
      (refine S_op ?_; refine W_call hS (by rfl) (ends_c hx) ?_); rintro v H w hG' rfl; replace hG := hG.trans hG'; replace hS := hG'.sub; clear hG'
      (refine S_op ?_; refine W_moveTup (by first | rfl | assumption) ?_; refine S_op ?_; refine W_extract (by first | rfl | assumption) (by rfl) ?_; refine S_op ?_; refine W_extract (by first | rfl | assumption) (by rfl) ?_; refine S_op ?_; refine W_assignStr (by first | rfl | assumption) ?_; refine S_op ?_; refine W_assignStr (by first | rfl | assumption) ?_; refine S_nil ?_; refine CW_seq ?_; refine CW_region rfl ?_; refine S_op ?_; refine W_moveStr (by first | rfl | assumption) ?_; refine S_op ?_; refine W_moveStr (by first | rfl | assumption) ?_; refine S_op ?_; refine W_sleqB (by first | rfl | assumption) (by first | rfl | assumption) (by assumption) ?_; refine S_nil ?_; refine CW_false (by first | rfl | assumption) ?_; refine CW_skip ?_; refine CW_region rfl ?_; refine S_op ?_; refine W_add1 (by first | rfl | assumption) (by omega) ?_; refine S_op ?_; refine W_moveInt (by first | rfl | assumption) ?_; refine S_nil ?_)
      exact ⟨(by repeat (first | exact AgreeOff.over | refine AgreeOff.upd rfl ?_ | refine AgreeOff.over2 rfl ?_)), m - 1, by omega, i + 1, p, H, rfl, h5, hG, by omega, by omega, hf⟩
    | false =>
      rw [hs] at hf
      (refine CW_seq ?_; refine CW_region rfl ?_; refine S_op ?_; refine W_lssT (by first | rfl | assumption) (by first | rfl | assumption) (by first | omega | rfl) ?_; refine S_nil ?_; refine CW_seq ?_; refine CW_true (by first | rfl | assumption) ?_; refine CW_skip ?_; refine CW_seq ?_; refine CW_block ?_; refine CW_seq ?_; refine CW_region rfl ?_; refine S_op ?_; refine W_moveInt (by first | rfl | assumption) ?_; refine S_op ?_; refine W_index (by first | rfl | assumption) (by first | rfl | assumption) (by first | assumption | omega | decide) (by first | rfl | assumption) ?_)
      refine S_op (W_loadRow (by rfl) hrow hget hS ?_)
      (refine S_op ?_; refine W_assignInt (by first | rfl | assumption) ?_; refine S_op ?_; refine W_assignPtr (by first | rfl | assumption) ?_; refine S_nil ?_; refine CW_seq ?_; refine CW_region rfl ?_; refine S_op ?_; refine W_movePtr (by first | rfl | assumption) ?_)
      (refine S_op ?_; refine W_call hS (by rfl) (ends_c hx) ?_); rintro v H w hG' rfl; replace hG := hG.trans hG'; replace hS := hG'.sub; clear hG'
      (refine S_op ?_; refine W_moveTup (by first | rfl | assumption) ?_; refine S_op ?_; refine W_extract (by first | rfl | assumption) (by rfl) ?_; refine S_op ?_; refine W_extract (by first | rfl | assumption) (by rfl) ?_; refine S_op ?_; refine W_assignStr (by first | rfl | assumption) ?_; refine S_op ?_; refine W_assignStr (by first | rfl | assumption) ?_; refine S_nil ?_; refine CW_seq ?_; refine CW_region rfl ?_; refine S_op ?_; refine W_moveStr (by first | rfl | assumption) ?_; refine S_op ?_; refine W_moveStr (by first | rfl | assumption) ?_; refine S_op ?_; refine W_sleqB (by first | rfl | assumption) (by first | rfl | assumption) (by assumption) ?_; refine S_nil ?_; refine CW_true (by first | rfl | assumption) ?_; refine CW_region rfl ?_; refine S_op ?_; refine W_moveInt (by first | rfl | assumption) ?_; refine S_op ?_; refine W_assignInt (by first | rfl | assumption) ?_; refine S_nil ?_; refine CW_region rfl ?_; refine S_op ?_; refine W_add1 (by first | rfl | assumption) (by omega) ?_; refine S_op ?_; refine W_moveInt (by first | rfl | assumption) ?_; refine S_nil ?_)
      exact ⟨(by repeat (first | exact AgreeOff.over | refine AgreeOff.upd rfl ?_ | refine AgreeOff.over2 rfl ?_)), m - 1, by omega, i + 1, i, H, rfl, rfl, hG, by omega, by omega, hf⟩
  · rw [List.drop_eq_nil_of_le (by omega)] at hf
    simp only [Nd.kidGo] at hf
    subst hf
    (refine CW_seq ?_; refine CW_region rfl ?_; refine S_op ?_; refine W_lssF (by first | rfl | assumption) (by first | rfl | assumption) (by first | omega | rfl) ?_; refine S_nil ?_; refine CW_seq ?_; refine CW_false (by first | rfl | assumption) ?_; refine CW_exit ?_; refine CW_seq ?_; refine CW_region rfl ?_; refine S_op ?_; refine W_moveInt (by first | rfl | assumption) ?_; refine S_op ?_; refine W_assignInt (by first | rfl | assumption) ?_; refine S_nil ?_; refine CW_ret ?_)
    exact ⟨_, ResW_one (v := .int _ _) rfl, H, hG, rfl⟩
theorem path_c (H : HF) (h : Nat) (x : Nd h) (key : ByteArray) (hx : NodeAt H h x) (hh : h ≤ 1000000) :
    Fn Try.prog 78 [x.ptr, .string key] H fun v H' => IsSl 1 v (h + 1) (Nd.pathL h x key) H' := by
  refine Fn_of_CW Try.func78 rfl Try.ntmps78 Try.results78 rfl fun w hS => ?_; have hG := Grow.refl hS; have hS0 := hS
  (refine CW_seq ?_; refine CW_region rfl ?_; refine S_op ?_; refine W_assignSl (by first | rfl | assumption) ?_; refine S_nil ?_; refine CW_seq ?_; refine CW_region rfl ?_; refine S_op ?_; refine W_assignSl (by first | rfl | assumption) ?_; refine S_nil ?_; refine CW_seq ?_; refine CW_block ?_)
  refine CW_loopM [0, 5, 6, 7, 8, 9, 10, 11, 12, 13, 14, 15, 16, 17, 18, 19, 20, 21]
    (fun m u w2 => ∃ (j : Nat) (y : Nd j) (pre : List Value) (A : Option Addr) (c : Nat) (H2 : HF), u 0 = y.ptr ∧ u 5 = .slice A pre.length c ∧ Grow H w H2 w2 ∧ Own H2 w2 w.heap.size 35 1 A pre.length c pre ∧ NodeAt H2 j y ∧ pre ++ Nd.pathL j y key = Nd.pathL h x key ∧ pre.length + j = h ∧ j ≤ m)
    (m := h) ⟨h, x, [], none, 0, H, rfl, rfl, hG, Own.nil _ _ _ _ _, hx, rfl, by simp, Nat.le_refl _⟩ ?_
  rintro m u w ⟨j, y, pre, A, c, H, h0, h5, hG, hown, hy, hp, hlen, hm⟩
  have hS := hG.sub
  cases j with
  | zero =>
    (refine CW_seq ?_; refine CW_seq ?_; refine CW_region rfl ?_; refine S_op ?_; refine W_movePtr (by first | rfl | assumption) ?_)
    (refine S_op ?_; refine W_call hS (by rfl) (height_c hy) ?_); rintro v H w hG' rfl; replace hG := hG.trans hG'; replace hS := hG'.sub; replace hy := hy.mono hG'.le; replace hown := hown.grow hG'; clear hG'
    (refine S_op ?_; refine W_gtrF (by first | rfl | assumption) (by first | rfl | assumption) (by first | omega | rfl) ?_; refine S_nil ?_; refine CW_false (by first | rfl | assumption) ?_; refine CW_exit ?_; refine CW_seq ?_; refine CW_seq ?_; refine CW_region rfl ?_; refine S_op ?_; refine W_movePtr (by first | rfl | assumption) ?_)
    (refine S_op ?_; refine W_call hS (by rfl) (height_c hy) ?_); rintro v H w hG' rfl; replace hG := hG.trans hG'; replace hS := hG'.sub; replace hy := hy.mono hG'.le; replace hown := hown.grow hG'; clear hG'
    (refine S_op ?_; refine W_eqlT (by first | rfl | assumption) (by first | rfl | assumption) (by first | omega | rfl) ?_; refine S_nil ?_; refine CW_true (by first | rfl | assumption) ?_; refine CW_region rfl ?_; refine S_op ?_; refine W_moveSl (by first | rfl | assumption) ?_; refine S_op ?_; refine W_movePtr (by first | rfl | assumption) ?_)
    refine S_op ?_
    refine W_build1 (sz := 1) (v := y.ptr) hS (by omega) (by rfl) (by rfl) ?_
    intro H w b hG' hb' _ _
    replace hG := hG.trans hG'
    replace hS := hG'.sub
    replace hy := hy.mono hG'.le
    replace hown := hown.grow hG'
    clear hG'
    skip
    refine S_op ?_
    refine W_append (news := [y.ptr]) (by rfl) (by rfl) hG hown ((SlAt.of_row hb').cells hS) (by rfl) (by intro u hu; simp at hu; subst hu; rfl) (by decide) (by omega) (by omega) ?_
    intro A c w hG hown _ hA3
    clear hA3
    replace hS := hG.sub
    (refine S_op ?_; refine W_assignSl (by first | rfl | assumption) ?_; refine S_nil ?_; refine CW_seq ?_; refine CW_region rfl ?_; refine S_op ?_; refine W_moveSl (by first | rfl | assumption) ?_; refine S_op ?_; refine W_assignSl (by first | rfl | assumption) ?_; refine S_nil ?_; refine CW_ret ?_)
    obtain ⟨H3, hle3, hG3, hsl3, _⟩ := hown.freeze hG
    exact ⟨_, ResW_one (v := .slice _ _ _) rfl, H3, hG3, A, c, by rw [← hlen], by have := hown.cap; omega, by rw [← hp]; exact hsl3, by rw [Nd.path_length]; omega⟩
  | succ j =>
    (refine CW_seq ?_; refine CW_seq ?_; refine CW_region rfl ?_; refine S_op ?_; refine W_movePtr (by first | rfl | assumption) ?_)
    (refine S_op ?_; refine W_call hS (by rfl) (height_c hy) ?_); rintro v H w hG' rfl; replace hG := hG.trans hG'; replace hS := hG'.sub; replace hy := hy.mono hG'.le; replace hown := hown.grow hG'; clear hG'
    (refine S_op ?_; refine W_gtrT (by first | rfl | assumption) (by first | rfl | assumption) (by first | omega | rfl) ?_; refine S_nil ?_; refine CW_true (by first | rfl | assumption) ?_; refine CW_skip ?_; refine CW_block ?_; refine CW_seq ?_; refine CW_region rfl ?_; refine S_op ?_; refine W_moveSl (by first | rfl | assumption) ?_; refine S_op ?_; refine W_movePtr (by first | rfl | assumption) ?_)
    refine S_op ?_
    refine W_build1 (sz := 1) (v := y.ptr) hS (by omega) (by rfl) (by rfl) ?_
    intro H w b hG' hb' _ _
    replace hG := hG.trans hG'
    replace hS := hG'.sub
    replace hy := hy.mono hG'.le
    replace hown := hown.grow hG'
    clear hG'
    skip
    refine S_op ?_
    refine W_append (news := [y.ptr]) (by rfl) (by rfl) hG hown ((SlAt.of_row hb').cells hS) (by rfl) (by intro u hu; simp at hu; subst hu; rfl) (by decide) (by omega) (by omega) ?_
    intro A c w hG hown _ hA3
    clear hA3
    replace hS := hG.sub
    (refine S_op ?_; refine W_assignSl (by first | rfl | assumption) ?_; refine S_nil ?_; refine CW_seq ?_; refine CW_region rfl ?_; refine S_op ?_; refine W_movePtr (by first | rfl | assumption) ?_)
    (refine S_op ?_; refine W_call hS (by rfl) (kids_c hy) ?_); rintro v H w hG' hv; replace hG := hG.trans hG'; replace hS := hG'.sub; replace hy := hy.mono hG'.le; replace hown := hown.grow hG'; clear hG'
    obtain ⟨B, d, rfl, hd, hsl, _⟩ := hv
    have h6 := hy.ok.2.1
    (refine S_op ?_; refine W_assignSl (by first | rfl | assumption) ?_; refine S_nil ?_; refine CW_region rfl ?_; refine S_op ?_; refine W_moveSl (by first | rfl | assumption) ?_; refine S_op ?_; refine W_moveSl (by first | rfl | assumption) ?_; refine S_op ?_; refine W_moveStr (by first | rfl | assumption) ?_)
    (refine S_op ?_; refine W_call hS (by rfl) (kid_c H B d j y.kids key hsl hy.kids (by omega)) ?_); rintro v H w hG' rfl; replace hG := hG.trans hG'; replace hS := hG'.sub; replace hy := hy.mono hG'.le; replace hsl := hsl.mono hG'.le; replace hown := hown.grow hG'; clear hG'
    have hq := Nd.kidAt_lt hy.ok key
    obtain ⟨bb, off, hA, hrow⟩ := slAt_some hsl hq
    have hget := ptr_get hq
    have hko : y.kids[Nd.kidAt y.kids key] = Nd.kidOf y key := by simp [Nd.kidOf, hq]
    rw [hko] at hget
    (refine S_op ?_; refine W_index (by first | rfl | assumption) (by first | rfl | assumption) (by first | assumption | omega | decide) (by first | rfl | assumption) ?_)
    refine S_op (W_loadRow (by rfl) hrow hget hS ?_)
    (refine S_op ?_; refine W_assignPtr (by first | rfl | assumption) ?_; refine S_nil ?_)
    have hl1 : (pre ++ [y.ptr]).length = pre.length + 1 := by simp
    exact ⟨(by repeat (first | exact AgreeOff.over | refine AgreeOff.upd rfl ?_ | refine AgreeOff.over2 rfl ?_)), m - 1, by omega, j, Nd.kidOf y key, pre ++ [y.ptr], A, c, H, rfl, by rw [hl1]; rfl, hG, by rw [hl1]; exact hown, hy.kids _ (Nd.kidOf_mem hy.ok key), by rw [← hp]; simp [Nd.pathL], by omega, by omega⟩
theorem path_nil (H : HF) (key : ByteArray) : Fn Try.prog 78 [.pointer none, .string key] H fun v H' => v = .slice none 0 0 := by
  refine Fn_of_CW Try.func78 rfl Try.ntmps78 Try.results78 rfl fun w hS => ?_; have hG := Grow.refl hS; have hS0 := hS
  (refine CW_seq ?_; refine CW_region rfl ?_; refine S_op ?_; refine W_assignSl (by first | rfl | assumption) ?_; refine S_nil ?_; refine CW_seq ?_; refine CW_region rfl ?_; refine S_op ?_; refine W_assignSl (by first | rfl | assumption) ?_; refine S_nil ?_; refine CW_seq ?_; refine CW_block ?_)
  refine CW_loopM [0, 5, 6, 7, 8, 9, 10, 11, 12, 13, 14, 15, 16, 17, 18, 19, 20, 21]
    (fun m u w2 => u 0 = .pointer none ∧ u 5 = .slice none 0 0 ∧ w2 = w)
    (m := 0) ⟨rfl, rfl, rfl⟩ ?_
  rintro m u w2 ⟨h0, h5, rfl⟩
  (refine CW_seq ?_; refine CW_seq ?_; refine CW_region rfl ?_; refine S_op ?_; refine W_movePtr (by first | rfl | assumption) ?_)
  (refine S_op ?_; refine W_call hS (by rfl) (height_nil (H := H)) ?_); rintro v H w hG' rfl; replace hG := hG.trans hG'; replace hS := hG'.sub; clear hG'
  (refine S_op ?_; refine W_gtrF (by first | rfl | assumption) (by first | rfl | assumption) (by first | omega | rfl) ?_; refine S_nil ?_; refine CW_false (by first | rfl | assumption) ?_; refine CW_exit ?_; refine CW_seq ?_; refine CW_seq ?_; refine CW_region rfl ?_; refine S_op ?_; refine W_movePtr (by first | rfl | assumption) ?_)
  (refine S_op ?_; refine W_call hS (by rfl) (height_nil (H := H)) ?_); rintro v H w hG' rfl; replace hG := hG.trans hG'; replace hS := hG'.sub; clear hG'
  (refine S_op ?_; refine W_eqlF (by first | rfl | assumption) (by first | rfl | assumption) (by first | omega | rfl) ?_; refine S_nil ?_; refine CW_false (by first | rfl | assumption) ?_; refine CW_skip ?_; refine CW_seq ?_; refine CW_region rfl ?_; refine S_op ?_; refine W_moveSl (by first | rfl | assumption) ?_; refine S_op ?_; refine W_assignSl (by first | rfl | assumption) ?_; refine S_nil ?_; refine CW_ret ?_)
  exact ⟨_, ResW_one (v := .slice _ _ _) rfl, H, hG, rfl⟩
/-! ### Get -/
theorem get_c (H : HF) (h : Nat) (x : Nd h) (key : ByteArray) (hx : NodeAt H h x) (hh : h ≤ 1000000) :
    Fn Try.prog 53 [x.ptr, .string key] H fun v _ => v = .tuple #[.string (lookV (Nd.items h x) key), .bool (lookB (Nd.items h x) key)] := by
  have hlk := Nd.look_leaf hx.ok key
  have e1 : lookV (Nd.items h x) key = lookV (Nd.leafAt h x key).ents key := by simp only [lookV, hlk]
  have e2 : lookB (Nd.items h x) key = lookB (Nd.leafAt h x key).ents key := by simp only [lookB, hlk]
  rw [e1, e2]
  refine Fn_of_CW Try.func53 rfl Try.ntmps53 Try.results53 rfl fun w hS => ?_; have hG := Grow.refl hS; have hS0 := hS
  (refine CW_seq ?_; refine CW_region rfl ?_; refine S_op ?_; refine W_assignStr (by first | rfl | assumption) ?_; refine S_op ?_; refine W_assignBool (by first | rfl | assumption) ?_; refine S_nil ?_; refine CW_seq ?_; refine CW_region rfl ?_; refine S_op ?_; refine W_movePtr (by first | rfl | assumption) ?_; refine S_op ?_; refine W_moveStr (by first | rfl | assumption) ?_)
  (refine S_op ?_; refine W_call hS (by rfl) (path_c H h x key hx hh) ?_); rintro v H w hG' hv; replace hG := hG.trans hG'; replace hS := hG'.sub; replace hx := hx.mono hG'.le; clear hG'
  obtain ⟨A, c, rfl, hc, hsl, hlen⟩ := hv
  have hget := Nd.path_last x key
  obtain ⟨bb, off, hA, hrow⟩ : ∃ bb off, A = some ⟨bb, off, none⟩ ∧ Row H bb off (Nd.pathL h x key) := by
    rcases hsl with h1 | h1
    · rw [h1] at hget; simp at hget
    · exact h1
  have hat := hx.leafAt key
  generalize Nd.leafAt h x key = y at *
  have hq : h + 1 - 1 < h + 1 := by omega
  replace hget : (Nd.pathL h x key)[(h + 1 - 1) * 1]? = some y.ptr := by simpa using hget
  (refine S_op ?_; refine W_assignSl (by first | rfl | assumption) ?_; refine S_nil ?_; refine CW_seq ?_; refine CW_seq ?_; refine CW_region rfl ?_; refine S_op ?_; refine W_moveSl (by first | rfl | assumption) ?_; refine S_op ?_; refine W_len (by first | rfl | assumption) ?_; refine S_op ?_; refine W_eqlF (by first | rfl | assumption) (by first | rfl | assumption) (by first | omega | rfl) ?_; refine S_nil ?_; refine CW_false (by first | rfl | assumption) ?_; refine CW_skip ?_; refine CW_seq ?_; refine CW_region rfl ?_; refine S_op ?_; refine W_moveSl (by first | rfl | assumption) ?_; refine S_op ?_; refine W_moveSl (by first | rfl | assumption) ?_; refine S_op ?_; refine W_len (by first | rfl | assumption) ?_; refine S_op ?_; refine W_sub1 (by first | rfl | assumption) (by omega) (by omega) ?_; refine S_op ?_; refine W_index (by first | rfl | assumption) (by first | rfl | assumption) (by first | assumption | omega | decide) (by first | rfl | assumption) ?_)
  refine S_op (W_loadRow (by rfl) hrow hget hS ?_)
  skip
  (refine S_op ?_; refine W_call hS (by rfl) (entries_c hat) ?_); rintro v H w hG' hv; replace hG := hG.trans hG'; replace hS := hG'.sub; clear hG'
  obtain ⟨A2, c2, rfl, hc2, hl2⟩ := hv
  have hyl : y.ents.length ≤ 4 := by have := hat.ok; simp only [Nd.Ok, leafB, Bool.and_eq_true, decide_eq_true_eq] at this; omega
  have hl2 : EntsAt H A2 y.ents := hl2
  rw [show Nd.own 0 y = y.ents from rfl]
  (refine S_op ?_; refine W_assignSl (by first | rfl | assumption) ?_; refine S_nil ?_; refine CW_seq ?_; refine CW_region rfl ?_; refine S_op ?_; refine W_moveSl (by first | rfl | assumption) ?_; refine S_op ?_; refine W_moveStr (by first | rfl | assumption) ?_)
  (refine S_op ?_; refine W_call hS (by rfl) (find_c H A2 c2 y.ents key hl2 (by omega)) ?_); rintro v H w hG' rfl; replace hG := hG.trans hG'; replace hS := hG'.sub; replace hl2 := hl2.mono hG'.le; clear hG'
  cases hf : findIs y.ents key with
  | false =>
    (refine S_op ?_; refine W_moveTup (by first | rfl | assumption) ?_; refine S_op ?_; refine W_extract (by first | rfl | assumption) (by rfl) ?_; refine S_op ?_; refine W_extract (by first | rfl | assumption) (by rfl) ?_; refine S_op ?_; refine W_assignInt (by first | rfl | assumption) ?_; refine S_op ?_; refine W_assignBool (by first | rfl | assumption) ?_; refine S_nil ?_; refine CW_seq ?_; refine CW_seq ?_; refine CW_region rfl ?_; refine S_op ?_; refine W_moveBool (by first | rfl | assumption) ?_; refine S_op ?_; refine W_not (by first | rfl | assumption) ?_; refine S_nil ?_; refine CW_true (by first | rfl | assumption) ?_; refine CW_seq ?_; refine CW_region rfl ?_; refine S_op ?_; refine W_assignStr (by first | rfl | assumption) ?_; refine S_op ?_; refine W_assignBool (by first | rfl | assumption) ?_; refine S_nil ?_; refine CW_ret ?_)
    exact ⟨_, ResW_two (v1 := .string _) (v2 := .bool _) rfl rfl, H, hG, by rw [(lookV_no hf).1, (lookV_no hf).2]⟩
  | true =>
    have hq2 := findIs_lt hf
    obtain ⟨bb2, off2, hA2, hrow2⟩ := hl2.some hq2
    (refine S_op ?_; refine W_moveTup (by first | rfl | assumption) ?_; refine S_op ?_; refine W_extract (by first | rfl | assumption) (by rfl) ?_; refine S_op ?_; refine W_extract (by first | rfl | assumption) (by rfl) ?_; refine S_op ?_; refine W_assignInt (by first | rfl | assumption) ?_; refine S_op ?_; refine W_assignBool (by first | rfl | assumption) ?_; refine S_nil ?_; refine CW_seq ?_; refine CW_seq ?_; refine CW_region rfl ?_; refine S_op ?_; refine W_moveBool (by first | rfl | assumption) ?_; refine S_op ?_; refine W_not (by first | rfl | assumption) ?_; refine S_nil ?_; refine CW_false (by first | rfl | assumption) ?_; refine CW_skip ?_; refine CW_seq ?_; refine CW_region rfl ?_; refine S_op ?_; refine W_moveSl (by first | rfl | assumption) ?_; refine S_op ?_; refine W_moveInt (by first | rfl | assumption) ?_; refine S_op ?_; refine W_index (by first | rfl | assumption) (by first | rfl | assumption) (by first | assumption | omega | decide) (by first | rfl | assumption) ?_; refine S_op ?_; refine W_field (by first | rfl | assumption) ?_; refine S_op ?_; refine W_loadVal (by first | rfl | assumption) (by assumption) (by first | assumption | omega) (by assumption) ?_; refine S_op ?_; refine W_assignStr (by first | rfl | assumption) ?_; refine S_op ?_; refine W_assignBool (by first | rfl | assumption) ?_; refine S_nil ?_; refine CW_ret ?_)
    exact ⟨_, ResW_two (v1 := .string _) (v2 := .bool _) rfl rfl, H, hG, by rw [(lookV_yes hf).1, (lookV_yes hf).2]⟩
theorem get_t {H : HF} {t : Tr} (ht : Tr.At H t) (key : ByteArray) (hh : t.height ≤ 1000000) :
    Fn Try.prog 53 [t.val, .string key] H fun v _ => v = .tuple #[.string (lookV t.items key), .bool (lookB t.items key)] := by
  cases t with
  | none =>
    show Fn Try.prog 53 [.pointer none, .string key] H fun v _ => v = .tuple #[.string ⟨#[]⟩, .bool false]
    refine Fn_of_CW Try.func53 rfl Try.ntmps53 Try.results53 rfl fun w hS => ?_; have hG := Grow.refl hS; have hS0 := hS
    (refine CW_seq ?_; refine CW_region rfl ?_; refine S_op ?_; refine W_assignStr (by first | rfl | assumption) ?_; refine S_op ?_; refine W_assignBool (by first | rfl | assumption) ?_; refine S_nil ?_; refine CW_seq ?_; refine CW_region rfl ?_; refine S_op ?_; refine W_movePtr (by first | rfl | assumption) ?_; refine S_op ?_; refine W_moveStr (by first | rfl | assumption) ?_)
    (refine S_op ?_; refine W_call hS (by rfl) (path_nil H key) ?_); rintro v H w hG' rfl; replace hG := hG.trans hG'; replace hS := hG'.sub; clear hG'
    (refine S_op ?_; refine W_assignSl (by first | rfl | assumption) ?_; refine S_nil ?_; refine CW_seq ?_; refine CW_seq ?_; refine CW_region rfl ?_; refine S_op ?_; refine W_moveSl (by first | rfl | assumption) ?_; refine S_op ?_; refine W_len (by first | rfl | assumption) ?_; refine S_op ?_; refine W_eqlT (by first | rfl | assumption) (by first | rfl | assumption) (by first | omega | rfl) ?_; refine S_nil ?_; refine CW_true (by first | rfl | assumption) ?_; refine CW_seq ?_; refine CW_region rfl ?_; refine S_op ?_; refine W_assignStr (by first | rfl | assumption) ?_; refine S_op ?_; refine W_assignBool (by first | rfl | assumption) ?_; refine S_nil ?_; refine CW_ret ?_)
    exact ⟨_, ResW_two (v1 := .string _) (v2 := .bool _) rfl rfl, H, hG, rfl⟩
  | some x => exact get_c H x.1 x.2 key ht (by simp only [Tr.height] at hh; omega)
/-! ### Items -/
theorem flat_take {h : Nat} {ks : List (Nd h)} {i : Nat} (hi : i < ks.length) : (ks.take (i + 1)).flatMap (Nd.items h) = (ks.take i).flatMap (Nd.items h) ++ Nd.items h ks[i] := by
  rw [take_succ' hi, List.flatMap_append, List.flatMap_singleton]
theorem flat_le {h : Nat} (ks : List (Nd h)) (i : Nat) : ((ks.take i).flatMap (Nd.items h)).length ≤ (ks.flatMap (Nd.items h)).length := by
  conv => rhs; rw [← List.take_append_drop i ks, List.flatMap_append, List.length_append]
  omega
theorem items_c (h : Nat) : ∀ (H : HF) (x : Nd h), NodeAt H h x → (Nd.items h x).length ≤ 1000000 → Fn Try.prog 24 [x.ptr] H fun v H' => IsEnts v (Nd.items h x) H' := by
  induction h with
  | zero =>
    intro H x hx hb
    refine Fn_of_CW Try.func24 rfl Try.ntmps24 Try.results24 rfl fun w hS => ?_; have hG := Grow.refl hS; have hS0 := hS
    (refine CW_seq ?_; refine CW_region rfl ?_; refine S_op ?_; refine W_assignSl (by first | rfl | assumption) ?_; refine S_nil ?_; refine CW_seq ?_; refine CW_region rfl ?_; refine S_op ?_; refine W_movePtr (by first | rfl | assumption) ?_)
    (refine S_op ?_; refine W_call hS (by rfl) (entries_c hx) ?_); rintro v H w hG' hv; replace hG := hG.trans hG'; replace hS := hG'.sub; replace hx := hx.mono hG'.le; clear hG'
    obtain ⟨A, c, rfl, hc, hl⟩ := hv
    (refine S_op ?_; refine W_assignSl (by first | rfl | assumption) ?_; refine S_nil ?_; refine CW_seq ?_; refine CW_seq ?_; refine CW_region rfl ?_; refine S_op ?_; refine W_movePtr (by first | rfl | assumption) ?_)
    (refine S_op ?_; refine W_call hS (by rfl) (kids_leaf hx) ?_); rintro v H w hG' rfl; replace hG := hG.trans hG'; replace hS := hG'.sub; replace hl := hl.mono hG'.le; clear hG'
    (refine S_op ?_; refine W_len (by first | rfl | assumption) ?_; refine S_op ?_; refine W_moveInt (by first | rfl | assumption) ?_; refine S_nil ?_; refine CW_block ?_)
    refine CW_loopM [3, 5, 11, 12, 13, 14, 15, 16, 17, 18, 19]
      (fun m u w2 => u 3 = .slice A x.ents.length c ∧ u 11 = .int .i64 0 ∧ w2 = w)
      (m := 0) ⟨rfl, rfl, rfl⟩ ?_
    rintro m u w2 ⟨h3, h11, rfl⟩
    (refine CW_seq ?_; refine CW_region rfl ?_; refine S_op ?_; refine W_lssF (by first | rfl | assumption) (by first | rfl | assumption) (by first | omega | rfl) ?_; refine S_nil ?_; refine CW_seq ?_; refine CW_false (by first | rfl | assumption) ?_; refine CW_exit ?_; refine CW_seq ?_; refine CW_region rfl ?_; refine S_op ?_; refine W_moveSl (by first | rfl | assumption) ?_; refine S_op ?_; refine W_assignSl (by first | rfl | assumption) ?_; refine S_nil ?_; refine CW_ret ?_)
    exact ⟨_, ResW_one (v := .slice _ _ _) rfl, H, hG, A, c, rfl, hc, hl⟩
  | succ h ih =>
    intro H x hx hb
    have hb : (x.kids.flatMap (Nd.items h)).length ≤ 1000000 := hb
    refine Fn_of_CW Try.func24 rfl Try.ntmps24 Try.results24 rfl fun w hS => ?_; have hG := Grow.refl hS; have hS0 := hS
    (refine CW_seq ?_; refine CW_region rfl ?_; refine S_op ?_; refine W_assignSl (by first | rfl | assumption) ?_; refine S_nil ?_; refine CW_seq ?_; refine CW_region rfl ?_; refine S_op ?_; refine W_movePtr (by first | rfl | assumption) ?_)
    (refine S_op ?_; refine W_call hS (by rfl) (entries_branch hx) ?_); rintro v H w hG' rfl; replace hG := hG.trans hG'; replace hS := hG'.sub; replace hx := hx.mono hG'.le; clear hG'
    (refine S_op ?_; refine W_assignSl (by first | rfl | assumption) ?_; refine S_nil ?_; refine CW_seq ?_; refine CW_seq ?_; refine CW_region rfl ?_; refine S_op ?_; refine W_movePtr (by first | rfl | assumption) ?_)
    (refine S_op ?_; refine W_call hS (by rfl) (kids_c hx) ?_); rintro v H w hG' hv; replace hG := hG.trans hG'; replace hS := hG'.sub; replace hx := hx.mono hG'.le; clear hG'
    obtain ⟨B, d, rfl, hd, hsl, _⟩ := hv
    have hks := hx.kids
    (refine S_op ?_; refine W_len (by first | rfl | assumption) ?_; refine S_op ?_; refine W_moveInt (by first | rfl | assumption) ?_; refine S_nil ?_; refine CW_block ?_)
    have hG0 := hG
    have hxl := hx.ok.2.1
    refine CW_loopM [3, 5, 11, 12, 13, 14, 15, 16, 17, 18, 19]
      (fun m u w2 => ∃ (i : Nat) (A : Option Addr) (n c : Nat) (H2 : HF), u 11 = .int .i64 (i : Int) ∧ u 3 = .slice A n c ∧ Grow H w H2 w2 ∧ n = ((x.kids.take i).flatMap (Nd.items h)).length ∧ Own H2 w2 w.heap.size 60 2 A n c (entCells ((x.kids.take i).flatMap (Nd.items h))) ∧ i ≤ x.kids.length ∧ x.kids.length - i ≤ m)
      (m := x.kids.length) ⟨0, none, 0, 0, H, rfl, rfl, Grow.refl hS, rfl, Own.nil _ _ _ _ _, by omega, by omega⟩ ?_
    rintro m u w2 ⟨i, A, n, c, H2, h11, h3, hG, hn, hown, hi, hm⟩
    replace hS := hG.sub
    replace hsl := hsl.mono hG.le
    replace hks := hks.mono hG.le
    by_cases hlt : i < x.kids.length
    · obtain ⟨b, off, hA, hrow⟩ := slAt_some hsl hlt
      have hget := ptr_get hlt
      have hxi := hks x.kids[i] (List.getElem_mem _)
      have hft := flat_take hlt
      have hfl := flat_le x.kids (i + 1)
      rw [hft, List.length_append] at hfl
      (refine CW_seq ?_; refine CW_region rfl ?_; refine S_op ?_; refine W_lssT (by first | rfl | assumption) (by first | rfl | assumption) (by first | omega | rfl) ?_; refine S_nil ?_; refine CW_seq ?_; refine CW_true (by first | rfl | assumption) ?_; refine CW_skip ?_; refine CW_seq ?_; refine CW_block ?_; refine CW_seq ?_; refine CW_region rfl ?_; refine S_op ?_; refine W_index (by first | rfl | assumption) (by first | rfl | assumption) (by first | assumption | omega | decide) (by first | rfl | assumption) ?_)
      refine S_op (W_loadRow (by rfl) hrow hget hS ?_)
      (refine S_op ?_; refine W_assignPtr (by first | rfl | assumption) ?_; refine S_nil ?_; refine CW_region rfl ?_; refine S_op ?_; refine W_moveSl (by first | rfl | assumption) ?_; refine S_op ?_; refine W_movePtr (by first | rfl | assumption) ?_)
      (refine S_op ?_; refine W_call hS (by rfl) (ih H2 x.kids[i] hxi (by omega)) ?_); rintro v H w hG' hv; replace hG := hG.trans hG'; replace hS := hG'.sub; replace hsl := hsl.mono hG'.le; replace hks := hks.mono hG'.le; replace hown := hown.grow hG'; clear hG'
      obtain ⟨A2, c2, rfl, hc2, hl2⟩ := hv
      skip
      refine S_op ?_
      refine W_append (by rfl) (by rfl) hG hown (SlAt.cells hl2 hS) (entCells_length _) (entCells_one _) (by decide) (by omega) (by omega) ?_
      intro A3 c3 w3 hG3 hown3 _ hA3
      clear hA3
      rw [← entCells_append, ← hft] at hown3
      (refine S_op ?_; refine W_assignSl (by first | rfl | assumption) ?_; refine S_nil ?_; refine CW_region rfl ?_; refine S_op ?_; refine W_add1 (by first | rfl | assumption) (by omega) ?_; refine S_op ?_; refine W_moveInt (by first | rfl | assumption) ?_; refine S_nil ?_)
      exact ⟨(by repeat (first | exact AgreeOff.over | refine AgreeOff.upd rfl ?_ | refine AgreeOff.over2 rfl ?_)), m - 1, by omega, i + 1, A3, _, c3, H, rfl, rfl, hG3, by rw [hft, List.length_append, hn], hown3, by omega, by omega⟩
    · have hin : i = x.kids.length := by omega
      subst hin
      rw [List.take_length] at hn hown
      (refine CW_seq ?_; refine CW_region rfl ?_; refine S_op ?_; refine W_lssF (by first | rfl | assumption) (by first | rfl | assumption) (by first | omega | rfl) ?_; refine S_nil ?_; refine CW_seq ?_; refine CW_false (by first | rfl | assumption) ?_; refine CW_exit ?_; refine CW_seq ?_; refine CW_region rfl ?_; refine S_op ?_; refine W_moveSl (by first | rfl | assumption) ?_; refine S_op ?_; refine W_assignSl (by first | rfl | assumption) ?_; refine S_nil ?_; refine CW_ret ?_)
      obtain ⟨H3, hle3, hG3, hsl3, _⟩ := hown.freeze hG
      exact ⟨_, ResW_one (v := .slice _ _ _) rfl, H3, hG0.trans hG3, A, c, by rw [hn]; rfl, by have := hown.cap; rw [hn] at this; exact this, hsl3⟩
theorem items_t {H : HF} {t : Tr} (ht : Tr.At H t) (hb : t.items.length ≤ 1000000) : Fn Try.prog 24 [t.val] H fun v H' => IsEnts v t.items H' := by
  cases t with
  | none =>
    show Fn Try.prog 24 [.pointer none] H fun v H' => IsEnts v [] H'
    refine Fn_of_CW Try.func24 rfl Try.ntmps24 Try.results24 rfl fun w hS => ?_; have hG := Grow.refl hS; have hS0 := hS
    (refine CW_seq ?_; refine CW_region rfl ?_; refine S_op ?_; refine W_assignSl (by first | rfl | assumption) ?_; refine S_nil ?_; refine CW_seq ?_; refine CW_region rfl ?_; refine S_op ?_; refine W_movePtr (by first | rfl | assumption) ?_)
    (refine S_op ?_; refine W_call hS (by rfl) (entries_nil (H := H)) ?_); rintro v H w hG' rfl; replace hG := hG.trans hG'; replace hS := hG'.sub; clear hG'
    (refine S_op ?_; refine W_assignSl (by first | rfl | assumption) ?_; refine S_nil ?_; refine CW_seq ?_; refine CW_seq ?_; refine CW_region rfl ?_; refine S_op ?_; refine W_movePtr (by first | rfl | assumption) ?_)
    (refine S_op ?_; refine W_call hS (by rfl) (kids_nil (H := H)) ?_); rintro v H w hG' rfl; replace hG := hG.trans hG'; replace hS := hG'.sub; clear hG'
    (refine S_op ?_; refine W_len (by first | rfl | assumption) ?_; refine S_op ?_; refine W_moveInt (by first | rfl | assumption) ?_; refine S_nil ?_; refine CW_block ?_)
    refine CW_loopM [3, 5, 11, 12, 13, 14, 15, 16, 17, 18, 19]
      (fun m u w2 => u 3 = .slice none 0 0 ∧ u 11 = .int .i64 0 ∧ w2 = w)
      (m := 0) ⟨rfl, rfl, rfl⟩ ?_
    rintro m u w2 ⟨h3, h11, rfl⟩
    (refine CW_seq ?_; refine CW_region rfl ?_; refine S_op ?_; refine W_lssF (by first | rfl | assumption) (by first | rfl | assumption) (by first | omega | rfl) ?_; refine S_nil ?_; refine CW_seq ?_; refine CW_false (by first | rfl | assumption) ?_; refine CW_exit ?_; refine CW_seq ?_; refine CW_region rfl ?_; refine S_op ?_; refine W_moveSl (by first | rfl | assumption) ?_; refine S_op ?_; refine W_assignSl (by first | rfl | assumption) ?_; refine S_nil ?_; refine CW_ret ?_)
    exact ⟨_, ResW_one (v := .slice _ _ _) rfl, H, hG, none, 0, rfl, Nat.le_refl _, .inl rfl⟩
  | some x => exact items_c x.1 H x.2 ht hb
theorem right_t {H : HF} {t : Tr} (ht : Tr.At H t) : Fn Try.prog 34 [t.val] H fun v _ => v = .bool t.full := by
  cases t with
  | none =>
    show Fn Try.prog 34 [.pointer none] H fun v _ => v = .bool true
    refine Fn_of_CW Try.func34 rfl Try.ntmps34 Try.results34 rfl fun w hS => ?_; have hG := Grow.refl hS; have hS0 := hS
    (refine CW_seq ?_; refine CW_region rfl ?_; refine S_op ?_; refine W_assignBool (by first | rfl | assumption) ?_; refine S_nil ?_; refine CW_seq ?_; refine CW_region rfl ?_; refine S_op ?_; refine W_movePtr (by first | rfl | assumption) ?_; refine S_op ?_; refine W_peqnil (by first | rfl | assumption) (by first | rfl | assumption) ?_; refine S_op ?_; refine W_moveBool (by first | rfl | assumption) ?_; refine S_pass (by rfl) ?_; refine S_pass (by rfl) ?_; refine S_pass (by rfl) ?_; refine S_pass (by rfl) ?_; refine S_passU (by rfl) ?_; refine S_passU (by rfl) ?_; refine S_pass (by rfl) ?_; refine S_op ?_; refine W_pickT (by first | rfl | assumption) (by first | rfl | assumption) ?_; refine S_op ?_; refine W_assignBool (by first | rfl | assumption) ?_; refine S_nil ?_; refine CW_ret ?_)
    exact ⟨_, ResW_one (v := .bool _) rfl, H, hG, rfl⟩
  | some x =>
    obtain ⟨h, x⟩ := x
    have hx : NodeAt H h x := ht
    show Fn Try.prog 34 [.pointer (some ⟨x.blk, 0, none⟩)] H fun v _ => v = .bool (Nd.full h x)
    refine Fn_of_CW Try.func34 rfl Try.ntmps34 Try.results34 rfl fun w hS => ?_; have hG := Grow.refl hS; have hS0 := hS
    (refine CW_seq ?_; refine CW_region rfl ?_; refine S_op ?_; refine W_assignBool (by first | rfl | assumption) ?_; refine S_nil ?_; refine CW_seq ?_; refine CW_region rfl ?_; refine S_op ?_; refine W_movePtr (by first | rfl | assumption) ?_; refine S_op ?_; refine W_peqnil (by first | rfl | assumption) (by first | rfl | assumption) ?_; refine S_op ?_; refine W_moveBool (by first | rfl | assumption) ?_; refine S_want (by rfl) ?_; refine W_movePtr (by first | rfl | assumption) ?_)
    (refine S_want (by rfl) ?_; refine W_call hS (by rfl) (height_c hx) ?_); rintro v H w hG' rfl; replace hG := hG.trans hG'; replace hS := hG'.sub; replace hx := hx.mono hG'.le; clear hG'
    (refine S_want (by rfl) ?_; refine W_gtrT (by first | rfl | assumption) (by first | rfl | assumption) (by first | omega | rfl) ?_; refine S_want (by rfl) ?_; refine W_moveBool (by first | rfl | assumption) ?_; refine S_want (by rfl) ?_; refine W_movePtr (by first | rfl | assumption) ?_)
    (refine S_want (by rfl) ?_; refine W_call hS (by rfl) (full_c h H x hx) ?_); rintro v H w hG' rfl; replace hG := hG.trans hG'; replace hS := hG'.sub; replace hx := hx.mono hG'.le; clear hG'
    cases Nd.full h x with
    | false =>
      (refine S_want (by rfl) ?_; refine W_pickT (by first | rfl | assumption) (by first | rfl | assumption) ?_; refine S_op ?_; refine W_pickF (by first | rfl | assumption) (by first | rfl | assumption) ?_; refine S_op ?_; refine W_assignBool (by first | rfl | assumption) ?_; refine S_nil ?_; refine CW_ret ?_)
      exact ⟨_, ResW_one (v := .bool _) rfl, H, hG, rfl⟩
    | true =>
      (refine S_want (by rfl) ?_; refine W_pickT (by first | rfl | assumption) (by first | rfl | assumption) ?_; refine S_op ?_; refine W_pickF (by first | rfl | assumption) (by first | rfl | assumption) ?_; refine S_op ?_; refine W_assignBool (by first | rfl | assumption) ?_; refine S_nil ?_; refine CW_ret ?_)
      exact ⟨_, ResW_one (v := .bool _) rfl, H, hG, rfl⟩
end Go.Proofs.Ytnjeoobcejlojaa
