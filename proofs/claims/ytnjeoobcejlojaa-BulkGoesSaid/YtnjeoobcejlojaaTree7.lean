/- tree: Del: walked, with what it makes. Conditions: sizes. -/
import Derived.Test.YtnjeoobcejlojaaTree6
namespace Go.Proofs.Ytnjeoobcejlojaa
open Go.Proofs Go.RowKit
set_option linter.unusedVariables false
attribute [local irreducible] CW SeqW OpW
set_option maxHeartbeats 8000000
theorem top_nodes {H : HF} {Q : Nat → Prop} {h : Nat} {v : Value} {its : List Ent} {n : Nat} (hp : IsPart H Q h v its n) (hr : riseB its = true) (ho : ∀ e ∈ its, entOk e = true) (h1 : h = 0 ∨ 1 ≤ n) (h8 : n ≤ highN h) (hh : h ≤ 800000) :
    Fn Try.prog 74 [v] H fun r H' => (its = [] ∧ ∃ A c, r = .slice A 0 c) ∨ ∃ (k : Nat) (y : Nd k), NdsAt H' k r [y] ∧ Nd.items k y = its ∧ Nd.full k y = true ∧ ∀ b ∈ Nd.blocks k y, b = y.blk ∨ Q b := by
  have hn8 : n ≤ 8 := by unfold highN at h8; split at h8 <;> omega
  have main : (if h = 0 then 1 else 2) ≤ n → Fn Try.prog 74 [v] H fun r H' => (its = [] ∧ ∃ A c, r = .slice A 0 c) ∨ ∃ (k : Nat) (y : Nd k), NdsAt H' k r [y] ∧ Nd.items k y = its ∧ Nd.full k y = true ∧ ∀ b ∈ Nd.blocks k y, b = y.blk ∨ Q b := by
    intro hl
    refine (part_nodes hp hr ho hl hn8 hh).mono fun r H' _ ⟨out, q1, q2⟩ => .inr ?_
    have h1 := q2.one h8
    match out, h1 with
    | [y], _ =>
      refine ⟨h, y, q1, by have := q2.items; rw [List.flatMap_singleton] at this; exact this, q2.full y (by simp), fun b hb => ?_⟩
      rcases q2.blocks y (by simp) b hb with h | h
      · exact .inl (by simpa using h)
      · exact .inr h
  by_cases hl : (if h = 0 then 1 else 2) ≤ n
  · exact main hl
  · cases h with
    | zero =>
      obtain ⟨p1, rfl⟩ := hp
      have h0 : its.length = 0 := by simp at hl; simp [hl]
      have h0' : its = [] := List.eq_nil_of_length_eq_zero h0
      refine (nodesLeaf_c p1 hr ho hn8).mono fun r H' _ ⟨out, ⟨B, d, q0, q1⟩, q2, _⟩ => .inl ⟨h0', ?_⟩
      rcases q2 with ⟨_, rfl⟩ | ⟨q4, _⟩ | ⟨q4, _⟩
      · exact ⟨B, d, q0⟩
      · omega
      · omega
    | succ h =>
      obtain ⟨ks, p1, rfl, rfl, p3, p4⟩ := hp
      simp at hl h1
      have hk1 : ks.length = 1 := by omega
      refine (nodesOne_c p1 hk1).mono fun r H' _ hr => .inr ?_
      match ks, hk1 with
      | [y], _ => exact ⟨h, y, hr, by simp, (p3 y (by simp)).2, fun b hb => .inr (p4 y (by simp) b hb)⟩
structure Deled (t : Tr) (key : ByteArray) (t' : Tr) : Prop where
  items : t'.items = withoutL t.items key
  full : t'.full = true
  blocks : ∃ N : List Nat, N.length ≤ 2 * t.height + 1 ∧ ∀ b ∈ t'.blocks, b ∈ N ∨ b ∈ t.blocks
theorem withoutL_same {l : List Ent} {key : ByteArray} (h : lookB l key = false) : withoutL l key = l := by
  have : findIs l key = false := by rw [look_is]; exact h
  simp [withoutL, this]
theorem del_t (H : HF) (t : Tr) (key : ByteArray) (ht : Tr.At H t) (hf : t.full = true) (hh : t.height ≤ 800000) :
    Fn Try.prog 48 [t.val, .string key] H fun v H' => ∃ t', v = .tuple #[Tr.val t', .bool (lookB t.items key)] ∧ Tr.At H' t' ∧ Deled t key t' ∧ (lookB t.items key = false → t' = t) := by
  refine Fn_of_CW Try.func48 rfl Try.ntmps48 Try.results48 rfl fun w hS => ?_; have hG := Grow.refl hS; have hS0 := hS
  (refine CW_seq ?_; refine CW_region rfl ?_; refine S_op ?_; refine W_assignPtr (by first | rfl | assumption) ?_; refine S_op ?_; refine W_assignBool (by first | rfl | assumption) ?_; refine S_nil ?_; refine CW_seq ?_; refine CW_seq ?_; refine CW_region rfl ?_; refine S_op ?_; refine W_movePtr (by first | rfl | assumption) ?_; refine S_op ?_; refine W_moveStr (by first | rfl | assumption) ?_)
  (refine S_op ?_; refine W_call hS (by rfl) (get_t ht key (by omega)) ?_); rintro v H w hG' rfl; replace hG := hG.trans hG'; replace hS := hG'.sub; replace ht := ht.mono hG'.le; clear hG'
  cases hl : lookB t.items key with
  | false =>
    (refine S_op ?_; refine W_moveTup (by first | rfl | assumption) ?_; refine S_op ?_; refine W_extract (by first | rfl | assumption) (by rfl) ?_; refine S_op ?_; refine W_extract (by first | rfl | assumption) (by rfl) ?_; refine S_op ?_; refine W_assignStr (by first | rfl | assumption) ?_; refine S_op ?_; refine W_assignBool (by first | rfl | assumption) ?_; refine S_nil ?_; refine CW_seq ?_; refine CW_region rfl ?_; refine S_op ?_; refine W_moveBool (by first | rfl | assumption) ?_; refine S_op ?_; refine W_not (by first | rfl | assumption) ?_; refine S_nil ?_; refine CW_true (by first | rfl | assumption) ?_; refine CW_seq ?_; refine CW_region rfl ?_; refine S_op ?_; refine W_movePtr (by first | rfl | assumption) ?_; refine S_op ?_; refine W_assignPtr (by first | rfl | assumption) ?_; refine S_op ?_; refine W_assignBool (by first | rfl | assumption) ?_; refine S_nil ?_; refine CW_ret ?_)
    exact ⟨_, ResW_two (v1 := t.val) (v2 := .bool _) rfl rfl, H, hG, t, rfl, ht, ⟨(withoutL_same hl).symm, hf, [], by simp, fun b hb => .inr hb⟩, fun _ => rfl⟩
  | true =>
    cases t with
    | none => cases hl
    | some x =>
      obtain ⟨h, x⟩ := x
      have hx : NodeAt H h x := ht
      have hh : h + 1 ≤ 800000 := hh
      have hl : lookB (Nd.items h x) key = true := hl
      have hf : Nd.full h x = true := hf
      have hok := hx.ok
      have hrw := rise_withoutL key (Nd.ok_len hok).2
      have how := entOk_withoutL (key := key) (Nd.ok_ents hok)
      (refine S_op ?_; refine W_moveTup (by first | rfl | assumption) ?_; refine S_op ?_; refine W_extract (by first | rfl | assumption) (by rfl) ?_; refine S_op ?_; refine W_extract (by first | rfl | assumption) (by rfl) ?_; refine S_op ?_; refine W_assignStr (by first | rfl | assumption) ?_; refine S_op ?_; refine W_assignBool (by first | rfl | assumption) ?_; refine S_nil ?_; refine CW_seq ?_; refine CW_region rfl ?_; refine S_op ?_; refine W_moveBool (by first | rfl | assumption) ?_; refine S_op ?_; refine W_not (by first | rfl | assumption) ?_; refine S_nil ?_; refine CW_false (by first | rfl | assumption) ?_; refine CW_skip ?_; refine CW_seq ?_; refine CW_region rfl ?_; refine S_op ?_; refine W_movePtr (by first | rfl | assumption) ?_; refine S_op ?_; refine W_moveStr (by first | rfl | assumption) ?_)
      (refine S_op ?_; refine W_call hS (by rfl) (del_c h H x key hx hf hl (by omega)) ?_); rintro v H w hG' ⟨n, N, hN, hp, hn1, hn2⟩; replace hG := hG.trans hG'; replace hS := hG'.sub; replace hx := hx.mono hG'.le; clear hG'
      have hsz := size_le hok
      have h0n : h = 0 ∨ 1 ≤ n := by
        cases h with
        | zero => exact .inl rfl
        | succ h =>
          have h2 := hok.1
          have : x.kids.length ≤ n + 1 := hn2
          exact .inr (by omega)
      skip
      refine S_op ?_
      refine W_call hS (by rfl) (top_nodes hp hrw how h0n (by omega) (by omega)) ?_
      rintro v H w hG' hv
      replace hG := hG.trans hG'
      replace hS := hG'.sub
      clear hG'
      rcases hv with ⟨hnil, A, c, rfl⟩ | ⟨k, y, ⟨B, d, rfl, hd, hsl, hat⟩, hit, hfy, hby⟩
      · (refine S_op ?_; refine W_assignSl (by first | rfl | assumption) ?_; refine S_nil ?_; refine CW_seq ?_; refine CW_seq ?_; refine CW_region rfl ?_; refine S_op ?_; refine W_moveSl (by first | rfl | assumption) ?_; refine S_op ?_; refine W_len (by first | rfl | assumption) ?_; refine S_op ?_; refine W_eqlT (by first | rfl | assumption) (by first | rfl | assumption) (by first | omega | rfl) ?_; refine S_nil ?_; refine CW_true (by first | rfl | assumption) ?_; refine CW_seq ?_; refine CW_region rfl ?_; refine S_op ?_; refine W_assignPtr (by first | rfl | assumption) ?_; refine S_op ?_; refine W_assignBool (by first | rfl | assumption) ?_; refine S_nil ?_; refine CW_ret ?_)
        exact ⟨_, ResW_two (v1 := .pointer _) (v2 := .bool _) rfl rfl, H, hG, none, rfl, trivial, ⟨hnil.symm, rfl, [], by simp, fun b hb => (by cases hb)⟩, fun h => by cases h⟩
      · obtain ⟨bb, off, hA, hrow⟩ := slAt_some hsl (q := 0) (by simp)
        have hget : ([y].map Nd.ptr)[0 * 1]? = some y.ptr := rfl
        have hy : NodeAt H k y := hat y (by simp)
        have hq0 : 0 < [y].length := by simp
        (refine S_op ?_; refine W_assignSl (by first | rfl | assumption) ?_; refine S_nil ?_; refine CW_seq ?_; refine CW_seq ?_; refine CW_region rfl ?_; refine S_op ?_; refine W_moveSl (by first | rfl | assumption) ?_; refine S_op ?_; refine W_len (by first | rfl | assumption) ?_; refine S_op ?_; refine W_eqlF (by first | rfl | assumption) (by first | rfl | assumption) (by first | omega | rfl) ?_; refine S_nil ?_; refine CW_false (by first | rfl | assumption) ?_; refine CW_skip ?_; refine CW_seq ?_; refine CW_region rfl ?_; refine S_op ?_; refine W_moveSl (by first | rfl | assumption) ?_; refine S_op ?_; refine W_index (by first | rfl | assumption) (by first | rfl | assumption) (by first | assumption | omega | decide) (by first | rfl | assumption) ?_)
        refine S_op (W_loadRow (j := 0 * 1) (by rfl) hrow hget hS ?_)
        (refine S_op ?_; refine W_assignPtr (by first | rfl | assumption) ?_; refine S_op ?_; refine W_assignBool (by first | rfl | assumption) ?_; refine S_nil ?_; refine CW_ret ?_)
        exact ⟨_, ResW_two (v1 := y.ptr) (v2 := .bool _) rfl rfl, H, hG, trOf y, rfl, hy, ⟨hit, hfy, y.blk :: N, by simp [Tr.height]; omega, fun b hb => (by
          rcases hby b hb with h | h | h
          · exact .inl (by simp [h])
          · exact .inl (by simp [h])
          · exact .inr h)⟩, fun h => by cases h⟩
end Go.Proofs.Ytnjeoobcejlojaa
