/- Trees as layers above them see them: put, del, get. Conditions: sizes. -/
import Derived.Test.YtnjeoobcejlojaaPtrEq
import Derived.Test.YtnjeoobcejlojaaTree7
namespace Go.Proofs.Ytnjeoobcejlojaa
open Go.Proofs Go.RowKit
set_option linter.unusedVariables false
attribute [local irreducible] CW SeqW OpW
set_option maxHeartbeats 4000000
/-- A tree lies in the heap, and can be. -/
structure TreeAt (H : HF) (t : Tr) : Prop where
  at_ : Tr.At H t
  full : t.full = true
theorem TreeAt.mono {H H' : HF} {t : Tr} (h : TreeAt H t) (hle : HLe H H') : TreeAt H' t := ⟨h.at_.mono hle, h.full⟩
theorem TreeAt.rise {H : HF} {t : Tr} (h : TreeAt H t) : riseB t.items = true := h.at_.ok.1
theorem TreeAt.height {H : HF} {t : Tr} (h : TreeAt H t) : t.height ≤ t.items.length := by
  cases t with
  | none => exact Nat.zero_le _
  | some x => exact Nd.items_gt (NodeAt.ok h.at_)
theorem TreeAt.nil {H : HF} : TreeAt H none := ⟨trivial, rfl⟩
/-- What a change makes of entries. -/
def putL (l : List Ent) (e : Ent) : List Ent := if entOk e then withL l e else l
theorem putL_len (l : List Ent) (e : Ent) : (putL l e).length ≤ l.length + 1 := by
  unfold putL
  split
  · exact withL_length_le _ _
  · omega
theorem rise_putL {l : List Ent} (e : Ent) (h : riseB l = true) : riseB (putL l e) = true := by
  unfold putL
  split
  · exact rise_withL _ h
  · exact h
theorem put_tree {H H' : HF} {t t' : Tr} {e : Ent} (ht : TreeAt H t) (hat : Tr.At H' t') (hp : Putted H t e t') : TreeAt H' t' := ⟨hat, hp.full ht.full⟩
theorem entOk_not {e : Ent} (h : rKey e.key ≠ 0 ∨ rValue e.val ≠ 0) : entOk e = false := by
  rcases h with h | h <;> simp [entOk, h]
/-- Put, in one: the error's number, the tree. -/
def putE (e : Ent) : Nat := if rKey e.key ≠ 0 then rKey e.key else rValue e.val
theorem putE_ok {e : Ent} : putE e = 0 ↔ entOk e = true := by
  unfold putE entOk
  by_cases h : rKey e.key = 0 <;> simp [h]
theorem tPut_c {H : HF} {t : Tr} (e : Ent) (ht : TreeAt H t) (hb : t.items.length ≤ 800000) :
    Fn Try.prog 47 [t.val, .agg #[.string e.key, .string e.val]] H fun v H' => ∃ t', v = .tuple #[Tr.val t', .int .i64 (putE e : Nat)] ∧
      (putE e ≠ 0 → t' = none) ∧ (putE e = 0 → TreeAt H' t' ∧ Putted H t e t') := by
  refine (put_t H t e ht.at_ (by have := ht.height; omega)).mono ?_
  rintro v H' _ (⟨h1, rfl⟩ | ⟨h1, h2, rfl⟩ | ⟨h1, t', rfl, h3, h4⟩)
  · exact ⟨none, by simp [putE, h1]; rfl, fun _ => rfl, fun h => absurd h (by simp [putE, h1])⟩
  · exact ⟨none, by simp [putE, h1]; rfl, fun _ => rfl, fun h => absurd h (by simp [putE, h1, h2])⟩
  · have h5 := putE_ok.2 h1
    exact ⟨t', by rw [h5]; rfl, fun h => absurd h5 h, fun _ => ⟨put_tree ht h3 h4, h4⟩⟩
theorem tDel_c {H : HF} {t : Tr} (key : ByteArray) (ht : TreeAt H t) (hb : t.items.length ≤ 800000) :
    Fn Try.prog 48 [t.val, .string key] H fun v H' => ∃ t', v = .tuple #[Tr.val t', .bool (lookB t.items key)] ∧ TreeAt H' t' ∧ Deled t key t' ∧ (lookB t.items key = false → t' = t) := by
  refine (del_t H t key ht.at_ ht.full (by have := ht.height; omega)).mono ?_
  rintro v H' _ ⟨t', h1, h2, h3, h4⟩
  exact ⟨t', h1, ⟨h2, h3.full⟩, h3, h4⟩
theorem tGet_c {H : HF} {t : Tr} (key : ByteArray) (ht : TreeAt H t) (hb : t.items.length ≤ 800000) :
    Fn Try.prog 53 [t.val, .string key] H fun v _ => v = .tuple #[.string (lookV t.items key), .bool (lookB t.items key)] :=
  get_t ht.at_ key (by have := ht.height; omega)
theorem rGet_c (H : HF) (A : Option Addr) (c : Nat) (l : List Ent) (key : ByteArray) (hl : EntsAt H A l) (hr : riseB l = true) (hb : l.length ≤ 1000000) :
    Fn Try.prog 49 [.slice A l.length c, .string key] H fun v _ => v = .tuple #[.string (lookV l key), .bool (lookB l key)] := by
  refine Fn_of_CW Try.func49 rfl Try.ntmps49 Try.results49 rfl fun w hS => ?_; have hG := Grow.refl hS; have hS0 := hS
  (refine CW_seq ?_; refine CW_region rfl ?_; refine S_op ?_; refine W_assignStr (by first | rfl | assumption) ?_; refine S_op ?_; refine W_assignBool (by first | rfl | assumption) ?_; refine S_nil ?_; refine CW_seq ?_; refine CW_region rfl ?_; refine S_op ?_; refine W_moveSl (by first | rfl | assumption) ?_; refine S_op ?_; refine W_moveStr (by first | rfl | assumption) ?_)
  (refine S_op ?_; refine W_call hS (by rfl) (rFind_c H A c l key hl hb) ?_); rintro v H w hG' rfl; replace hG := hG.trans hG'; replace hS := hG'.sub; replace hl := hl.mono hG'.le; clear hG'
  rw [rFind_eq hr]
  cases hf : findIs l key with
  | false =>
    (refine S_op ?_; refine W_moveTup (by first | rfl | assumption) ?_; refine S_op ?_; refine W_extract (by first | rfl | assumption) (by rfl) ?_; refine S_op ?_; refine W_extract (by first | rfl | assumption) (by rfl) ?_; refine S_op ?_; refine W_assignInt (by first | rfl | assumption) ?_; refine S_op ?_; refine W_assignBool (by first | rfl | assumption) ?_; refine S_nil ?_; refine CW_seq ?_; refine CW_seq ?_; refine CW_region rfl ?_; refine S_op ?_; refine W_moveBool (by first | rfl | assumption) ?_; refine S_op ?_; refine W_not (by first | rfl | assumption) ?_; refine S_nil ?_; refine CW_true (by first | rfl | assumption) ?_; refine CW_seq ?_; refine CW_region rfl ?_; refine S_op ?_; refine W_assignStr (by first | rfl | assumption) ?_; refine S_op ?_; refine W_assignBool (by first | rfl | assumption) ?_; refine S_nil ?_; refine CW_ret ?_)
    exact ⟨_, ResW_two (v1 := .string _) (v2 := .bool _) rfl rfl, H, hG, by rw [(lookV_no hf).1, (lookV_no hf).2]⟩
  | true =>
    have hq := findIs_lt hf
    obtain ⟨bb, off, hA, hrow⟩ := hl.some hq
    (refine S_op ?_; refine W_moveTup (by first | rfl | assumption) ?_; refine S_op ?_; refine W_extract (by first | rfl | assumption) (by rfl) ?_; refine S_op ?_; refine W_extract (by first | rfl | assumption) (by rfl) ?_; refine S_op ?_; refine W_assignInt (by first | rfl | assumption) ?_; refine S_op ?_; refine W_assignBool (by first | rfl | assumption) ?_; refine S_nil ?_; refine CW_seq ?_; refine CW_seq ?_; refine CW_region rfl ?_; refine S_op ?_; refine W_moveBool (by first | rfl | assumption) ?_; refine S_op ?_; refine W_not (by first | rfl | assumption) ?_; refine S_nil ?_; refine CW_false (by first | rfl | assumption) ?_; refine CW_skip ?_; refine CW_seq ?_; refine CW_region rfl ?_; refine S_op ?_; refine W_moveSl (by first | rfl | assumption) ?_; refine S_op ?_; refine W_moveInt (by first | rfl | assumption) ?_; refine S_op ?_; refine W_index (by first | rfl | assumption) (by first | rfl | assumption) (by first | assumption | omega | decide) (by first | rfl | assumption) ?_; refine S_op ?_; refine W_field (by first | rfl | assumption) ?_; refine S_op ?_; refine W_loadVal (by first | rfl | assumption) (by assumption) (by first | assumption | omega) (by assumption) ?_; refine S_op ?_; refine W_assignStr (by first | rfl | assumption) ?_; refine S_op ?_; refine W_assignBool (by first | rfl | assumption) ?_; refine S_nil ?_; refine CW_ret ?_)
    exact ⟨_, ResW_two (v1 := .string _) (v2 := .bool _) rfl rfl, H, hG, by rw [(lookV_yes hf).1, (lookV_yes hf).2]⟩
end Go.Proofs.Ytnjeoobcejlojaa
