/- Helpers of the laws of layer 10, and the reference's functions of layers 3 and 10 that they call. Conditions: sizes. -/
import Derived.Test.YtlkbdgfipdeloaaPtrEq
import Derived.Test.YtlkbdgfipdeloaaOp10
namespace Go.Proofs.Ytlkbdgfipdeloaa
open Go.Proofs Go.RowKit
set_option linter.unusedVariables false
attribute [local irreducible] CW SeqW OpW
set_option maxHeartbeats 4000000
/-- A tree lies in the heap, and can be. -/
structure TreeAt (H : HF) (t : Tr) : Prop where
  at_ : Tr.At H t
  full : t.full = true
theorem TreeAt.mono {H H' : HF} {t : Tr} (h : TreeAt H t) (hle : HLe H H') : TreeAt H' t := ⟨h.at_.mono hle, h.full⟩
theorem TreeAt.rise {H : HF} {t : Tr} (h : TreeAt H t) : riseB t.items = true := h.at_.ok.1
theorem TreeAt.height {H : HF} {t : Tr} (h : TreeAt H t) : t.height ≤ t.items.length := by
  cases t with
  | none => exact Nat.zero_le _
  | some x => exact Nd.items_gt (NodeAt.ok h.at_)
theorem TreeAt.nil {H : HF} : TreeAt H none := ⟨trivial, rfl⟩
/-- What a change makes of entries. -/
def putL (l : List Ent) (e : Ent) : List Ent := if entOk e then withL l e else l
def stepL (l : List Ent) (o : Op10) : List Ent := if o.del then withoutL l o.e.key else putL l o.e
theorem putL_len (l : List Ent) (e : Ent) : (putL l e).length ≤ l.length + 1 := by
  unfold putL
  split
  · exact withL_length_le _ _
  · omega
theorem stepL_len (l : List Ent) (o : Op10) : (stepL l o).length ≤ l.length + 1 := by
  unfold stepL
  split
  · have := withoutL_length_le l o.e.key; omega
  · exact putL_len _ _
theorem rise_putL {l : List Ent} (e : Ent) (h : riseB l = true) : riseB (putL l e) = true := by
  unfold putL
  split
  · exact rise_withL _ h
  · exact h
theorem rise_stepL {l : List Ent} (o : Op10) (h : riseB l = true) : riseB (stepL l o) = true := by
  unfold stepL
  split
  · exact rise_withoutL _ h
  · exact rise_putL _ h
theorem put_tree {H H' : HF} {t t' : Tr} {e : Ent} (ht : TreeAt H t) (hat : Tr.At H' t') (hp : Putted H t e t') : TreeAt H' t' := ⟨hat, hp.full ht.full⟩
theorem entOk_not {e : Ent} (h : rKey e.key ≠ 0 ∨ rValue e.val ≠ 0) : entOk e = false := by
  rcases h with h | h <;> simp [entOk, h]
/-- Put, in one: the error's number, the tree. -/
def putE (e : Ent) : Nat := if rKey e.key ≠ 0 then rKey e.key else rValue e.val
theorem putE_ok {e : Ent} : putE e = 0 ↔ entOk e = true := by
  unfold putE entOk
  by_cases h : rKey e.key = 0 <;> simp [h]
theorem tPut_c {H : HF} {t : Tr} (e : Ent) (ht : TreeAt H t) (hb : t.items.length ≤ 800000) :
    Fn Try.prog 39 [t.val, .agg #[.string e.key, .string e.val]] H fun v H' => ∃ t', v = .tuple #[Tr.val t', .int .i64 (putE e : Nat)] ∧
      (putE e ≠ 0 → t' = none) ∧ (putE e = 0 → TreeAt H' t' ∧ Putted H t e t') := by
  refine (put_t H t e ht.at_ (by have := ht.height; omega)).mono ?_
  rintro v H' _ (⟨h1, rfl⟩ | ⟨h1, h2, rfl⟩ | ⟨h1, t', rfl, h3, h4⟩)
  · exact ⟨none, by simp [putE, h1]; rfl, fun _ => rfl, fun h => absurd h (by simp [putE, h1])⟩
  · exact ⟨none, by simp [putE, h1]; rfl, fun _ => rfl, fun h => absurd h (by simp [putE, h1, h2])⟩
  · have h5 := putE_ok.2 h1
    exact ⟨t', by rw [h5]; rfl, fun h => absurd h5 h, fun _ => ⟨put_tree ht h3 h4, h4⟩⟩
theorem tDel_c {H : HF} {t : Tr} (key : ByteArray) (ht : TreeAt H t) (hb : t.items.length ≤ 800000) :
    Fn Try.prog 38 [t.val, .string key] H fun v H' => ∃ t', v = .tuple #[Tr.val t', .bool (lookB t.items key)] ∧ TreeAt H' t' ∧ Deled t key t' ∧ (lookB t.items key = false → t' = t) := by
  refine (del_t H t key ht.at_ ht.full (by have := ht.height; omega)).mono ?_
  rintro v H' _ ⟨t', h1, h2, h3, h4⟩
  exact ⟨t', h1, ⟨h2, h3.full⟩, h3, h4⟩
theorem tGet_c {H : HF} {t : Tr} (key : ByteArray) (ht : TreeAt H t) (hb : t.items.length ≤ 800000) :
    Fn Try.prog 36 [t.val, .string key] H fun v _ => v = .tuple #[.string (lookV t.items key), .bool (lookB t.items key)] :=
  get_t ht.at_ key (by have := ht.height; omega)
/-! ### The reference -/
theorem rGet_c (H : HF) (A : Option Addr) (c : Nat) (l : List Ent) (key : ByteArray) (hl : EntsAt H A l) (hr : riseB l = true) (hb : l.length ≤ 1000000) :
    Fn Try.prog 37 [.slice A l.length c, .string key] H fun v _ => v = .tuple #[.string (lookV l key), .bool (lookB l key)] := by
  refine Fn_of_CW Try.func37 rfl Try.ntmps37 Try.results37 rfl fun w hS => ?_; have hG := Grow.refl hS; have hS0 := hS
  (refine CW_seq ?_; refine CW_region rfl ?_; refine S_op ?_; refine W_assignStr (by first | rfl | assumption) ?_; refine S_op ?_; refine W_assignBool (by first | rfl | assumption) ?_; refine S_nil ?_; refine CW_seq ?_; refine CW_region rfl ?_; refine S_op ?_; refine W_moveSl (by first | rfl | assumption) ?_; refine S_op ?_; refine W_moveStr (by first | rfl | assumption) ?_)
  (refine S_op ?_; refine W_call hS (by rfl) (rFind_c H A c l key hl hb) ?_); rintro v H w hG' rfl; replace hG := hG.trans hG'; replace hS := hG'.sub; replace hl := hl.mono hG'.le; clear hG'
  rw [rFind_eq hr]
  cases hf : findIs l key with
  | false =>
    (refine S_op ?_; refine W_moveTup (by first | rfl | assumption) ?_; refine S_op ?_; refine W_extract (by first | rfl | assumption) (by rfl) ?_; refine S_op ?_; refine W_extract (by first | rfl | assumption) (by rfl) ?_; refine S_op ?_; refine W_assignInt (by first | rfl | assumption) ?_; refine S_op ?_; refine W_assignBool (by first | rfl | assumption) ?_; refine S_nil ?_; refine CW_seq ?_; refine CW_seq ?_; refine CW_region rfl ?_; refine S_op ?_; refine W_moveBool (by first | rfl | assumption) ?_; refine S_op ?_; refine W_not (by first | rfl | assumption) ?_; refine S_nil ?_; refine CW_true (by first | rfl | assumption) ?_; refine CW_seq ?_; refine CW_region rfl ?_; refine S_op ?_; refine W_assignStr (by first | rfl | assumption) ?_; refine S_op ?_; refine W_assignBool (by first | rfl | assumption) ?_; refine S_nil ?_; refine CW_ret ?_)
    exact ⟨_, ResW_two (v1 := .string _) (v2 := .bool _) rfl rfl, H, hG, by rw [(lookV_no hf).1, (lookV_no hf).2]⟩
  | true =>
    have hq := findIs_lt hf
    obtain ⟨bb, off, hA, hrow⟩ := hl.some hq
    (refine S_op ?_; refine W_moveTup (by first | rfl | assumption) ?_; refine S_op ?_; refine W_extract (by first | rfl | assumption) (by rfl) ?_; refine S_op ?_; refine W_extract (by first | rfl | assumption) (by rfl) ?_; refine S_op ?_; refine W_assignInt (by first | rfl | assumption) ?_; refine S_op ?_; refine W_assignBool (by first | rfl | assumption) ?_; refine S_nil ?_; refine CW_seq ?_; refine CW_seq ?_; refine CW_region rfl ?_; refine S_op ?_; refine W_moveBool (by first | rfl | assumption) ?_; refine S_op ?_; refine W_not (by first | rfl | assumption) ?_; refine S_nil ?_; refine CW_false (by first | rfl | assumption) ?_; refine CW_skip ?_; refine CW_seq ?_; refine CW_region rfl ?_; refine S_op ?_; refine W_moveSl (by first | rfl | assumption) ?_; refine S_op ?_; refine W_moveInt (by first | rfl | assumption) ?_; refine S_op ?_; refine W_index (by first | rfl | assumption) (by first | rfl | assumption) (by first | assumption | omega | decide) (by first | rfl | assumption) ?_; refine S_op ?_; refine W_field (by first | rfl | assumption) ?_; refine S_op ?_; refine W_loadVal (by first | rfl | assumption) (by assumption) (by first | assumption | omega) (by assumption) ?_; refine S_op ?_; refine W_assignStr (by first | rfl | assumption) ?_; refine S_op ?_; refine W_assignBool (by first | rfl | assumption) ?_; refine S_nil ?_; refine CW_ret ?_)
    exact ⟨_, ResW_two (v1 := .string _) (v2 := .bool _) rfl rfl, H, hG, by rw [(lookV_yes hf).1, (lookV_yes hf).2]⟩
theorem rDel_c (H : HF) (A : Option Addr) (c : Nat) (l : List Ent) (key : ByteArray) (hl : EntsAt H A l) (hr : riseB l = true) (hb : l.length ≤ 1000000) :
    Fn Try.prog 56 [.slice A l.length c, .string key] H fun v H' => ∃ s, v = .tuple #[s, .bool (lookB l key)] ∧ IsEnts s (withoutL l key) H' := by
  refine Fn_of_CW Try.func56 rfl Try.ntmps56 Try.results56 rfl fun w hS => ?_; have hG := Grow.refl hS; have hS0 := hS
  (refine CW_seq ?_; refine CW_region rfl ?_; refine S_op ?_; refine W_assignSl (by first | rfl | assumption) ?_; refine S_op ?_; refine W_assignBool (by first | rfl | assumption) ?_; refine S_nil ?_; refine CW_seq ?_; refine CW_region rfl ?_; refine S_op ?_; refine W_moveSl (by first | rfl | assumption) ?_; refine S_op ?_; refine W_moveStr (by first | rfl | assumption) ?_)
  (refine S_op ?_; refine W_call hS (by rfl) (rWithout_c H A c l key hl hb) ?_); rintro v H w hG' ⟨s, rfl, hs⟩; replace hG := hG.trans hG'; replace hS := hG'.sub; clear hG'
  rw [rWithout_eq hr] at hs ⊢
  have e : decide ((withoutL l key).length < l.length) = lookB l key := by
    have h1 := without_is hr key
    have h2 : lookB l key = findIs l key := by unfold lookB; rw [← look_is]
    rw [h2]
    cases hfi : findIs l key with
    | true => rw [hfi, if_pos rfl] at h1; exact decide_eq_true (by omega)
    | false => rw [hfi, if_neg (by simp)] at h1; exact decide_eq_false (by omega)
  rw [e]
  obtain ⟨A2, c2, rfl, h2, h3⟩ := hs
  (refine S_op ?_; refine W_extract (by first | rfl | assumption) (by rfl) ?_; refine S_op ?_; refine W_extract (by first | rfl | assumption) (by rfl) ?_; refine S_op ?_; refine W_assignSl (by first | rfl | assumption) ?_; refine S_op ?_; refine W_assignBool (by first | rfl | assumption) ?_; refine S_nil ?_; refine CW_ret ?_)
  exact ⟨_, ResW_two (v1 := .slice _ _ _) (v2 := .bool _) rfl rfl, H, hG, _, rfl, A2, c2, rfl, h2, h3⟩
theorem rPut_c (H : HF) (A : Option Addr) (c : Nat) (l : List Ent) (e : Ent) (hl : EntsAt H A l) (hr : riseB l = true) (hb : l.length ≤ 1000000) :
    Fn Try.prog 57 [.slice A l.length c, .agg #[.string e.key, .string e.val]] H fun v H' => ∃ s, v = .tuple #[s, .int .i64 (putE e : Nat)] ∧ (putE e = 0 → IsEnts s (withL l e) H') ∧ (putE e ≠ 0 → s = .slice none 0 0) := by
  refine Fn_of_CW Try.func57 rfl Try.ntmps57 Try.results57 rfl fun w hS => ?_; have hG := Grow.refl hS; have hS0 := hS
  (refine CW_seq ?_; refine CW_region rfl ?_)
  (refine S_op (W_boxAgg hS (by rfl) ?_)); intro H w _ hG' hb; replace hG := hG.trans hG'; replace hS := hG'.sub; replace hl := hl.mono hG'.le; clear hG'
  (refine S_op ?_; refine W_assignSl (by first | rfl | assumption) ?_; refine S_op ?_; refine W_assignInt (by first | rfl | assumption) ?_; refine S_nil ?_; refine CW_seq ?_; refine CW_region rfl ?_; refine S_op ?_; refine W_field (by first | rfl | assumption) ?_; refine S_op ?_; refine W_loadH (by first | rfl | assumption) (by assumption) (by rfl) (by assumption) ?_)
  (refine S_op ?_; refine W_call hS (by rfl) (rKey_c H e.key) ?_); rintro v H w hG' rfl; replace hG := hG.trans hG'; replace hS := hG'.sub; replace hl := hl.mono hG'.le; replace hb := hG'.le _ _ hb; clear hG'
  by_cases h1 : rKey e.key = 0
  · (refine S_op ?_; refine W_assignInt (by first | rfl | assumption) ?_; refine S_nil ?_; refine CW_seq ?_; refine CW_seq ?_; refine CW_region rfl ?_; refine S_op ?_; refine W_moveInt (by first | rfl | assumption) ?_; refine S_op ?_; refine W_eqlT (by first | rfl | assumption) (by first | rfl | assumption) (by first | omega | rfl) ?_; refine S_nil ?_; refine CW_true (by first | rfl | assumption) ?_; refine CW_region rfl ?_; refine S_op ?_; refine W_field (by first | rfl | assumption) ?_; refine S_op ?_; refine W_loadH (by first | rfl | assumption) (by assumption) (by rfl) (by assumption) ?_)
    (refine S_op ?_; refine W_call hS (by rfl) (rValue_c H e.val) ?_); rintro v H w hG' rfl; replace hG := hG.trans hG'; replace hS := hG'.sub; replace hl := hl.mono hG'.le; replace hb := hG'.le _ _ hb; clear hG'
    by_cases h2 : rValue e.val = 0
    · (refine S_op ?_; refine W_assignInt (by first | rfl | assumption) ?_; refine S_nil ?_; refine CW_seq ?_; refine CW_seq ?_; refine CW_region rfl ?_; refine S_op ?_; refine W_moveInt (by first | rfl | assumption) ?_; refine S_op ?_; refine W_neqF (by first | rfl | assumption) (by first | rfl | assumption) (by first | omega | rfl) ?_; refine S_nil ?_; refine CW_false (by first | rfl | assumption) ?_; refine CW_skip ?_; refine CW_seq ?_; refine CW_region rfl ?_; refine S_op ?_; refine W_moveSl (by first | rfl | assumption) ?_; refine S_op ?_; refine W_loadWhole (by first | rfl | assumption) (by assumption) (by rfl) (by assumption) ?_)
      (refine S_op ?_; refine W_call hS (by rfl) (rWith_c H A c l e hl (by omega)) ?_); rintro v H w hG' hv; replace hG := hG.trans hG'; replace hS := hG'.sub; clear hG'
      rw [rWith_eq hr] at hv
      obtain ⟨A2, c2, rfl, h3, h4⟩ := hv
      (refine S_op ?_; refine W_assignSl (by first | rfl | assumption) ?_; refine S_op ?_; refine W_assignInt (by first | rfl | assumption) ?_; refine S_nil ?_; refine CW_ret ?_)
      exact ⟨_, ResW_two (v1 := .slice _ _ _) (v2 := .int _ _) rfl rfl, H, hG, _, by simp [putE, h1, h2], fun _ => ⟨A2, c2, rfl, h3, h4⟩, fun h => absurd (by simp [putE, h1, h2]) h⟩
    · (refine S_op ?_; refine W_assignInt (by first | rfl | assumption) ?_; refine S_nil ?_; refine CW_seq ?_; refine CW_seq ?_; refine CW_region rfl ?_; refine S_op ?_; refine W_moveInt (by first | rfl | assumption) ?_; refine S_op ?_; refine W_neqT (by first | rfl | assumption) (by first | rfl | assumption) (by first | omega | rfl) ?_; refine S_nil ?_; refine CW_true (by first | rfl | assumption) ?_; refine CW_seq ?_; refine CW_region rfl ?_; refine S_op ?_; refine W_moveInt (by first | rfl | assumption) ?_; refine S_op ?_; refine W_assignSl (by first | rfl | assumption) ?_; refine S_op ?_; refine W_assignInt (by first | rfl | assumption) ?_; refine S_nil ?_; refine CW_ret ?_)
      exact ⟨_, ResW_two (v1 := .slice _ _ _) (v2 := .int _ _) rfl rfl, H, hG, _, by simp [putE, h1], fun h => absurd h (by simp [putE, h1, h2]), fun _ => rfl⟩
  · (refine S_op ?_; refine W_assignInt (by first | rfl | assumption) ?_; refine S_nil ?_; refine CW_seq ?_; refine CW_seq ?_; refine CW_region rfl ?_; refine S_op ?_; refine W_moveInt (by first | rfl | assumption) ?_; refine S_op ?_; refine W_eqlF (by first | rfl | assumption) (by first | rfl | assumption) (by first | omega | rfl) ?_; refine S_nil ?_; refine CW_false (by first | rfl | assumption) ?_; refine CW_skip ?_; refine CW_seq ?_; refine CW_seq ?_; refine CW_region rfl ?_; refine S_op ?_; refine W_moveInt (by first | rfl | assumption) ?_; refine S_op ?_; refine W_neqT (by first | rfl | assumption) (by first | rfl | assumption) (by first | omega | rfl) ?_; refine S_nil ?_; refine CW_true (by first | rfl | assumption) ?_; refine CW_seq ?_; refine CW_region rfl ?_; refine S_op ?_; refine W_moveInt (by first | rfl | assumption) ?_; refine S_op ?_; refine W_assignSl (by first | rfl | assumption) ?_; refine S_op ?_; refine W_assignInt (by first | rfl | assumption) ?_; refine S_nil ?_; refine CW_ret ?_)
    exact ⟨_, ResW_two (v1 := .slice _ _ _) (v2 := .int _ _) rfl rfl, H, hG, _, by simp [putE, h1], fun h => absurd h (by simp [putE, h1]), fun _ => rfl⟩
/-! ### awake, few, built, after -/
theorem awake10_c (H : HF) : Fn Try.prog 31 [] H fun v _ => v = .bool true := by
  refine Fn_of_CW Try.func31 rfl Try.ntmps31 Try.results31 rfl fun w hS => ?_; have hG := Grow.refl hS; have hS0 := hS
  (refine CW_seq ?_; refine CW_region rfl ?_; refine S_op ?_; refine W_assignBool (by first | rfl | assumption) ?_; refine S_nil ?_; refine CW_seq ?_; refine CW_region rfl ?_; refine S_op ?_; refine W_build (by rfl) ?_)
  have e0 : putE ⟨⟨#[97]⟩, ⟨#[118]⟩⟩ = 0 := by decide
  (refine S_op ?_; refine W_call hS (by rfl) (tPut_c (t := none) ⟨⟨#[97]⟩, ⟨#[118]⟩⟩ (TreeAt.nil (H := H)) (by simp [Tr.items])) ?_); rintro v H w hG' ⟨t, rfl, _, ht⟩; replace hG := hG.trans hG'; replace hS := hG'.sub; clear hG'
  obtain ⟨ht, hp⟩ := ht e0
  have hit : t.items = [⟨⟨#[97]⟩, ⟨#[118]⟩⟩] := hp.items
  obtain ⟨hh, x, rfl, _⟩ := hp.fresh (by intro h; cases h)
  have hh0 : hh = 0 := by
    have := ht.height
    rw [hit] at this
    simp [Tr.height, trOf] at this
    exact this
  subst hh0
  have hx : NodeAt H 0 x := ht.at_
  rw [e0]
  (refine S_op ?_; refine W_moveTup (by first | rfl | assumption) ?_; refine S_op ?_; refine W_extract (by first | rfl | assumption) (by rfl) ?_; refine S_op ?_; refine W_extract (by first | rfl | assumption) (by rfl) ?_; refine S_op ?_; refine W_assignPtr (by first | rfl | assumption) ?_; refine S_op ?_; refine W_assignInt (by first | rfl | assumption) ?_; refine S_nil ?_; refine CW_seq ?_; refine CW_region rfl ?_; refine S_op ?_; refine W_movePtr (by first | rfl | assumption) ?_)
  have c1 := tGet_c (key := ⟨#[97]⟩) ht (by rw [hit]; simp)
  rw [hit] at c1
  have hfo := find_own (l := [⟨⟨#[97]⟩, ⟨#[118]⟩⟩]) rfl (i := 0) (by simp)
  have hq := lookV_yes (l := [⟨⟨#[97]⟩, ⟨#[118]⟩⟩]) (key := ⟨#[97]⟩) hfo.2
  rw [hq.1, hq.2, show findAt [⟨⟨#[97]⟩, ⟨#[118]⟩⟩] ⟨#[97]⟩ = 0 from hfo.1] at c1
  replace c1 : Fn Try.prog 36 [Tr.val (trOf x), .string ⟨#[97]⟩] H fun v _ => v = .tuple #[.string ⟨#[118]⟩, .bool true] := c1
  (refine S_op ?_; refine W_call hS (by rfl) (c1) ?_); rintro v H w hG' rfl; replace hG := hG.trans hG'; replace hS := hG'.sub; replace ht := ht.mono hG'.le; replace hx := hx.mono hG'.le; clear hG'
  clear c1
  (refine S_op ?_; refine W_moveTup (by first | rfl | assumption) ?_; refine S_op ?_; refine W_extract (by first | rfl | assumption) (by rfl) ?_; refine S_op ?_; refine W_extract (by first | rfl | assumption) (by rfl) ?_; refine S_op ?_; refine W_assignStr (by first | rfl | assumption) ?_; refine S_op ?_; refine W_assignBool (by first | rfl | assumption) ?_; refine S_nil ?_; refine CW_seq ?_; refine CW_region rfl ?_; refine S_op ?_; refine W_moveInt (by first | rfl | assumption) ?_; refine S_op ?_; refine W_eqlT (by first | rfl | assumption) (by first | rfl | assumption) (by first | omega | rfl) ?_; refine S_op ?_; refine W_moveBool (by first | rfl | assumption) ?_; refine S_want (by rfl) ?_; refine W_movePtr (by first | rfl | assumption) ?_)
  (refine S_want (by rfl) ?_; refine W_call hS (by rfl) (height_c hx) ?_); rintro v H w hG' rfl; replace hG := hG.trans hG'; replace hS := hG'.sub; replace ht := ht.mono hG'.le; replace hx := hx.mono hG'.le; clear hG'
  (refine S_want (by rfl) ?_; refine W_eqlT (by first | rfl | assumption) (by first | rfl | assumption) (by first | omega | rfl) ?_; refine S_op ?_; refine W_pickT (by first | rfl | assumption) (by first | rfl | assumption) ?_; refine S_op ?_; refine W_moveBool (by first | rfl | assumption) ?_; refine S_want (by rfl) ?_; refine W_moveStr (by first | rfl | assumption) ?_; refine S_want (by rfl) ?_; refine W_seqlT (by first | rfl | assumption) (by first | rfl | assumption) (by first | assumption | rfl) ?_; refine S_op ?_; refine W_pickT (by first | rfl | assumption) (by first | rfl | assumption) ?_; refine S_op ?_; refine W_moveBool (by first | rfl | assumption) ?_; refine S_want (by rfl) ?_; refine W_moveBool (by first | rfl | assumption) ?_; refine S_op ?_; refine W_pickT (by first | rfl | assumption) (by first | rfl | assumption) ?_; refine S_op ?_; refine W_moveBool (by first | rfl | assumption) ?_; refine S_want (by rfl) ?_; refine W_movePtr (by first | rfl | assumption) ?_)
  (refine S_want (by rfl) ?_; refine W_call hS (by rfl) (right_t ht.at_) ?_); rintro v H w hG' rfl; replace hG := hG.trans hG'; replace hS := hG'.sub; replace ht := ht.mono hG'.le; replace hx := hx.mono hG'.le; clear hG'
  rw [ht.full]
  (refine S_op ?_; refine W_pickT (by first | rfl | assumption) (by first | rfl | assumption) ?_; refine S_op ?_; refine W_assignBool (by first | rfl | assumption) ?_; refine S_nil ?_; refine CW_ret ?_)
  exact ⟨_, ResW_one (v := .bool _) rfl, H, hG, rfl⟩
end Go.Proofs.Ytlkbdgfipdeloaa
