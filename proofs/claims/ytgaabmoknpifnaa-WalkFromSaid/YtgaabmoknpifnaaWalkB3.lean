/- walk.Back and walk.BackFrom, walked. Conditions: none but the tree's. -/
import Derived.Test.YtgaabmoknpifnaaWalkB2
namespace Go.Proofs.Ytgaabmoknpifnaa
open Go.Proofs Go.RowKit
set_option linter.unusedVariables false
attribute [local irreducible] CW CWD SeqW OpW CallV
set_option maxHeartbeats 4000000
section
variable {xs : List Ent} {y kv : Value} {J Jx : Inv Ent} {kf : ByteArray → Bool}
theorem down_nil (hJ : Stable J) (hyc : y.cells = #[y]) (hkc : kv.cells = #[kv]) {H0 : HF} {w0 : World} {X0 : Nat → Prop} {pre : List Ent} (hS : Sub H0 w0) (hj : J X0 pre H0 w0) :
    CallW Try.prog 50 [.pointer none, kv, y].toArray w0 (Went xs J Jx X0 H0 w0 pre) := by
  refine CallW_of_CWD Try.func50 rfl Try.ntmps50 Try.results50 rfl ?_
  have hG := Grow.refl hS
  have hI0 := Its.start hS hj
  (refine CWD_seq ?_; refine CWD_region rfl ?_)
  (refine S_op (W_box1 hS (by rfl) (by first | rfl | assumption) ?_)); intro H w _ hG' h4; replace hG := hG.trans hG'; replace hS := hG'.sub; clear hG'
  skip
  (refine S_op (W_box1 hS (by rfl) (by first | rfl | assumption) ?_)); intro H w _ hG' h5; replace hG := hG.trans hG'; replace hS := hG'.sub; replace h4 := hG'.le _ _ h4; clear hG'
  skip
  (refine S_op (W_alloc hS ?_)); intro w c6b hG' c6h c6; replace c6h := Nat.le_trans hG.below.size (Nat.le_of_eq c6h); replace hG := hG.trans hG'; replace hS := hG'.sub; clear hG'
  (refine S_nil ?_; refine CWD_seq ?_; refine CWD_seq ?_; refine CWD_region rfl ?_; refine S_op ?_; refine W_movePtr (by first | rfl | assumption) ?_)
  (refine S_op ?_; refine W_call hS (by rfl) (ends_nil (H := H)) ?_); rintro v H w hG' rfl; replace hG := hG.trans hG'; replace hS := hG'.sub; replace h4 := hG'.le _ _ h4; replace h5 := hG'.le _ _ h5; replace c6 := c6.grow hG'; clear hG'
  (refine S_op ?_; refine W_moveTup (by first | rfl | assumption) ?_; refine S_op ?_; refine W_extract (by first | rfl | assumption) (by rfl) ?_; refine S_op ?_; refine W_extract (by first | rfl | assumption) (by rfl) ?_; refine S_op ?_; refine W_assignStr (by first | rfl | assumption) ?_; refine S_op ?_; refine W_assignStr (by first | rfl | assumption) ?_; refine S_nil ?_; refine CWD_seq ?_; refine CWD_region rfl ?_; refine S_op ?_; refine W_movePtr (by first | rfl | assumption) ?_; refine S_op ?_; refine W_peqnil (by first | rfl | assumption) (by first | rfl | assumption) ?_; refine S_op ?_; refine W_moveBool (by first | rfl | assumption) ?_; refine S_pass (by rfl) ?_; refine S_pass (by rfl) ?_; refine S_pass (by rfl) ?_; refine S_pass (by rfl) ?_; refine S_op ?_; refine W_pickT (by first | rfl | assumption) (by first | rfl | assumption) ?_; refine S_nil ?_; refine CWD_true (by first | rfl | assumption) ?_; refine CWD_seq ?_; refine CWD_region rfl ?_)
  (refine S_op0 (W_storeM (o := 0) (vs := [.bool true]) (by rfl) (by rfl) c6 (by rfl) (OneCells.of_all (by rfl)) (by rfl) (Nat.le_of_ble_eq_true (by rfl)) ?_)); intro w hgb' hm'; replace hG := hG.grownBy hgb' (fun g h => by cases h; exact ⟨c6.out, c6h⟩); replace hS := hG.sub; replace c6 : Mut _ w c6b ([.bool true]) := hm'; clear hm'; clear hgb'
  (refine S_nil ?_; refine CWD_ret ?_)
  exact FinD_nil ⟨_, ResW_v1 (RV_cell1 rfl c6), .inl ⟨rfl, _, _, hI0.step hJ hG⟩⟩
theorem down_c (hJ : Stable J) (hJx : Stable Jx) (hy : Yields Try.prog y encP xs J Jx) (hyc : y.cells = #[y]) (hkc : kv.cells = #[kv]) (hkd : ∀ a b, slt b a = false → kf b = true → kf a = true) (h : Nat) :
    ∀ (H0 : HF) (w0 : World) (x : Nd h) (X0 : Nat → Prop) (pre rest : List Ent), NodeAt H0 h x → (∀ k, X0 k → k < w0.heap.size) → KeepV kv kf H0 → Sub H0 w0 → xs = pre ++ downL kf (Nd.items h x) ++ rest → J X0 pre H0 w0 →
    CallW Try.prog 50 [x.ptr, kv, y].toArray w0 (Went xs J Jx X0 H0 w0 (pre ++ downL kf (Nd.items h x))) := by
  induction h with
  | zero =>
    intro H0 w0 x X0 pre rest hx hX0 hkv hS hxs hj
    have hxl : x.ents.length ≤ 4 := by have := hx.ok; simp only [Nd.Ok, leafB, Bool.and_eq_true, decide_eq_true_eq] at this; omega
    have e : Nd.items 0 x = x.ents ++ ([] : List (List Ent)).flatten := by simp [Nd.items]
    rw [e] at hxs ⊢
    refine down_node (vs := []) (K := []) hJ hJx hy hyc hkc hX0 hkv (by simp) (by omega) (by simp) rfl (.inr rfl) (fun H1 hle => ends_c (hx.mono hle)) (fun H1 hle => entries_c (hx.mono hle))
      (fun H1 hle => (kids_leaf (hx.mono hle)).mono fun v H' _ hv => ⟨none, 0, hv, Nat.le_refl _, .inl rfl, rfl⟩) ?_ (fun i hi => absurd hi (by simp)) hS hxs hj
    intro hl e he
    cases hk : kf e.key with
    | false => rfl
    | true =>
      have h1 : e ∈ Nd.items 0 x := by simpa [Nd.items] using he
      rw [hkd x.lo e.key (Nd.lo_le hx.ok h1) hk] at hl; cases hl
  | succ h ih =>
    intro H0 w0 x X0 pre rest hx hX0 hkv hS hxs hj
    have hxl := hx.ok.2.1
    have e : Nd.items (h + 1) x = [] ++ (x.kids.map (Nd.items h)).flatten := by simp [Nd.items, List.flatMap]
    have e2 := e
    rw [e] at hxs ⊢
    refine down_node (es := []) (vs := x.kids.map Nd.ptr) (K := x.kids.map (Nd.items h)) hJ hJx hy hyc hkc hX0 hkv (by simp) (by simp) (by simp; omega) (by simp) (.inl rfl) (fun H1 hle => ends_c (hx.mono hle)) (fun H1 hle => entries_c (hx.mono hle))
      (fun H1 hle => (kids_c (hx.mono hle)).mono fun v H' _ hv => by simpa using hv) ?_ ?_ hS hxs hj
    · intro hl e he
      cases hk : kf e.key with
      | false => rfl
      | true =>
        have h1 : e ∈ Nd.items (h + 1) x := by rw [e2]; exact he
        rw [hkd x.lo e.key (Nd.lo_le hx.ok h1) hk] at hl; cases hl
    · intro i hi H1 w1 X pre' rest' hle hX hS1 hxs1 hj1
      have hi2 : i < x.kids.length := by simpa using hi
      have h1 : (x.kids.map Nd.ptr).getD i (.pointer none) = x.kids[i].ptr := by simp [hi2]
      have h2 : (x.kids.map (Nd.items h)).getD i [] = Nd.items h x.kids[i] := by simp [hi2]
      rw [h2] at hxs1 ⊢
      rw [h1]
      exact ih H1 w1 x.kids[i] X pre' rest' ((hx.kids x.kids[i] (List.getElem_mem _)).mono hle) hX (hkv.mono hle) hS1 hxs1 hj1
theorem down_t (hJ : Stable J) (hJx : Stable Jx) (hy : Yields Try.prog y encP xs J Jx) (hyc : y.cells = #[y]) (hkc : kv.cells = #[kv]) (hkd : ∀ a b, slt b a = false → kf b = true → kf a = true) {H0 : HF} {w0 : World} {t : Tr} {X0 : Nat → Prop} (ht : Tr.At H0 t)
    (hX0 : ∀ k, X0 k → k < w0.heap.size) (hkv : KeepV kv kf H0) (hS : Sub H0 w0) (hxs : xs = downL kf t.items) (hj : J X0 [] H0 w0) :
    CallW Try.prog 50 [t.val, kv, y].toArray w0 (Went xs J Jx X0 H0 w0 xs) := by
  cases t with
  | none =>
    have : xs = [] := by rw [hxs]; simp [downL, Tr.items]
    subst this
    exact down_nil hJ hyc hkc hS hj
  | some x =>
    subst hxs
    exact down_c (xs := downL kf (Nd.items x.1 x.2)) hJ hJx hy hyc hkc hkd x.1 H0 w0 x.2 X0 [] [] ht hX0 hkv hS (by simp) hj
end
theorem keepAll_c (H : HF) (s : ByteArray) : Fn Try.prog 54 [.string s] H fun v _ => v = .bool true := by
  refine Fn_of_CW Try.func54 rfl Try.ntmps54 Try.results54 rfl fun w hS => ?_; have hG := Grow.refl hS; have hS0 := hS
  (refine CW_seq ?_; refine CW_region rfl ?_; refine S_op ?_; refine W_assignBool (by first | rfl | assumption) ?_; refine S_nil ?_; refine CW_seq ?_; refine CW_region rfl ?_; refine S_op ?_; refine W_assignBool (by first | rfl | assumption) ?_; refine S_nil ?_; refine CW_ret ?_)
  exact ⟨_, ResW_one (v := .bool _) rfl, H, hG, rfl⟩
theorem sle_eq (s k : ByteArray) : (slt s k || decide (s = k)) = !slt k s := by
  cases h1 : slt k s with
  | true =>
    have h2 := slt_asymm h1
    have h3 := slt_ne h1
    simp [h2, Ne.symm h3]
  | false =>
    cases h2 : slt s k with
    | true => simp
    | false => simp [slt_total h2 h1]
theorem keepTo_c (H : HF) (s k : ByteArray) (b : Nat) (T : TypeId) (hb : H b = some (.cells #[.string k] T (0, 0))) : Fn Try.prog 51 [.string s, .pointer (some ⟨b, 0, none⟩)] H fun v _ => v = .bool (!slt k s) := by
  refine Fn_of_CW Try.func51 rfl Try.ntmps51 Try.results51 rfl fun w hS => ?_; have hG := Grow.refl hS; have hS0 := hS
  (refine CW_seq ?_; refine CW_region rfl ?_; refine S_op ?_; refine W_assignBool (by first | rfl | assumption) ?_; refine S_nil ?_; refine CW_seq ?_; refine CW_region rfl ?_; refine S_op ?_; refine W_moveStr (by first | rfl | assumption) ?_; refine S_op ?_; refine W_loadHL (by first | rfl | assumption) (by assumption) (by rfl) (by assumption) ?_; refine S_op ?_; refine W_sleq (by first | rfl | assumption) (by first | rfl | assumption) ?_; refine S_op ?_; refine W_assignBool (by first | rfl | assumption) ?_; refine S_nil ?_; refine CW_ret ?_)
  exact ⟨_, ResW_one (v := .bool _) rfl, H, hG, by rw [sle_eq]⟩
theorem keepAll_v (H : HF) : KeepV (.func (.func 54) #[] #[]) (fun _ => true) H := fun H1 w1 s _ hS => CallV_func (keepAll_c H1 s w1 hS)
theorem keepTo_v {H : HF} {k : ByteArray} {b : Nat} {T : TypeId} (hb : H b = some (.cells #[.string k] T (0, 0))) : KeepV (.func (.func 51) #[] #[.pointer (some ⟨b, 0, none⟩)]) (fun s => !slt k s) H :=
  fun H1 w1 s hle hS => CallV_func (keepTo_c H1 s k b T (hle _ _ hb) w1 hS)
def toL (k : ByteArray) (l : List Ent) : List Ent := downL (fun s => !slt k s) l
theorem downAll (l : List Ent) : downL (fun _ => true) l = l.reverse := by simp [downL]
theorem back1_it {H : HF} {w : World} {t : Tr} {a : Nat} {T : TypeId} (ht : Tr.At H t) (ha : H a = some (.cells #[t.val] T (0, 0))) :
    IterAt Try.prog 53 [.pointer (some ⟨a, 0, none⟩)] encP t.items.reverse (fun _ => False) H w := by
  intro y J Jx X0 hyc _ hX0 hJ hJx hy hS hj
  refine CallW_of_CW Try.func53 rfl Try.ntmps53 Try.results53 rfl ?_
  have hG := Grow.refl hS
  (refine CW_region rfl ?_; refine S_op ?_; refine W_loadHL (by first | rfl | assumption) (by assumption) (by rfl) (by assumption) ?_; refine S_op ?_; refine W_move rfl ?_)
  refine S_op ?_
  refine W_callW (vs := [t.val, .func (.func 54) #[] #[], y]) (by rfl) ((down_t (kf := fun _ => true) hJ hJx hy hyc rfl (fun _ _ _ _ => rfl) ht hX0 (keepAll_v H) hS (downAll _).symm hj).mono ?_)
  rintro v w' hw
  (refine S_nil ?_)
  exact ⟨_, ResW_zero, Went.end hw⟩
theorem backFrom1_it {H : HF} {w : World} {t : Tr} {k : ByteArray} {a b : Nat} {T U : TypeId} (ht : Tr.At H t) (ha : H a = some (.cells #[t.val] T (0, 0))) (hb : H b = some (.cells #[.string k] U (0, 0))) :
    IterAt Try.prog 49 [.pointer (some ⟨a, 0, none⟩), .pointer (some ⟨b, 0, none⟩)] encP (toL k t.items) (fun _ => False) H w := by
  intro y J Jx X0 hyc _ hX0 hJ hJx hy hS hj
  refine CallW_of_CW Try.func49 rfl Try.ntmps49 Try.results49 rfl ?_
  have hG := Grow.refl hS
  (refine CW_region rfl ?_; refine S_op ?_; refine W_loadHL (by first | rfl | assumption) (by assumption) (by rfl) (by assumption) ?_)
  refine S_op (W_makeFunc rfl rfl ?_)
  (refine S_op ?_; refine W_move rfl ?_)
  refine S_op ?_
  refine W_callW (vs := [t.val, .func (.func 51) #[] #[.pointer (some ⟨b, 0, none⟩)], y]) (by rfl) ((down_t hJ hJx hy hyc rfl ?_ ht hX0 (keepTo_v hb) hS rfl hj).mono ?_)
  · intro a b hab hkb
    cases hka : slt k a with
    | false => rfl
    | true =>
      simp only [Bool.not_eq_true'] at hkb
      have := slt_of_le_of_lt hkb hka
      rw [hab] at this; cases this
  · rintro v w' hw
    (refine S_nil ?_)
    exact ⟨_, ResW_zero, Went.end hw⟩
theorem back_c (H : HF) (t : Tr) (ht : Tr.At H t) : Fn Try.prog 27 [t.val] H fun v H' => IterV Try.prog encP t.items.reverse v H' := by
  have hc := Tr.val_cells t
  refine Fn_of_CW Try.func27 rfl Try.ntmps27 Try.results27 rfl fun w hS => ?_; have hG := Grow.refl hS; have hS0 := hS
  (refine CW_seq ?_; refine CW_region rfl ?_)
  (refine S_op (W_box1 hS (by rfl) (by first | rfl | assumption) ?_)); intro H w _ hG' h1; replace hG := hG.trans hG'; replace hS := hG'.sub; replace ht := ht.mono hG'.le; clear hG'
  (refine S_op ?_; refine W_assign rfl ?_; refine S_nil ?_; refine CW_seq ?_; refine CW_region rfl ?_)
  refine S_op (W_makeFunc rfl rfl ?_)
  (refine S_op ?_; refine W_assignFun (by first | rfl | assumption) ?_; refine S_nil ?_; refine CW_ret ?_)
  exact ⟨_, ResW_one (v := .func _ _ _) rfl, H, hG, _, _, inferInstance, rfl, fun H1 w1 hle => back1_it (ht.mono hle) (hle _ _ h1)⟩
theorem backFrom_c (H : HF) (t : Tr) (k : ByteArray) (ht : Tr.At H t) : Fn Try.prog 22 [t.val, .string k] H fun v H' => IterV Try.prog encP (toL k t.items) v H' := by
  have hc := Tr.val_cells t
  refine Fn_of_CW Try.func22 rfl Try.ntmps22 Try.results22 rfl fun w hS => ?_; have hG := Grow.refl hS; have hS0 := hS
  (refine CW_seq ?_; refine CW_region rfl ?_)
  (refine S_op (W_box1 hS (by rfl) (by first | rfl | assumption) ?_)); intro H w _ hG' h2; replace hG := hG.trans hG'; replace hS := hG'.sub; replace ht := ht.mono hG'.le; clear hG'
  skip
  (refine S_op (W_box1 hS (by rfl) (by first | rfl | assumption) ?_)); intro H w _ hG' h3; replace hG := hG.trans hG'; replace hS := hG'.sub; replace ht := ht.mono hG'.le; replace h2 := hG'.le _ _ h2; clear hG'
  (refine S_op ?_; refine W_assign rfl ?_; refine S_nil ?_; refine CW_seq ?_; refine CW_region rfl ?_)
  refine S_op (W_makeFunc rfl rfl ?_)
  (refine S_op ?_; refine W_assignFun (by first | rfl | assumption) ?_; refine S_nil ?_; refine CW_ret ?_)
  exact ⟨_, ResW_one (v := .func _ _ _) rfl, H, hG, _, _, inferInstance, rfl, fun H1 w1 hle => backFrom1_it (ht.mono hle) (hle _ _ h2) (hle _ _ h3)⟩
end Go.Proofs.Ytgaabmoknpifnaa
