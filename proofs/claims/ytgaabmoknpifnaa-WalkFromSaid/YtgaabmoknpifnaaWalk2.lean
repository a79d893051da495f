/- The iterators of package walk, walked. Conditions: none but the tree's. -/
import Derived.Test.YtgaabmoknpifnaaWalk1
namespace Go.Proofs.Ytgaabmoknpifnaa
open Go.Proofs Go.RowKit
set_option linter.unusedVariables false
attribute [local irreducible] CW CWD SeqW OpW CallV
set_option maxHeartbeats 4000000
theorem slt_nil (a : ByteArray) : slt a ⟨#[]⟩ = false := by simp [slt, Op.bytesLess]
theorem Tr.val_cells (t : Tr) : t.val.cells = #[t.val] := by cases t <;> rfl
section
variable {xs : List Ent} {y : Value} {J Jx : Inv Ent} {key : ByteArray}
theorem up_t (hJ : Stable J) (hy : Yields Try.prog y encP xs J Jx) {H0 : HF} {w0 : World} {t : Tr} {X0 : Nat → Prop} {pre rest : List Ent} (ht : Tr.At H0 t) (hS : Sub H0 w0) (hxs : xs = pre ++ fromL key t.items ++ rest) (hj : J X0 pre H0 w0) :
    CallW Try.prog 48 [t.val, .string key, y].toArray w0 (Went xs J Jx X0 H0 w0 (pre ++ fromL key t.items)) := by
  cases t with
  | none =>
    rw [show pre ++ fromL key (Tr.items none) = pre by simp [Tr.items, fromL]]
    exact up_nil hJ hS hj
  | some x => exact up_c hJ hy x.1 H0 w0 x.2 X0 pre rest ht hS hxs hj
end
theorem from1_it {H : HF} {w : World} {t : Tr} {key : ByteArray} {a b : Nat} {T U : TypeId} (ht : Tr.At H t) (ha : H a = some (.cells #[t.val] T (0, 0))) (hb : H b = some (.cells #[.string key] U (0, 0))) :
    IterAt Try.prog 47 [.pointer (some ⟨a, 0, none⟩), .pointer (some ⟨b, 0, none⟩)] encP (fromL key t.items) (fun _ => False) H w := by
  intro y J Jx X hyc _ hXb hJ hJx hy hS hj
  refine CallW_of_CW Try.func47 rfl Try.ntmps47 Try.results47 rfl ?_
  have hG := Grow.refl hS
  (refine CW_region rfl ?_; refine S_op ?_; refine W_loadHL (by first | rfl | assumption) (by assumption) (by rfl) (by assumption) ?_; refine S_op ?_; refine W_loadHL (by first | rfl | assumption) (by assumption) (by rfl) (by assumption) ?_; refine S_op ?_; refine W_move rfl ?_)
  refine S_op ?_
  refine W_callW (vs := [t.val, .string key, y]) (by rfl) ((up_t hJ hy (rest := []) ht hS (by simp) hj).mono ?_)
  rintro v w' hw
  (refine S_nil ?_)
  exact ⟨_, ResW_zero, Went.end hw⟩
theorem from_c (H : HF) (t : Tr) (key : ByteArray) (ht : Tr.At H t) : Fn Try.prog 21 [t.val, .string key] H fun v H' => IterV Try.prog encP (fromL key t.items) v H' := by
  have hc := Tr.val_cells t
  refine Fn_of_CW Try.func21 rfl Try.ntmps21 Try.results21 rfl fun w hS => ?_; have hG := Grow.refl hS; have hS0 := hS
  (refine CW_seq ?_; refine CW_region rfl ?_)
  (refine S_op (W_box1 hS (by rfl) (by first | rfl | assumption) ?_)); intro H w _ hG' h2; replace hG := hG.trans hG'; replace hS := hG'.sub; replace ht := ht.mono hG'.le; clear hG'
  skip
  (refine S_op (W_box1 hS (by rfl) (by first | rfl | assumption) ?_)); intro H w _ hG' h3; replace hG := hG.trans hG'; replace hS := hG'.sub; replace ht := ht.mono hG'.le; replace h2 := hG'.le _ _ h2; clear hG'
  (refine S_op ?_; refine W_assign rfl ?_; refine S_nil ?_; refine CW_seq ?_; refine CW_region rfl ?_)
  refine S_op (W_makeFunc rfl rfl ?_)
  (refine S_op ?_; refine W_assignFun (by first | rfl | assumption) ?_; refine S_nil ?_; refine CW_ret ?_)
  exact ⟨_, ResW_one (v := .func _ _ _) rfl, H, hG, _, _, inferInstance, rfl, fun H1 w1 hle => from1_it (ht.mono hle) (hle _ _ h2) (hle _ _ h3)⟩
theorem all_c (H : HF) (t : Tr) (ht : Tr.At H t) : Fn Try.prog 26 [t.val] H fun v H' => IterV Try.prog encP t.items v H' := by
  have e : fromL ⟨#[]⟩ t.items = t.items := by
    simp only [fromL, List.filter_eq_self]
    intro x _
    simp [slt, Op.bytesLess]
  refine Fn_of_CW Try.func26 rfl Try.ntmps26 Try.results26 rfl fun w hS => ?_; have hG := Grow.refl hS; have hS0 := hS
  (refine CW_seq ?_; refine CW_region rfl ?_; refine S_op ?_; refine W_assign rfl ?_; refine S_nil ?_; refine CW_seq ?_; refine CW_region rfl ?_; refine S_op ?_; refine W_movePtr (by first | rfl | assumption) ?_)
  (refine S_op ?_; refine W_call hS (by rfl) (from_c H t ⟨#[]⟩ ht) ?_); rintro v H w hG' hv; replace hG := hG.trans hG'; replace hS := hG'.sub; replace ht := ht.mono hG'.le; clear hG'
  rw [e] at hv
  obtain ⟨gf, lb, h1, rfl, h3⟩ := hv
  (refine S_op ?_; refine W_assignFun (by first | rfl | assumption) ?_; refine S_nil ?_; refine CW_ret ?_)
  exact ⟨_, ResW_one (v := .func _ _ _) rfl, H, hG, gf, lb, h1, rfl, h3⟩
def enc1 (e : Ent) : List Value := [.agg #[.string e.key, .string e.val]]
theorem entries1_it {H : HF} {w : World} {t : Tr} {key : ByteArray} {a b : Nat} {T U : TypeId} (ht : Tr.At H t) (ha : H a = some (.cells #[t.val] T (0, 0))) (hb : H b = some (.cells #[.string key] U (0, 0))) :
    IterAt Try.prog 63 [.pointer (some ⟨a, 0, none⟩), .pointer (some ⟨b, 0, none⟩)] enc1 (fromL key t.items) (fun _ => False) H w := by
  intro y J Jx X0 hyc _ hX0 hJ hJx hy hS hj
  obtain ⟨H0, rfl⟩ : ∃ H0, H0 = H := ⟨_, rfl⟩
  obtain ⟨w0, rfl⟩ : ∃ w0, w0 = w := ⟨_, rfl⟩
  refine CallW_of_CWD Try.func63 rfl Try.ntmps63 Try.results63 rfl ?_
  have hG := Grow.refl hS
  have hI0 := Its.start hS hj
  have hc := Tr.val_cells t
  (refine CWD_seq ?_; refine CWD_region rfl ?_)
  (refine S_op (W_box1 hS (by rfl) (by first | rfl | assumption) ?_)); intro H w _ hG' h3; replace hG := hG.trans hG'; replace hS := hG'.sub; replace ht := ht.mono hG'.le; replace ha := hG'.le _ _ ha; replace hb := hG'.le _ _ hb; clear hG'
  (refine S_nil ?_; refine CWD_seq ?_; refine CWD_region rfl ?_; refine S_op ?_; refine W_loadHL (by first | rfl | assumption) (by assumption) (by rfl) (by assumption) ?_; refine S_op ?_; refine W_loadHL (by first | rfl | assumption) (by assumption) (by rfl) (by assumption) ?_)
  (refine S_op ?_; refine W_call hS (by rfl) (from_c _ t key ht) ?_); rintro v H w hG' hv; replace hG := hG.trans hG'; replace hS := hG'.sub; replace ht := ht.mono hG'.le; replace h3 := hG'.le _ _ h3; clear hG'
  obtain ⟨gf, lb, hfc, rfl, hit⟩ := hv
  (refine S_nil ?_; refine CWD_block ?_)
  have hI := hI0.step hJ hG
  refine CWD_range (S := fun _ => False) (Inn J X0 H0 w0 [] id (fun _ H2 _ => HLe H H2)) (retI (InnX (fromL key t.items) Jx X0 H0 w0 [] (fun _ _ => True)))
    (Inn.good hJ hX0 fun _ _ _ _ _ _ _ hT h => h.trans hT.le) (retI.stable (InnX.stable hJx hX0 fun _ _ _ _ _ _ _ _ h => h)) ⟨_, hI, fun _ h => h.elim, fun _ h => by (simp at h), HLe.refl _⟩
    rfl hS (fun _ => rfl) (by decide) (fun w1 _ => hit H w1 (HLe.refl _)) (fun _ h => h.elim) ?_ ?_ ?_ ?_
  · intro l x W
    (refine CW_seq ?_; refine CW_region rfl ?_; refine S_op ?_; refine W_assignStr (by first | rfl | assumption) ?_; refine S_nil ?_; refine CW_region rfl ?_; refine S_op ?_; refine W_assignStr (by first | rfl | assumption) ?_; refine S_nil ?_)
    refine ⟨rfl, ?_⟩
    intro l X pre rest H W hx hS hi _
    obtain ⟨X1, hI, hXi, hbs, hle⟩ := hi
    replace h3 := hle _ _ h3
    have hL := Its.start hS hI.has
    have hG := Grow.refl hS
    (refine CW_block ?_; refine CW_seq ?_; refine CW_region rfl ?_; refine S_op ?_; refine W_loadHL (by first | rfl | assumption) (by assumption) (by rfl) (by assumption) ?_; refine S_op ?_; refine W_moveStr (by first | rfl | assumption) ?_; refine S_op ?_; refine W_moveStr (by first | rfl | assumption) ?_; refine S_op ?_; refine W_build (by rfl) ?_)
    have hL1 := hL.step hJ hG
    refine S_op ?_
    refine W_callVal (by rfl) (by rfl) ((hy.at (x := x) (r := rest) hx (Its.start hS hL1.has)).mono ?_)
    rintro v w' (⟨rfl, X2, H3, hK⟩ | ⟨rfl, X2, H3, p, r, he, hK⟩)
    · (refine S_op ?_; refine W_not (by first | rfl | assumption) ?_; refine S_nil ?_; refine CW_false (by first | rfl | assumption) ?_; refine CW_skip ?_)
      exact Inn.next (g := id) hI hXi hbs (hL1.trans hK) (hle.trans (hL1.trans hK).le)
    · (refine S_op ?_; refine W_not (by first | rfl | assumption) ?_; refine S_nil ?_; refine CW_true (by first | rfl | assumption) ?_; refine CW_ret ?_)
      exact Inn.stop (φx := fun _ _ => True) (pre' := pre ++ [x]) hI hXi hbs he (hL1.trans hK) trivial
  · rintro D X H' W' hD hM hS' hle hXs hXD ⟨X1, hI, hXi, _, _⟩
    skip
    refine FinD_one hM hS' fun w' hT => ?_
    exact ⟨_, ResW_zero, Went.end (v := .bool true) (.inl ⟨rfl, _, _, hI.closed hX0 hJ (hXi D hXD).1 (hXi D hXD).2 hT⟩)⟩
  · rintro D X H' W' pre rest hx hD hM hS' hle hXs hXD ⟨X1, p, r, he, hI, hXi, _, _⟩
    skip
    refine FinD_one hM hS' fun w' hT => ?_
    exact ⟨_, ResW_zero, Went.end (v := .bool false) (.inr ⟨rfl, _, _, p, r, he, hI.closed hX0 hJx (hXi D hXD).1 (hXi D hXD).2 hT⟩)⟩
  · exact fun _ _ _ _ _ _ _ _ _ _ _ _ _ _ h => False.elim h
theorem entriesI_c (H : HF) (t : Tr) (key : ByteArray) (ht : Tr.At H t) : Fn Try.prog 46 [t.val, .string key] H fun v H' => IterV Try.prog enc1 (fromL key t.items) v H' := by
  have hc := Tr.val_cells t
  refine Fn_of_CW Try.func46 rfl Try.ntmps46 Try.results46 rfl fun w hS => ?_; have hG := Grow.refl hS; have hS0 := hS
  (refine CW_seq ?_; refine CW_region rfl ?_)
  (refine S_op (W_box1 hS (by rfl) (by first | rfl | assumption) ?_)); intro H w _ hG' h2; replace hG := hG.trans hG'; replace hS := hG'.sub; replace ht := ht.mono hG'.le; clear hG'
  skip
  (refine S_op (W_box1 hS (by rfl) (by first | rfl | assumption) ?_)); intro H w _ hG' h3; replace hG := hG.trans hG'; replace hS := hG'.sub; replace ht := ht.mono hG'.le; replace h2 := hG'.le _ _ h2; clear hG'
  (refine S_op ?_; refine W_assign rfl ?_; refine S_nil ?_; refine CW_seq ?_; refine CW_region rfl ?_)
  refine S_op (W_makeFunc rfl rfl ?_)
  (refine S_op ?_; refine W_assignFun (by first | rfl | assumption) ?_; refine S_nil ?_; refine CW_ret ?_)
  exact ⟨_, ResW_one (v := .func _ _ _) rfl, H, hG, _, _, inferInstance, rfl, fun H1 w1 hle => entries1_it (ht.mono hle) (hle _ _ h2) (hle _ _ h3)⟩
end Go.Proofs.Ytgaabmoknpifnaa
