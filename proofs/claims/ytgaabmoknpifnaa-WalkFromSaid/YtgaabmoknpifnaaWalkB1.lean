/- slices.Backward, walked. Conditions: sizes. -/
import Derived.Test.YtgaabmoknpifnaaWalk2
namespace Go.Proofs.Ytgaabmoknpifnaa
open Go.Proofs Go.RowKit
set_option linter.unusedVariables false
attribute [local irreducible] CW CWD SeqW OpW CallV
set_option maxHeartbeats 4000000
/-- The numbers below n, from above. -/
def downN (n : Nat) : List Nat := (List.range n).reverse
def downTo (n i : Nat) : List Nat := ((List.range n).drop i).reverse
theorem downTo_step {n i : Nat} (h : i < n) : downTo n i = downTo n (i + 1) ++ [i] := by
  unfold downTo
  rw [List.drop_eq_getElem_cons (by simpa using h)]
  simp
theorem downTo_top (n : Nat) : downTo n n = [] := by simp [downTo]
theorem downTo_zero (n : Nat) : downTo n 0 = downN n := rfl
theorem downN_split {n i : Nat} (h : i < n) : downN n = downTo n (i + 1) ++ i :: downN i := by
  have e : List.range n = List.range i ++ i :: (List.range n).drop (i + 1) := by
    have h1 := List.take_append_drop i (List.range n)
    rw [List.drop_eq_getElem_cons (by simpa using h), List.take_range] at h1
    rw [Nat.min_eq_left (by omega)] at h1
    simpa using h1.symm
  unfold downN downTo
  conv => lhs; rw [e]
  simp
def encBE (l : List Ent) (i : Nat) : List Value := [.int .i64 (i : Int), .agg #[.string (ent l i).key, .string (ent l i).val]]
def encBV (vs : List Value) (i : Nat) : List Value := [.int .i64 (i : Int), vs.getD i (.pointer none)]
theorem back1E_it {H : HF} {w : World} {l : List Ent} {A : Option Addr} {n c a : Nat} {T : TypeId} (hn : n = l.length) (hb : n ≤ 1000000) (hl : EntsAt H A l) (ha : H a = some (.cells #[.slice A n c] T (0, 0))) :
    IterAt Try.prog 85 [.pointer (some ⟨a, 0, none⟩)] (encBE l) (downN n) (fun _ => False) H w := by
  skip
  intro y J Jx X0 hyc _ hX0 hJ hJx hy hS hj
  obtain ⟨H0, rfl⟩ : ∃ H0, H0 = H := ⟨_, rfl⟩
  obtain ⟨w0, rfl⟩ : ∃ w0, w0 = w := ⟨_, rfl⟩
  refine CallW_of_CW Try.func85 rfl Try.ntmps85 Try.results85 rfl ?_
  have hG := Grow.refl hS
  have hI := Its.start hS hj
  (refine CW_seq ?_; refine CW_region rfl ?_; refine S_op ?_; refine W_loadHL (by first | rfl | assumption) (by assumption) (by rfl) (by assumption) ?_; refine S_op ?_; refine W_len (by first | rfl | assumption) ?_)
  refine S_op (W_sub (q := (n : Int) - 1) (by rfl) (by rfl) (IntWalk.i64_in _ (by omega)) ?_)
  (refine S_op ?_; refine W_assignInt (by first | rfl | assumption) ?_; refine S_nil ?_; refine CW_block ?_)
  refine CW_loopM [3, 7, 8, 9, 10, 11, 12, 13, 14, 15, 16, 17, 18] (fun m u w2 => ∃ (i : Nat) (X : Nat → Prop) (H2 : HF), u 3 = .int .i64 ((i : Int) - 1) ∧ i ≤ n ∧ i ≤ m ∧ HLe H0 H2 ∧ Its J X0 H0 w0 X (downTo n i) H2 w2)
    (m := n) ⟨n, X0, H0, rfl, Nat.le_refl _, Nat.le_refl _, HLe.refl _, by rw [downTo_top]; exact hI⟩ ?_
  clear hI hG hS hj
  rintro m u w ⟨i, X, H, h3, hi, hm, hle, hI⟩
  have hS := hI.sub
  have hG := Grow.refl hS
  replace ha := hle _ _ ha
  replace hl := hl.mono hle
  cases i with
  | zero =>
    replace h3 : u 3 = .int .i64 (-1) := h3
    (refine CW_seq ?_; refine CW_seq ?_; refine CW_region rfl ?_; refine S_op ?_; refine W_moveInt (by first | rfl | assumption) ?_; refine S_op ?_; refine W_geqF (by first | rfl | assumption) (by first | rfl | assumption) (by first | omega | rfl) ?_; refine S_nil ?_; refine CW_false (by first | rfl | assumption) ?_; refine CW_exit ?_; refine xblk_hit ?_)
    exact ⟨_, ResW_zero, Went.end (v := .bool true) (.inl ⟨rfl, X, H, hI⟩)⟩
  | succ i =>
    replace h3 : u 3 = .int .i64 (i : Int) := by rw [h3]; congr 1; omega
    have hlt : i < n := by omega
    obtain ⟨bb, off, hA, hrow⟩ := hl.some (show i < l.length by omega)
    have hlt2 : i < l.length := by omega
    (refine CW_seq ?_; refine CW_seq ?_; refine CW_region rfl ?_; refine S_op ?_; refine W_moveInt (by first | rfl | assumption) ?_; refine S_op ?_; refine W_geqT (by first | rfl | assumption) (by first | rfl | assumption) (by first | omega | rfl) ?_; refine S_nil ?_; refine CW_true (by first | rfl | assumption) ?_; refine CW_skip ?_; refine CW_seq ?_; refine CW_block ?_; refine CW_seq ?_; refine CW_region rfl ?_; refine S_op ?_; refine W_move rfl ?_; refine S_op ?_; refine W_moveInt (by first | rfl | assumption) ?_; refine S_op ?_; refine W_loadHL (by first | rfl | assumption) (by assumption) (by rfl) (by assumption) ?_; refine S_op ?_; refine W_moveInt (by first | rfl | assumption) ?_; refine S_op ?_; refine W_index (by first | rfl | assumption) (by first | rfl | assumption) (by first | assumption | omega | decide) (by first | rfl | assumption) ?_; refine S_op ?_; refine W_loadEnt (by first | rfl | assumption) (by assumption) (by first | assumption | omega) (by assumption) ?_)
    skip
    refine S_op ?_
    refine W_callVal (by rfl) (by rfl) ((hy.at (x := i) (r := downN i) (downN_split hlt) (Its.start hS hI.has)).mono ?_)
    clear hG hS
    rintro v w (⟨rfl, X2, H3, hK⟩ | ⟨rfl, X2, H3, p, r, he, hK⟩)
    · (refine S_op ?_; refine W_not (by first | rfl | assumption) ?_; refine S_nil ?_; refine CW_false (by first | rfl | assumption) ?_; refine CW_skip ?_; refine CW_region rfl ?_; refine S_op ?_; refine W_moveInt (by first | rfl | assumption) ?_)
      refine S_op (W_sub (q := (i : Int) - 1) (by rfl) (by rfl) (IntWalk.i64_in _ (by omega)) ?_)
      (refine S_op ?_; refine W_assignInt (by first | rfl | assumption) ?_; refine S_nil ?_)
      exact ⟨(by repeat (first | exact AgreeOff.over | refine AgreeOff.upd rfl ?_ | refine AgreeOff.over2 rfl ?_)), m - 1, by omega, i, X2, H3, rfl, by omega, by omega, hle.trans hK.le, by rw [downTo_step hlt]; exact hI.trans hK⟩
    · (refine S_op ?_; refine W_not (by first | rfl | assumption) ?_; refine S_nil ?_; refine CW_true (by first | rfl | assumption) ?_; refine CW_ret ?_)
      exact ⟨_, ResW_zero, Went.end (v := .bool false) (.inr ⟨rfl, _, _, p, r, he, hI.trans hK⟩)⟩
theorem back1V_it {H : HF} {w : World} {vs : List Value} {A : Option Addr} {n c a : Nat} {T : TypeId} (hn : n = vs.length) (hb : n ≤ 1000000) (hl : SlAt H A vs) (ha : H a = some (.cells #[.slice A n c] T (0, 0))) :
    IterAt Try.prog 86 [.pointer (some ⟨a, 0, none⟩)] (encBV vs) (downN n) (fun _ => False) H w := by
  skip
  intro y J Jx X0 hyc _ hX0 hJ hJx hy hS hj
  obtain ⟨H0, rfl⟩ : ∃ H0, H0 = H := ⟨_, rfl⟩
  obtain ⟨w0, rfl⟩ : ∃ w0, w0 = w := ⟨_, rfl⟩
  refine CallW_of_CW Try.func86 rfl Try.ntmps86 Try.results86 rfl ?_
  have hG := Grow.refl hS
  have hI := Its.start hS hj
  (refine CW_seq ?_; refine CW_region rfl ?_; refine S_op ?_; refine W_loadHL (by first | rfl | assumption) (by assumption) (by rfl) (by assumption) ?_; refine S_op ?_; refine W_len (by first | rfl | assumption) ?_)
  refine S_op (W_sub (q := (n : Int) - 1) (by rfl) (by rfl) (IntWalk.i64_in _ (by omega)) ?_)
  (refine S_op ?_; refine W_assignInt (by first | rfl | assumption) ?_; refine S_nil ?_; refine CW_block ?_)
  refine CW_loopM [3, 7, 8, 9, 10, 11, 12, 13, 14, 15, 16, 17, 18] (fun m u w2 => ∃ (i : Nat) (X : Nat → Prop) (H2 : HF), u 3 = .int .i64 ((i : Int) - 1) ∧ i ≤ n ∧ i ≤ m ∧ HLe H0 H2 ∧ Its J X0 H0 w0 X (downTo n i) H2 w2)
    (m := n) ⟨n, X0, H0, rfl, Nat.le_refl _, Nat.le_refl _, HLe.refl _, by rw [downTo_top]; exact hI⟩ ?_
  clear hI hG hS hj
  rintro m u w ⟨i, X, H, h3, hi, hm, hle, hI⟩
  have hS := hI.sub
  have hG := Grow.refl hS
  replace ha := hle _ _ ha
  replace hl := hl.mono hle
  cases i with
  | zero =>
    replace h3 : u 3 = .int .i64 (-1) := h3
    (refine CW_seq ?_; refine CW_seq ?_; refine CW_region rfl ?_; refine S_op ?_; refine W_moveInt (by first | rfl | assumption) ?_; refine S_op ?_; refine W_geqF (by first | rfl | assumption) (by first | rfl | assumption) (by first | omega | rfl) ?_; refine S_nil ?_; refine CW_false (by first | rfl | assumption) ?_; refine CW_exit ?_; refine xblk_hit ?_)
    exact ⟨_, ResW_zero, Went.end (v := .bool true) (.inl ⟨rfl, X, H, hI⟩)⟩
  | succ i =>
    replace h3 : u 3 = .int .i64 (i : Int) := by rw [h3]; congr 1; omega
    have hlt : i < n := by omega
    have hlt2 : i < vs.length := by omega
    obtain ⟨bb, off, hA, hrow⟩ : ∃ b off, A = some ⟨b, off, none⟩ ∧ Row H b off vs := by
      rcases hl with h | h
      · subst h; simp at hlt2
      · exact h
    have hget : vs[i * 1]? = some (vs.getD i (.pointer none)) := by simp [hlt2]
    (refine CW_seq ?_; refine CW_seq ?_; refine CW_region rfl ?_; refine S_op ?_; refine W_moveInt (by first | rfl | assumption) ?_; refine S_op ?_; refine W_geqT (by first | rfl | assumption) (by first | rfl | assumption) (by first | omega | rfl) ?_; refine S_nil ?_; refine CW_true (by first | rfl | assumption) ?_; refine CW_skip ?_; refine CW_seq ?_; refine CW_block ?_; refine CW_seq ?_; refine CW_region rfl ?_; refine S_op ?_; refine W_move rfl ?_; refine S_op ?_; refine W_moveInt (by first | rfl | assumption) ?_; refine S_op ?_; refine W_loadHL (by first | rfl | assumption) (by assumption) (by rfl) (by assumption) ?_; refine S_op ?_; refine W_moveInt (by first | rfl | assumption) ?_; refine S_op ?_; refine W_index (by first | rfl | assumption) (by first | rfl | assumption) (by first | assumption | omega | decide) (by first | rfl | assumption) ?_)
    refine S_op (W_loadRow (by rfl) hrow hget hS ?_)
    skip
    refine S_op ?_
    refine W_callVal (by rfl) (by rfl) ((hy.at (x := i) (r := downN i) (downN_split hlt) (Its.start hS hI.has)).mono ?_)
    clear hG hS
    rintro v w (⟨rfl, X2, H3, hK⟩ | ⟨rfl, X2, H3, p, r, he, hK⟩)
    · (refine S_op ?_; refine W_not (by first | rfl | assumption) ?_; refine S_nil ?_; refine CW_false (by first | rfl | assumption) ?_; refine CW_skip ?_; refine CW_region rfl ?_; refine S_op ?_; refine W_moveInt (by first | rfl | assumption) ?_)
      refine S_op (W_sub (q := (i : Int) - 1) (by rfl) (by rfl) (IntWalk.i64_in _ (by omega)) ?_)
      (refine S_op ?_; refine W_assignInt (by first | rfl | assumption) ?_; refine S_nil ?_)
      exact ⟨(by repeat (first | exact AgreeOff.over | refine AgreeOff.upd rfl ?_ | refine AgreeOff.over2 rfl ?_)), m - 1, by omega, i, X2, H3, rfl, by omega, by omega, hle.trans hK.le, by rw [downTo_step hlt]; exact hI.trans hK⟩
    · (refine S_op ?_; refine W_not (by first | rfl | assumption) ?_; refine S_nil ?_; refine CW_true (by first | rfl | assumption) ?_; refine CW_ret ?_)
      exact ⟨_, ResW_zero, Went.end (v := .bool false) (.inr ⟨rfl, _, _, p, r, he, hI.trans hK⟩)⟩
theorem backE_c (H : HF) (l : List Ent) (A : Option Addr) (c : Nat) (hb : l.length ≤ 1000000) (hl : EntsAt H A l) :
    Fn Try.prog 67 [.slice A l.length c] H fun v H' => IterV Try.prog (encBE l) (downN l.length) v H' := by
  refine Fn_of_CW Try.func67 rfl Try.ntmps67 Try.results67 rfl fun w hS => ?_; have hG := Grow.refl hS; have hS0 := hS
  (refine CW_seq ?_; refine CW_region rfl ?_)
  (refine S_op (W_box1 hS (by rfl) (by first | rfl | assumption) ?_)); intro H w _ hG' h1; replace hG := hG.trans hG'; replace hS := hG'.sub; replace hl := hl.mono hG'.le; clear hG'
  (refine S_op ?_; refine W_assign rfl ?_; refine S_nil ?_; refine CW_seq ?_; refine CW_region rfl ?_)
  refine S_op (W_makeFunc rfl rfl ?_)
  (refine S_op ?_; refine W_assignFun (by first | rfl | assumption) ?_; refine S_nil ?_; refine CW_ret ?_)
  exact ⟨_, ResW_one (v := .func _ _ _) rfl, H, hG, _, _, inferInstance, rfl, fun H1 w1 hle => back1E_it rfl hb (hl.mono hle) (hle _ _ h1)⟩
theorem backV_c (H : HF) (vs : List Value) (A : Option Addr) (n c : Nat) (hn : n = vs.length) (hb : n ≤ 1000000) (hl : SlAt H A vs) :
    Fn Try.prog 68 [.slice A n c] H fun v H' => IterV Try.prog (encBV vs) (downN n) v H' := by
  refine Fn_of_CW Try.func68 rfl Try.ntmps68 Try.results68 rfl fun w hS => ?_; have hG := Grow.refl hS; have hS0 := hS
  (refine CW_seq ?_; refine CW_region rfl ?_)
  (refine S_op (W_box1 hS (by rfl) (by first | rfl | assumption) ?_)); intro H w _ hG' h1; replace hG := hG.trans hG'; replace hS := hG'.sub; replace hl := hl.mono hG'.le; clear hG'
  (refine S_op ?_; refine W_assign rfl ?_; refine S_nil ?_; refine CW_seq ?_; refine CW_region rfl ?_)
  refine S_op (W_makeFunc rfl rfl ?_)
  (refine S_op ?_; refine W_assignFun (by first | rfl | assumption) ?_; refine S_nil ?_; refine CW_ret ?_)
  exact ⟨_, ResW_one (v := .func _ _ _) rfl, H, hG, _, _, inferInstance, rfl, fun H1 w1 hle => back1V_it hn hb (hl.mono hle) (hle _ _ h1)⟩
end Go.Proofs.Ytgaabmoknpifnaa
