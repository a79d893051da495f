/- Changes in memory; made, list, Back, Same, few, built. Conditions: sizes. -/
import Derived.Test.YtnjeoobcejlojaaDiffL
import Derived.Test.YtnjeoobcejlojaaOp22
namespace Go.Proofs.Ytnjeoobcejlojaa
open Go.Proofs Go.RowKit
set_option linter.unusedVariables false
attribute [local irreducible] CW CWD SeqW OpW
set_option maxHeartbeats 4000000
def chgC (c : Chg) : List Value := [.string c.key, .string c.old, .string c.new, .bool c.was, .bool c.is]
def chgs : List Chg → List Value
  | [] => []
  | c :: l => chgC c ++ chgs l
def chg (l : List Chg) (i : Nat) : Chg := l.getD i default
theorem chg_get {l : List Chg} {i : Nat} (h : i < l.length) : l[i]? = some (chg l i) := by simp [chg, h]
theorem chg_elem {l : List Chg} {i : Nat} (h : i < l.length) : l[i] = chg l i := by simp [chg, h]
theorem chgs_len (l : List Chg) : (chgs l).length = l.length * 5 := by
  induction l with
  | nil => rfl
  | cons d l ih => simp [chgs, chgC, ih]; omega
theorem chgs_append (l m : List Chg) : chgs (l ++ m) = chgs l ++ chgs m := by
  induction l with
  | nil => rfl
  | cons d l ih => simp [chgs, ih]
theorem chgs_succ {l : List Chg} {i : Nat} (h : i < l.length) : chgs (l.take (i + 1)) = chgs (l.take i) ++ chgC (chg l i) := by
  rw [List.take_succ_eq_append_getElem h, chgs_append, chg_elem h]; simp [chgs]
theorem chgs_one (l : List Chg) : OneCells (chgs l) := by
  induction l with
  | nil => intro u h; cases h
  | cons d l ih =>
    intro u h
    rcases List.mem_append.1 h with h | h
    · exact OneCells.of_all (vs := chgC d) rfl u h
    · exact ih u h
theorem chgs_map (l : List Chg) : chgs l = (l.map chgC).flatten := by
  induction l with
  | nil => rfl
  | cons d l ih => simp [chgs, ih]
theorem chgs_at : ∀ {l : List Chg} {i j : Nat}, i < l.length → j < 5 → (chgs l)[i * 5 + j]? = (chgC (chg l i))[j]?
  | [], i, j, h, _ => by simp at h
  | d :: l, 0, j, _, hj => by
    simp only [chgs, Nat.zero_mul, Nat.zero_add]
    rw [List.getElem?_append_left (by simp [chgC]; exact hj)]
    rfl
  | d :: l, i + 1, j, h, hj => by
    have ih := chgs_at (l := l) (i := i) (j := j) (by simpa using h) hj
    simp only [chgs]
    rw [List.getElem?_append_right (by simp [chgC]; omega), show (i + 1) * 5 + j - (chgC d).length = i * 5 + j by simp [chgC]; omega, ih]
    simp [chg]
def ChgsAt (H : HF) (A : Option Addr) (l : List Chg) : Prop := SlAt H A (chgs l)
theorem ChgsAt.mono {H H' : HF} {A : Option Addr} {l : List Chg} (h : ChgsAt H A l) (hle : HLe H H') : ChgsAt H' A l := SlAt.mono h hle
theorem ChgsAt.some {H : HF} {A : Option Addr} {l : List Chg} (h : ChgsAt H A l) {i : Nat} (hi : i < l.length) : ∃ b off, A = some ⟨b, off, none⟩ ∧ Row H b off (chgs l) := by
  rcases h with h | h
  · have := chgs_len l; rw [h] at this; simp only [List.length_nil] at this; omega
  · exact h
/-- A slice of changes, as a value. -/
def IsChgs (v : Value) (l : List Chg) (H : HF) : Prop := ∃ A c, v = .slice A l.length c ∧ l.length ≤ c ∧ ChgsAt H A l
theorem IsNew.chgs {H H' : HF} {E : TypeId} {v : Value} {l : List Chg} (h : IsNew H E 5 v l.length (chgs l) H') : IsChgs v l H' := by
  obtain ⟨A, c, rfl, h1, h2, _⟩ := h.sl
  exact ⟨A, c, rfl, h1, h2⟩
section
variable {P : Program} {r : Option Nat} {f : Fr} {H : HF} {w : World} {K : Value → World → Prop} {d : Option Nat} {ty : TypeId} {pos : String} {af : Array Edge} {g : Option (Nat × Bool)} {T T' : TypeId} {x y : Operand} {b o q : Nat} {l : List Chg}
theorem W_loadOf [TyAgg P T] [TySize P T 5] (hx : ev f x = .pointer (some ⟨b, o + q * 5, none⟩)) (hb : Row H b o (chgs l)) (hq : q < l.length) (hS : Sub H w) (hk : K (.agg (chgC (chg l q)).toArray) w) : OpW P r ⟨d, .load T x, ty, pos, af, g⟩ f w K := by
  obtain ⟨c, E, fr, h1, h2⟩ := hb
  refine W_loadAgg (s := 5) (cs := chgC (chg l q)) hx rfl ?_ hk
  intro j v hj
  have hj5 : j < 5 := (List.getElem?_eq_some_iff.1 hj).1
  rw [add_lit']
  refine hS.cell h1 ?_
  rw [Nat.add_assoc]
  exact h2 _ _ (by rw [chgs_at hq hj5]; exact hj)
theorem W_loadOg [TyOne P T] (hx : ev f x = .pointer (some ⟨b, o + q * 5 + 0, none⟩)) (hb : Row H b o (chgs l)) (hq : q < l.length) (hS : Sub H w) (hk : K (.string (chg l q).key) w) : OpW P r ⟨d, .load T x, ty, pos, af, g⟩ f w K :=
  W_loadRow (j := q * 5 + 0) (by rw [hx, Nat.add_assoc]) hb (by rw [chgs_at hq (by omega)]; rfl) hS hk
theorem chgC_eq (a b : Chg) : eqCells (chgC a) (chgC b) = decide (a = b) := by
  obtain ⟨a1, a2, a3, a4, a5⟩ := a
  obtain ⟨b1, b2, b3, b4, b5⟩ := b
  simp only [chgC, eqCells, eqCell, Chg.mk.injEq, Bool.and_true]
  rw [Bool.eq_iff_iff]
  simp only [Bool.and_eq_true, decide_eq_true_eq, beq_iff_eq]
variable {t1 t2 t3 t4 t5 : TypeId} {a c : Chg}
theorem W_chgEqlB [TyFlat P T [t1, t2, t3, t4, t5]] [TyStr P t1] [TyStr P t2] [TyStr P t3] [TyBool P t4] [TyBool P t5] {q : Bool} (hq : decide (a = c) = q) (hx : ev f x = .agg (chgC a).toArray) (hy : ev f y = .agg (chgC c).toArray) (hk : K (.bool q) w) : OpW P r ⟨d, .binOp .eql T x y T', ty, pos, af, g⟩ f w K := by
  subst hq
  exact W_aeql (ts := [t1, t2, t3, t4, t5]) (b := decide (a = c)) hx hy ⟨fits_str, fits_str, fits_str, fits_bool, fits_bool, trivial⟩ ⟨fits_str, fits_str, fits_str, fits_bool, fits_bool, trivial⟩ rfl (by simpa using chgC_eq a c) hk
theorem W_chgNeqB [TyFlat P T [t1, t2, t3, t4, t5]] [TyStr P t1] [TyStr P t2] [TyStr P t3] [TyBool P t4] [TyBool P t5] {q : Bool} (hq : decide (a ≠ c) = q) (hx : ev f x = .agg (chgC a).toArray) (hy : ev f y = .agg (chgC c).toArray) (hk : K (.bool q) w) : OpW P r ⟨d, .binOp .neq T x y T', ty, pos, af, g⟩ f w K := by
  subst hq
  exact W_aneq (ts := [t1, t2, t3, t4, t5]) (b := decide (a = c)) hx hy ⟨fits_str, fits_str, fits_str, fits_bool, fits_bool, trivial⟩ ⟨fits_str, fits_str, fits_str, fits_bool, fits_bool, trivial⟩ rfl (by simpa using chgC_eq a c) (by rw [show (!decide (a = c)) = decide (a ≠ c) by simp]; exact hk)
end
/- copy(go name ;; element type ;; slot of the index ;; slot of the slice ;; cells of element i ;; gathered so far) -/
theorem made22_c (H0 : HF) (A : Option Addr) (c : Nat) (l : List Chg) (hl : ChgsAt H0 A l) (hb : l.length ≤ 1000000) :
    Fn Try.prog 16 [.slice A l.length c] H0 fun v H' => IsNew H0 29 5 v l.length (chgs l) H' := by
  refine Fn_of_CW Try.func16 rfl Try.ntmps16 Try.results16 rfl fun w0 hS => ?_; have hG := Grow.refl hS
  (refine CW_seq ?_; refine CW_region rfl ?_; refine S_op ?_; refine W_assignSl (by first | rfl | assumption) ?_; refine S_nil ?_; refine CW_seq ?_; refine CW_region rfl ?_; refine S_op ?_; refine W_assignSl (by first | rfl | assumption) ?_; refine S_nil ?_; refine CW_seq ?_; refine CW_seq ?_; refine CW_region rfl ?_; refine S_op ?_; refine W_moveSl (by first | rfl | assumption) ?_; refine S_op ?_; refine W_len (by first | rfl | assumption) ?_; refine S_op ?_; refine W_moveInt (by first | rfl | assumption) ?_; refine S_nil ?_; refine CW_block ?_)
  refine CW_loopM [3, 4, 7, 8, 9, 10, 11, 12, 13, 14, 15, 16, 17]
    (fun m u w2 => ∃ (i : Nat) (A2 : Option Addr) (c2 : Nat) (H2 : HF), u 7 = .int .i64 (i : Int) ∧ u 3 = .slice A2 i c2 ∧ Grow H0 w0 H2 w2 ∧ Own H2 w2 w0.heap.size 29 5 A2 i c2 (chgs (l.take i)) ∧ i ≤ l.length ∧ l.length - i ≤ m)
    (m := l.length) ⟨0, none, 0, H0, rfl, rfl, hG, Own.nil _ _ _ _ _, by omega, by omega⟩ ?_
  rintro m u w ⟨i, A2, c2, H, h7, h3, hG, hown, hi, hm⟩
  have hS := hG.sub
  replace hl := hl.mono hG.le
  by_cases hlt : i < l.length
  · obtain ⟨b, off, hA, hrow⟩ := hl.some hlt
    (refine CW_seq ?_; refine CW_region rfl ?_; refine S_op ?_; refine W_lssT (by first | rfl | assumption) (by first | rfl | assumption) (by first | omega | rfl) ?_; refine S_nil ?_; refine CW_seq ?_; refine CW_true (by first | rfl | assumption) ?_; refine CW_skip ?_; refine CW_seq ?_; refine CW_block ?_; refine CW_seq ?_; refine CW_region rfl ?_; refine S_op ?_; refine W_moveInt (by first | rfl | assumption) ?_; refine S_op ?_; refine W_assignInt (by first | rfl | assumption) ?_; refine S_nil ?_; refine CW_region rfl ?_; refine S_op ?_; refine W_moveSl (by first | rfl | assumption) ?_; refine S_op ?_; refine W_moveSl (by first | rfl | assumption) ?_; refine S_op ?_; refine W_moveInt (by first | rfl | assumption) ?_; refine S_op ?_; refine W_index (by first | rfl | assumption) (by first | rfl | assumption) (by first | assumption | omega | decide) (by first | rfl | assumption) ?_; refine S_op ?_; refine W_loadOf (by first | rfl | assumption) (by assumption) (by first | assumption | omega) (by assumption) ?_)
    refine S_op ?_
    refine W_build1 (sz := 5) (v := .agg (chgC (chg l i)).toArray) hS (by omega) (by rfl) (by rfl) ?_
    intro H w b hG' hb' _ _
    replace hG := hG.trans hG'
    replace hS := hG'.sub
    replace hl := hl.mono hG'.le
    replace hown := hown.grow hG'
    clear hG'
    refine S_op ?_
    refine W_append (news := chgC (chg l i)) (by rfl) (by rfl) hG hown ((SlAt.of_row hb').cells hS) (by rfl) (OneCells.of_all (by rfl)) (by decide) (by omega) (by omega) ?_
    intro A2 c2 w hG hown _ hA3
    clear hA3
    replace hS := hG.sub
    rw [← chgs_succ hlt] at hown
    (refine S_op ?_; refine W_assignSl (by first | rfl | assumption) ?_; refine S_nil ?_; refine CW_region rfl ?_; refine S_op ?_; refine W_add1 (by first | rfl | assumption) (by omega) ?_; refine S_op ?_; refine W_moveInt (by first | rfl | assumption) ?_; refine S_nil ?_)
    exact ⟨(by repeat (first | exact AgreeOff.over | refine AgreeOff.upd rfl ?_ | refine AgreeOff.over2 rfl ?_)), m - 1, by omega, i + 1, A2, c2, H, rfl, rfl, hG, hown, by omega, by omega⟩
  · have hin : i = l.length := by omega
    subst hin
    rw [List.take_length] at hown
    (refine CW_seq ?_; refine CW_region rfl ?_; refine S_op ?_; refine W_lssF (by first | rfl | assumption) (by first | rfl | assumption) (by first | omega | rfl) ?_; refine S_nil ?_; refine CW_seq ?_; refine CW_false (by first | rfl | assumption) ?_; refine CW_exit ?_; refine CW_seq ?_; refine CW_region rfl ?_; refine S_op ?_; refine W_moveSl (by first | rfl | assumption) ?_; refine S_op ?_; refine W_assignSl (by first | rfl | assumption) ?_; refine S_nil ?_; refine CW_ret ?_)
    obtain ⟨H3, hle3, hG3, hn⟩ := hown.freezeN hG
    exact ⟨_, ResW_one (v := .slice _ _ _) rfl, H3, hG3, hn⟩
theorem list22_c (H0 : HF) (A : Option Addr) (c : Nat) (l : List Chg) (hl : ChgsAt H0 A l) (hb : l.length ≤ 1000000) :
    Fn Try.prog 19 [.slice A l.length c] H0 fun v H' => IsNew H0 28 5 v l.length (chgs l) H' := by
  refine Fn_of_CW Try.func19 rfl Try.ntmps19 Try.results19 rfl fun w0 hS => ?_; have hG := Grow.refl hS
  (refine CW_seq ?_; refine CW_region rfl ?_; refine S_op ?_; refine W_assignSl (by first | rfl | assumption) ?_; refine S_nil ?_; refine CW_seq ?_; refine CW_region rfl ?_; refine S_op ?_; refine W_assignSl (by first | rfl | assumption) ?_; refine S_nil ?_; refine CW_seq ?_; refine CW_seq ?_; refine CW_region rfl ?_; refine S_op ?_; refine W_moveSl (by first | rfl | assumption) ?_; refine S_op ?_; refine W_len (by first | rfl | assumption) ?_; refine S_op ?_; refine W_moveInt (by first | rfl | assumption) ?_; refine S_nil ?_; refine CW_block ?_)
  refine CW_loopM [3, 4, 7, 8, 9, 10, 11, 12, 13, 14, 15, 16, 17]
    (fun m u w2 => ∃ (i : Nat) (A2 : Option Addr) (c2 : Nat) (H2 : HF), u 7 = .int .i64 (i : Int) ∧ u 3 = .slice A2 i c2 ∧ Grow H0 w0 H2 w2 ∧ Own H2 w2 w0.heap.size 28 5 A2 i c2 (chgs (l.take i)) ∧ i ≤ l.length ∧ l.length - i ≤ m)
    (m := l.length) ⟨0, none, 0, H0, rfl, rfl, hG, Own.nil _ _ _ _ _, by omega, by omega⟩ ?_
  rintro m u w ⟨i, A2, c2, H, h7, h3, hG, hown, hi, hm⟩
  have hS := hG.sub
  replace hl := hl.mono hG.le
  by_cases hlt : i < l.length
  · obtain ⟨b, off, hA, hrow⟩ := hl.some hlt
    (refine CW_seq ?_; refine CW_region rfl ?_; refine S_op ?_; refine W_lssT (by first | rfl | assumption) (by first | rfl | assumption) (by first | omega | rfl) ?_; refine S_nil ?_; refine CW_seq ?_; refine CW_true (by first | rfl | assumption) ?_; refine CW_skip ?_; refine CW_seq ?_; refine CW_block ?_; refine CW_seq ?_; refine CW_region rfl ?_; refine S_op ?_; refine W_moveInt (by first | rfl | assumption) ?_; refine S_op ?_; refine W_assignInt (by first | rfl | assumption) ?_; refine S_nil ?_; refine CW_region rfl ?_; refine S_op ?_; refine W_moveSl (by first | rfl | assumption) ?_; refine S_op ?_; refine W_moveSl (by first | rfl | assumption) ?_; refine S_op ?_; refine W_moveInt (by first | rfl | assumption) ?_; refine S_op ?_; refine W_index (by first | rfl | assumption) (by first | rfl | assumption) (by first | assumption | omega | decide) (by first | rfl | assumption) ?_; refine S_op ?_; refine W_loadOf (by first | rfl | assumption) (by assumption) (by first | assumption | omega) (by assumption) ?_)
    refine S_op ?_
    refine W_build1 (sz := 5) (v := .agg (chgC (chg l i)).toArray) hS (by omega) (by rfl) (by rfl) ?_
    intro H w b hG' hb' _ _
    replace hG := hG.trans hG'
    replace hS := hG'.sub
    replace hl := hl.mono hG'.le
    replace hown := hown.grow hG'
    clear hG'
    refine S_op ?_
    refine W_append (news := chgC (chg l i)) (by rfl) (by rfl) hG hown ((SlAt.of_row hb').cells hS) (by rfl) (OneCells.of_all (by rfl)) (by decide) (by omega) (by omega) ?_
    intro A2 c2 w hG hown _ hA3
    clear hA3
    replace hS := hG.sub
    rw [← chgs_succ hlt] at hown
    (refine S_op ?_; refine W_assignSl (by first | rfl | assumption) ?_; refine S_nil ?_; refine CW_region rfl ?_; refine S_op ?_; refine W_add1 (by first | rfl | assumption) (by omega) ?_; refine S_op ?_; refine W_moveInt (by first | rfl | assumption) ?_; refine S_nil ?_)
    exact ⟨(by repeat (first | exact AgreeOff.over | refine AgreeOff.upd rfl ?_ | refine AgreeOff.over2 rfl ?_)), m - 1, by omega, i + 1, A2, c2, H, rfl, rfl, hG, hown, by omega, by omega⟩
  · have hin : i = l.length := by omega
    subst hin
    rw [List.take_length] at hown
    (refine CW_seq ?_; refine CW_region rfl ?_; refine S_op ?_; refine W_lssF (by first | rfl | assumption) (by first | rfl | assumption) (by first | omega | rfl) ?_; refine S_nil ?_; refine CW_seq ?_; refine CW_false (by first | rfl | assumption) ?_; refine CW_exit ?_; refine CW_seq ?_; refine CW_region rfl ?_; refine S_op ?_; refine W_moveSl (by first | rfl | assumption) ?_; refine S_op ?_; refine W_assignSl (by first | rfl | assumption) ?_; refine S_nil ?_; refine CW_ret ?_)
    obtain ⟨H3, hle3, hG3, hn⟩ := hown.freezeN hG
    exact ⟨_, ResW_one (v := .slice _ _ _) rfl, H3, hG3, hn⟩
theorem backs_succ {l : List Chg} {i : Nat} (h : i < l.length) : chgs ((l.take (i + 1)).map backC) = chgs ((l.take i).map backC) ++ chgC (backC (chg l i)) := by
  rw [List.take_succ_eq_append_getElem h, List.map_append, chgs_append, chg_elem h]; simp [chgs]
theorem back22_c (H0 : HF) (A : Option Addr) (c : Nat) (l : List Chg) (hl : ChgsAt H0 A l) (hb : l.length ≤ 1000000) :
    Fn Try.prog 17 [.slice A l.length c] H0 fun v H' => IsNew H0 29 5 v (l.map backC).length (chgs (l.map backC)) H' := by
  refine Fn_of_CW Try.func17 rfl Try.ntmps17 Try.results17 rfl fun w0 hS => ?_; have hG := Grow.refl hS
  (refine CW_seq ?_; refine CW_region rfl ?_; refine S_op ?_; refine W_assignSl (by first | rfl | assumption) ?_; refine S_nil ?_; refine CW_seq ?_; refine CW_region rfl ?_; refine S_op ?_; refine W_assignSl (by first | rfl | assumption) ?_; refine S_nil ?_; refine CW_seq ?_; refine CW_seq ?_; refine CW_region rfl ?_; refine S_op ?_; refine W_moveSl (by first | rfl | assumption) ?_; refine S_op ?_; refine W_len (by first | rfl | assumption) ?_; refine S_op ?_; refine W_moveInt (by first | rfl | assumption) ?_; refine S_nil ?_; refine CW_block ?_)
  refine CW_loopM [3, 5, 8, 9, 10, 11, 12, 13, 14, 15, 16, 17, 18, 19, 20, 21, 22, 23, 24, 25, 26]
    (fun m u w2 => ∃ (i : Nat) (A2 : Option Addr) (c2 : Nat) (H2 : HF), u 8 = .int .i64 (i : Int) ∧ u 3 = .slice A2 i c2 ∧ Grow H0 w0 H2 w2 ∧ Own H2 w2 w0.heap.size 29 5 A2 i c2 (chgs ((l.take i).map backC)) ∧ i ≤ l.length ∧ l.length - i ≤ m)
    (m := l.length) ⟨0, none, 0, H0, rfl, rfl, hG, Own.nil _ _ _ _ _, by omega, by omega⟩ ?_
  rintro m u w ⟨i, A2, c2, H, h8, h3, hG, hown, hi, hm⟩
  have hS := hG.sub
  replace hl := hl.mono hG.le
  by_cases hlt : i < l.length
  · obtain ⟨b, off, hA, hrow⟩ := hl.some hlt
    (refine CW_seq ?_; refine CW_region rfl ?_; refine S_op ?_; refine W_lssT (by first | rfl | assumption) (by first | rfl | assumption) (by first | omega | rfl) ?_; refine S_nil ?_; refine CW_seq ?_; refine CW_true (by first | rfl | assumption) ?_; refine CW_skip ?_; refine CW_seq ?_; refine CW_block ?_; refine CW_seq ?_; refine CW_region rfl ?_; refine S_op ?_; refine W_index (by first | rfl | assumption) (by first | rfl | assumption) (by first | assumption | omega | decide) (by first | rfl | assumption) ?_; refine S_op ?_; refine W_loadOf (by first | rfl | assumption) (by assumption) (by first | assumption | omega) (by assumption) ?_)
    (refine S_op (W_alloc hS ?_)); intro w c5b hG' c5h c5; have n_hown_c5 := fun (a : Addr) ha => Nat.ne_of_lt (Nat.lt_of_lt_of_eq (hown.block (a := a) ha).2 c5h); replace c5h := Nat.le_trans hG.below.size (Nat.le_of_eq c5h); replace hG := hG.trans hG'; replace hS := hG'.sub; replace hown := hown.grow hG'; clear hG'
    skip
    (refine S_op0 (W_storeM (o := 0) (vs := chgC (chg l i)) (by rfl) (by rfl) c5 (by rfl) (OneCells.of_all (by rfl)) (by rfl) (Nat.le_of_ble_eq_true (by rfl)) ?_)); intro w hgb' hm'; replace hG := hG.grownBy hgb' (fun g h => by cases h; exact ⟨c5.out, c5h⟩); replace hS := hG.sub; replace c5 : Mut _ w c5b (chgC (chg l i)) := hm'; clear hm'; replace hown := hown.other hgb' (fun a ha e2 => n_hown_c5 a ha (Option.some.inj e2)); clear hgb'
    (obtain ⟨H, _, hle', hG, hm', hoth'⟩ := c5.freeze hG c5h); replace hS := hG.sub; clear c5; have c5 := hm'; clear hm'; replace hl := hl.mono hle'; replace hown := Own.mk hown.row (fun a ha => (hoth' _ (n_hown_c5 a ha)).trans (hown.out a ha)); clear hle' hoth'
    (refine S_nil ?_; refine CW_region rfl ?_; refine S_op ?_; refine W_moveSl (by first | rfl | assumption) ?_; refine S_op ?_; refine W_field (by first | rfl | assumption) ?_; refine S_op ?_; refine W_loadHL (by first | rfl | assumption) (by assumption) (by rfl) (by assumption) ?_; refine S_op ?_; refine W_field (by first | rfl | assumption) ?_; refine S_op ?_; refine W_loadHL (by first | rfl | assumption) (by assumption) (by rfl) (by assumption) ?_; refine S_op ?_; refine W_field (by first | rfl | assumption) ?_; refine S_op ?_; refine W_loadHL (by first | rfl | assumption) (by assumption) (by rfl) (by assumption) ?_; refine S_op ?_; refine W_field (by first | rfl | assumption) ?_; refine S_op ?_; refine W_loadHL (by first | rfl | assumption) (by assumption) (by rfl) (by assumption) ?_; refine S_op ?_; refine W_field (by first | rfl | assumption) ?_; refine S_op ?_; refine W_loadHL (by first | rfl | assumption) (by assumption) (by rfl) (by assumption) ?_; refine S_op ?_; refine W_build (by rfl) ?_)
    refine S_op ?_
    refine W_build1 (sz := 5) (v := .agg (chgC (backC (chg l i))).toArray) hS (by omega) (by rfl) (by rfl) ?_
    intro H w b hG' hb' _ _
    replace hG := hG.trans hG'
    replace hS := hG'.sub
    replace hl := hl.mono hG'.le
    replace hown := hown.grow hG'
    clear hG'
    refine S_op ?_
    refine W_append (news := chgC (backC (chg l i))) (by rfl) (by rfl) hG hown ((SlAt.of_row hb').cells hS) (by rfl) (OneCells.of_all (by rfl)) (by decide) (by omega) (by omega) ?_
    intro A2 c2 w hG hown _ hA3
    clear hA3
    replace hS := hG.sub
    rw [← backs_succ hlt] at hown
    (refine S_op ?_; refine W_assignSl (by first | rfl | assumption) ?_; refine S_nil ?_; refine CW_region rfl ?_; refine S_op ?_; refine W_add1 (by first | rfl | assumption) (by omega) ?_; refine S_op ?_; refine W_moveInt (by first | rfl | assumption) ?_; refine S_nil ?_)
    exact ⟨(by repeat (first | exact AgreeOff.over | refine AgreeOff.upd rfl ?_ | refine AgreeOff.over2 rfl ?_)), m - 1, by omega, i + 1, A2, c2, H, rfl, rfl, hG, hown, by omega, by omega⟩
  · have hin : i = l.length := by omega
    subst hin
    rw [List.take_length] at hown
    (refine CW_seq ?_; refine CW_region rfl ?_; refine S_op ?_; refine W_lssF (by first | rfl | assumption) (by first | rfl | assumption) (by first | omega | rfl) ?_; refine S_nil ?_; refine CW_seq ?_; refine CW_false (by first | rfl | assumption) ?_; refine CW_exit ?_; refine CW_seq ?_; refine CW_region rfl ?_; refine S_op ?_; refine W_moveSl (by first | rfl | assumption) ?_; refine S_op ?_; refine W_assignSl (by first | rfl | assumption) ?_; refine S_nil ?_; refine CW_ret ?_)
    obtain ⟨H3, hle3, hG3, hn⟩ := hown.freezeN hG
    exact ⟨_, ResW_one (v := .slice _ _ _) rfl, H3, hG3, by rw [List.length_map]; exact hn⟩
theorem same22_c (H : HF) (A B : Option Addr) (c d : Nat) (l m : List Chg) (hl : ChgsAt H A l) (hm : ChgsAt H B m) (hb : l.length ≤ 1000000) :
    Fn Try.prog 18 [.slice A l.length c, .slice B m.length d] H fun v _ => v = .bool (decide (l = m)) := by
  refine Fn_of_CW Try.func18 rfl Try.ntmps18 Try.results18 rfl fun w hS => ?_
  by_cases hlen : l.length = m.length
  · (refine CW_seq ?_; refine CW_region rfl ?_; refine S_op ?_; refine W_assignBool (by first | rfl | assumption) ?_; refine S_nil ?_; refine CW_seq ?_; refine CW_seq ?_; refine CW_region rfl ?_; refine S_op ?_; refine W_moveSl (by first | rfl | assumption) ?_; refine S_op ?_; refine W_len (by first | rfl | assumption) ?_; refine S_op ?_; refine W_moveSl (by first | rfl | assumption) ?_; refine S_op ?_; refine W_len (by first | rfl | assumption) ?_; refine S_op ?_; refine W_neqF (by first | rfl | assumption) (by first | rfl | assumption) (by first | omega | rfl) ?_; refine S_nil ?_; refine CW_false (by first | rfl | assumption) ?_; refine CW_skip ?_; refine CW_seq ?_; refine CW_seq ?_; refine CW_region rfl ?_; refine S_op ?_; refine W_moveSl (by first | rfl | assumption) ?_; refine S_op ?_; refine W_len (by first | rfl | assumption) ?_; refine S_op ?_; refine W_moveInt (by first | rfl | assumption) ?_; refine S_nil ?_; refine CW_block ?_)
    refine CW_loopM [4, 5, 13, 14, 15, 16, 17, 18, 19, 20, 21, 22, 23, 24, 25]
      (fun k u w2 => ∃ (i : Nat) (H2 : HF), u 13 = .int .i64 (i : Int) ∧ Grow H w H2 w2 ∧ i ≤ l.length ∧ l.length - i ≤ k ∧ (l.drop i = m.drop i ↔ l = m))
      (m := l.length) ⟨0, H, rfl, Grow.refl hS, by omega, by omega, by simp⟩ ?_
    rintro k u w2 ⟨i, H2, h13, hG2, hi, hk, hf⟩
    have hS2 := hG2.sub
    have hl2 := hl.mono hG2.le
    have hm2 := hm.mono hG2.le
    by_cases hlt : i < l.length
    · obtain ⟨b1, o1, hA, hr1⟩ := hl2.some hlt
      obtain ⟨b2, o2, hB, hr2⟩ := hm2.some (i := i) (by omega)
      have hmt : i < m.length := by omega
      have hd : (l.drop i = m.drop i) ↔ (chg l i = chg m i ∧ l.drop (i + 1) = m.drop (i + 1)) := by
        rw [List.drop_eq_getElem_cons hlt, List.drop_eq_getElem_cons hmt, chg_elem hlt, chg_elem hmt, List.cons.injEq]
      by_cases he : chg l i = chg m i
      · have hd2 : decide (chg l i ≠ chg m i) = false := by simp [he]
        (refine CW_seq ?_; refine CW_region rfl ?_; refine S_op ?_; refine W_lssT (by first | rfl | assumption) (by first | rfl | assumption) (by first | omega | rfl) ?_; refine S_nil ?_; refine CW_seq ?_; refine CW_true (by first | rfl | assumption) ?_; refine CW_skip ?_; refine CW_seq ?_; refine CW_block ?_; refine CW_seq ?_; refine CW_region rfl ?_; refine S_op ?_; refine W_moveInt (by first | rfl | assumption) ?_; refine S_op ?_; refine W_assignInt (by first | rfl | assumption) ?_; refine S_nil ?_; refine CW_seq ?_)
        apply CW_region_grow [_, _, _, _, _, _, _, _, _] [none, none, none, none, none, none, none, none, none] [some 16, some 17, some 18, some 19, some 20, some 21, some 22, some 23, some 24] [16, 17, 18, 19, 20, 21, 22, 23, 24] mixed rfl rfl rfl rfl (by decide) rfl (by assumption)
        · ((apply steps_cons; case h1 => (apply A_pure; intro c u H' w' hG; have hS' := hG.sub; have hS2' := hG.subOld; (repeat (first | refine depGo_eq rfl rfl rfl ?_ | (refine depGo_fact rfl rfl rfl ?_; intro v hv) | refine depGo_skip rfl ?_ | refine depGo_none rfl ?_)); apply Pure1.mk; intro K hk; exact W_moveSl (by first | rfl | assumption) hk)); (apply steps_cons; case h1 => (apply A_pure; intro c u H' w' hG; have hS' := hG.sub; have hS2' := hG.subOld; (repeat (first | refine depGo_eq rfl rfl rfl ?_ | (refine depGo_fact rfl rfl rfl ?_; intro v hv) | refine depGo_skip rfl ?_ | refine depGo_none rfl ?_)); apply Pure1.mk; intro K hk; exact W_moveInt (by first | rfl | assumption) hk)); (apply steps_cons; case h1 => (apply A_pure; intro c u H' w' hG; have hS' := hG.sub; have hS2' := hG.subOld; (repeat (first | refine depGo_eq rfl rfl rfl ?_ | (refine depGo_fact rfl rfl rfl ?_; intro v hv) | refine depGo_skip rfl ?_ | refine depGo_none rfl ?_)); apply Pure1.mk; intro K hk; exact W_index (by first | rfl | assumption) (by first | rfl | assumption) (by first | assumption | omega | decide) (by first | rfl | assumption) hk)); (apply steps_cons; case h1 => (apply A_pure; intro c u H' w' hG; have hS' := hG.sub; have hS2' := hG.subOld; (repeat (first | refine depGo_eq rfl rfl rfl ?_ | (refine depGo_fact rfl rfl rfl ?_; intro v hv) | refine depGo_skip rfl ?_ | refine depGo_none rfl ?_)); apply Pure1.mk; intro K hk; exact W_loadOf (by first | rfl | assumption) (by assumption) (by first | assumption | omega) (by assumption) hk)); (apply steps_cons; case h1 => (apply A_pure; intro c u H' w' hG; have hS' := hG.sub; have hS2' := hG.subOld; (repeat (first | refine depGo_eq rfl rfl rfl ?_ | (refine depGo_fact rfl rfl rfl ?_; intro v hv) | refine depGo_skip rfl ?_ | refine depGo_none rfl ?_)); apply Pure1.mk; intro K hk; exact W_moveSl (by first | rfl | assumption) hk)); (apply steps_cons; case h1 => (apply A_pure; intro c u H' w' hG; have hS' := hG.sub; have hS2' := hG.subOld; (repeat (first | refine depGo_eq rfl rfl rfl ?_ | (refine depGo_fact rfl rfl rfl ?_; intro v hv) | refine depGo_skip rfl ?_ | refine depGo_none rfl ?_)); apply Pure1.mk; intro K hk; exact W_moveInt (by first | rfl | assumption) hk)); (apply steps_cons; case h1 => (apply A_pure; intro c u H' w' hG; have hS' := hG.sub; have hS2' := hG.subOld; (repeat (first | refine depGo_eq rfl rfl rfl ?_ | (refine depGo_fact rfl rfl rfl ?_; intro v hv) | refine depGo_skip rfl ?_ | refine depGo_none rfl ?_)); apply Pure1.mk; intro K hk; exact W_index (by first | rfl | assumption) (by first | rfl | assumption) (by first | assumption | omega | decide) (by first | rfl | assumption) hk)); (apply steps_cons; case h1 => (apply A_pure; intro c u H' w' hG; have hS' := hG.sub; have hS2' := hG.subOld; (repeat (first | refine depGo_eq rfl rfl rfl ?_ | (refine depGo_fact rfl rfl rfl ?_; intro v hv) | refine depGo_skip rfl ?_ | refine depGo_none rfl ?_)); apply Pure1.mk; intro K hk; exact W_loadOf (by first | rfl | assumption) (by assumption) (by first | assumption | omega) (by assumption) hk)))
          (apply steps_cons; case h1 => (apply A_pure; intro c u H' w' hG; have hS' := hG.sub; have hS2' := hG.subOld; (repeat (first | refine depGo_eq rfl rfl rfl ?_ | (refine depGo_fact rfl rfl rfl ?_; intro v hv) | refine depGo_skip rfl ?_ | refine depGo_none rfl ?_)); apply Pure1.mk; intro K hk; exact W_chgNeqB hd2 (by rfl) (by rfl) hk))
          (exact trivial)
        · (intro H' w' hG; (repeat (first | refine fin_eq rfl rfl ?_ | (refine fin_fact rfl ?_; intro v hv) | refine fin_none rfl ?_)); refine fin_nil ?_)
          (refine CW_false (by first | rfl | assumption) ?_; refine CW_skip ?_; refine CW_region rfl ?_; refine S_op ?_; refine W_add1 (by first | rfl | assumption) (by omega) ?_; refine S_op ?_; refine W_moveInt (by first | rfl | assumption) ?_; refine S_nil ?_)
          exact ⟨(by repeat (first | exact AgreeOff.over | refine AgreeOff.upd rfl ?_ | refine AgreeOff.over2 rfl ?_)), k - 1, by omega, i + 1, _, rfl, hG2.trans hG, by omega, by omega, by rw [← hf, hd]; simp [he]⟩
      · have hd2 : decide (chg l i ≠ chg m i) = true := by simp [he]
        have hne : l ≠ m := fun e => he (hd.1 (hf.2 e)).1
        (refine CW_seq ?_; refine CW_region rfl ?_; refine S_op ?_; refine W_lssT (by first | rfl | assumption) (by first | rfl | assumption) (by first | omega | rfl) ?_; refine S_nil ?_; refine CW_seq ?_; refine CW_true (by first | rfl | assumption) ?_; refine CW_skip ?_; refine CW_seq ?_; refine CW_block ?_; refine CW_seq ?_; refine CW_region rfl ?_; refine S_op ?_; refine W_moveInt (by first | rfl | assumption) ?_; refine S_op ?_; refine W_assignInt (by first | rfl | assumption) ?_; refine S_nil ?_; refine CW_seq ?_)
        apply CW_region_grow [_, _, _, _, _, _, _, _, _] [none, none, none, none, none, none, none, none, none] [some 16, some 17, some 18, some 19, some 20, some 21, some 22, some 23, some 24] [16, 17, 18, 19, 20, 21, 22, 23, 24] mixed rfl rfl rfl rfl (by decide) rfl (by assumption)
        · ((apply steps_cons; case h1 => (apply A_pure; intro c u H' w' hG; have hS' := hG.sub; have hS2' := hG.subOld; (repeat (first | refine depGo_eq rfl rfl rfl ?_ | (refine depGo_fact rfl rfl rfl ?_; intro v hv) | refine depGo_skip rfl ?_ | refine depGo_none rfl ?_)); apply Pure1.mk; intro K hk; exact W_moveSl (by first | rfl | assumption) hk)); (apply steps_cons; case h1 => (apply A_pure; intro c u H' w' hG; have hS' := hG.sub; have hS2' := hG.subOld; (repeat (first | refine depGo_eq rfl rfl rfl ?_ | (refine depGo_fact rfl rfl rfl ?_; intro v hv) | refine depGo_skip rfl ?_ | refine depGo_none rfl ?_)); apply Pure1.mk; intro K hk; exact W_moveInt (by first | rfl | assumption) hk)); (apply steps_cons; case h1 => (apply A_pure; intro c u H' w' hG; have hS' := hG.sub; have hS2' := hG.subOld; (repeat (first | refine depGo_eq rfl rfl rfl ?_ | (refine depGo_fact rfl rfl rfl ?_; intro v hv) | refine depGo_skip rfl ?_ | refine depGo_none rfl ?_)); apply Pure1.mk; intro K hk; exact W_index (by first | rfl | assumption) (by first | rfl | assumption) (by first | assumption | omega | decide) (by first | rfl | assumption) hk)); (apply steps_cons; case h1 => (apply A_pure; intro c u H' w' hG; have hS' := hG.sub; have hS2' := hG.subOld; (repeat (first | refine depGo_eq rfl rfl rfl ?_ | (refine depGo_fact rfl rfl rfl ?_; intro v hv) | refine depGo_skip rfl ?_ | refine depGo_none rfl ?_)); apply Pure1.mk; intro K hk; exact W_loadOf (by first | rfl | assumption) (by assumption) (by first | assumption | omega) (by assumption) hk)); (apply steps_cons; case h1 => (apply A_pure; intro c u H' w' hG; have hS' := hG.sub; have hS2' := hG.subOld; (repeat (first | refine depGo_eq rfl rfl rfl ?_ | (refine depGo_fact rfl rfl rfl ?_; intro v hv) | refine depGo_skip rfl ?_ | refine depGo_none rfl ?_)); apply Pure1.mk; intro K hk; exact W_moveSl (by first | rfl | assumption) hk)); (apply steps_cons; case h1 => (apply A_pure; intro c u H' w' hG; have hS' := hG.sub; have hS2' := hG.subOld; (repeat (first | refine depGo_eq rfl rfl rfl ?_ | (refine depGo_fact rfl rfl rfl ?_; intro v hv) | refine depGo_skip rfl ?_ | refine depGo_none rfl ?_)); apply Pure1.mk; intro K hk; exact W_moveInt (by first | rfl | assumption) hk)); (apply steps_cons; case h1 => (apply A_pure; intro c u H' w' hG; have hS' := hG.sub; have hS2' := hG.subOld; (repeat (first | refine depGo_eq rfl rfl rfl ?_ | (refine depGo_fact rfl rfl rfl ?_; intro v hv) | refine depGo_skip rfl ?_ | refine depGo_none rfl ?_)); apply Pure1.mk; intro K hk; exact W_index (by first | rfl | assumption) (by first | rfl | assumption) (by first | assumption | omega | decide) (by first | rfl | assumption) hk)); (apply steps_cons; case h1 => (apply A_pure; intro c u H' w' hG; have hS' := hG.sub; have hS2' := hG.subOld; (repeat (first | refine depGo_eq rfl rfl rfl ?_ | (refine depGo_fact rfl rfl rfl ?_; intro v hv) | refine depGo_skip rfl ?_ | refine depGo_none rfl ?_)); apply Pure1.mk; intro K hk; exact W_loadOf (by first | rfl | assumption) (by assumption) (by first | assumption | omega) (by assumption) hk)))
          (apply steps_cons; case h1 => (apply A_pure; intro c u H' w' hG; have hS' := hG.sub; have hS2' := hG.subOld; (repeat (first | refine depGo_eq rfl rfl rfl ?_ | (refine depGo_fact rfl rfl rfl ?_; intro v hv) | refine depGo_skip rfl ?_ | refine depGo_none rfl ?_)); apply Pure1.mk; intro K hk; exact W_chgNeqB hd2 (by rfl) (by rfl) hk))
          (exact trivial)
        · (intro H' w' hG; (repeat (first | refine fin_eq rfl rfl ?_ | (refine fin_fact rfl ?_; intro v hv) | refine fin_none rfl ?_)); refine fin_nil ?_)
          (refine CW_true (by first | rfl | assumption) ?_; refine CW_seq ?_; refine CW_region rfl ?_; refine S_op ?_; refine W_assignBool (by first | rfl | assumption) ?_; refine S_nil ?_; refine CW_ret ?_)
          exact ⟨_, ResW_one (v := .bool _) rfl, _, hG2.trans hG, by simp [hne]⟩
    · have hin : i = l.length := by omega
      subst hin
      have he : l = m := hf.1 (by rw [List.drop_length, hlen, List.drop_length])
      (refine CW_seq ?_; refine CW_region rfl ?_; refine S_op ?_; refine W_lssF (by first | rfl | assumption) (by first | rfl | assumption) (by first | omega | rfl) ?_; refine S_nil ?_; refine CW_seq ?_; refine CW_false (by first | rfl | assumption) ?_; refine CW_exit ?_; refine CW_seq ?_; refine CW_region rfl ?_; refine S_op ?_; refine W_assignBool (by first | rfl | assumption) ?_; refine S_nil ?_; refine CW_ret ?_)
      exact ⟨_, ResW_one (v := .bool _) rfl, _, hG2, by simp [he]⟩
  · have hne : l ≠ m := fun e => hlen (by rw [e])
    (refine CW_seq ?_; refine CW_region rfl ?_; refine S_op ?_; refine W_assignBool (by first | rfl | assumption) ?_; refine S_nil ?_; refine CW_seq ?_; refine CW_seq ?_; refine CW_region rfl ?_; refine S_op ?_; refine W_moveSl (by first | rfl | assumption) ?_; refine S_op ?_; refine W_len (by first | rfl | assumption) ?_; refine S_op ?_; refine W_moveSl (by first | rfl | assumption) ?_; refine S_op ?_; refine W_len (by first | rfl | assumption) ?_; refine S_op ?_; refine W_neqT (by first | rfl | assumption) (by first | rfl | assumption) (by first | omega | rfl) ?_; refine S_nil ?_; refine CW_true (by first | rfl | assumption) ?_; refine CW_seq ?_; refine CW_region rfl ?_; refine S_op ?_; refine W_assignBool (by first | rfl | assumption) ?_; refine S_nil ?_; refine CW_ret ?_)
    exact ⟨_, ResW_one (v := .bool _) rfl, H, Grow.refl hS, by simp [hne]⟩
end Go.Proofs.Ytnjeoobcejlojaa
