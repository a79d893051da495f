/- Picks of clients in memory, opened; few. Conditions: sizes. -/
import Derived.Test.YtglhnfficliaoaaCli4
import Derived.Test.YtglhnfficliaoaaOpen
namespace Go.Proofs.Ytglhnfficliaoaa
open Go.Proofs Go.RowKit
set_option linter.unusedVariables false
attribute [local irreducible] CW CWD SeqW OpW
set_option maxHeartbeats 4000000
/-- A pick: who, and the call. -/
structure Op16 where
  who : Nat
  x : Call
  deriving Inhabited
def op16C (o : Op16) : List Value := [.int .u8 (o.who : Int), .int .i64 o.x.kind, .string o.x.key, .string o.x.val]
def ops16 (l : List Op16) : List Value := (l.map op16C).flatten
def pick (l : List Op16) (i : Nat) : Op16 := l.getD i default
theorem pick_get {l : List Op16} {i : Nat} (h : i < l.length) : l[i]? = some (pick l i) := by simp [pick, h]
theorem pick_mem {l : List Op16} {i : Nat} (h : i < l.length) : pick l i ∈ l := List.mem_of_getElem? (pick_get h)
theorem ops16_cons (a : Op16) (l : List Op16) : ops16 (a :: l) = op16C a ++ ops16 l := by simp [ops16]
theorem ops16_len (l : List Op16) : (ops16 l).length = l.length * 4 := by
  induction l with
  | nil => rfl
  | cons a l ih => rw [ops16_cons, List.length_append, ih]; simp [op16C]; omega
theorem ops16_at : ∀ {l : List Op16} {i j : Nat}, i < l.length → j < 4 → (ops16 l)[i * 4 + j]? = (op16C (pick l i))[j]?
  | [], i, j, h, _ => by simp at h
  | d :: l, 0, j, _, hj => by
    rw [ops16_cons, Nat.zero_mul, Nat.zero_add, List.getElem?_append_left (by simp [op16C]; exact hj)]
    rfl
  | d :: l, i + 1, j, h, hj => by
    have ih := ops16_at (l := l) (i := i) (j := j) (by simpa using h) hj
    rw [ops16_cons, List.getElem?_append_right (by simp [op16C]; omega), show (i + 1) * 4 + j - (op16C d).length = i * 4 + j by simp [op16C]; omega, ih]
    simp [pick]
def PicksAt (H : HF) (A : Option Addr) (l : List Op16) : Prop := SlAt H A (ops16 l)
theorem PicksAt.mono {H H' : HF} {A : Option Addr} {l : List Op16} (h : PicksAt H A l) (hle : HLe H H') : PicksAt H' A l := SlAt.mono h hle
theorem PicksAt.some {H : HF} {A : Option Addr} {l : List Op16} (h : PicksAt H A l) {i : Nat} (hi : i < l.length) : ∃ b off, A = some ⟨b, off, none⟩ ∧ Row H b off (ops16 l) := by
  rcases h with h | h
  · have := ops16_len l; rw [h] at this; simp only [List.length_nil] at this; omega
  · exact h
section
variable {P : Program} {r : Option Nat} {f : Fr} {H : HF} {w : World} {K : Value → World → Prop} {d : Option Nat} {ty : TypeId} {pos : String} {af : Array Edge} {g : Option (Nat × Bool)} {T T' : TypeId} {x y : Operand} {b o q : Nat} {l : List Op16}
theorem pick_cell {j : Nat} {v : Value} [TyOne P T] (hx : ev f x = .pointer (some ⟨b, o + q * 4 + j, none⟩)) (hb : Row H b o (ops16 l)) (hq : q < l.length) (hv : (op16C (pick l q))[j]? = some v) (hS : Sub H w) (hk : K v w) : OpW P r ⟨d, .load T x, ty, pos, af, g⟩ f w K := by
  have hj9 : j < 4 := (List.getElem?_eq_some_iff.1 hv).1
  exact W_loadRow (j := q * 4 + j) (by rw [hx, Nat.add_assoc]) hb (by rw [ops16_at hq hj9]; exact hv) hS hk
theorem W_loadOm [TyOne P T] (hx : ev f x = .pointer (some ⟨b, o + q * 4 + 0, none⟩)) (hb : Row H b o (ops16 l)) (hq : q < l.length) (hS : Sub H w) (hk : K (.int .u8 ((pick l q).who : Int)) w) : OpW P r ⟨d, .load T x, ty, pos, af, g⟩ f w K := pick_cell hx hb hq rfl hS hk
theorem W_loadOn [TyAgg P T] [TySize P T 3] (hx : ev f x = .pointer (some ⟨b, o + q * 4 + 1, none⟩)) (hb : Row H b o (ops16 l)) (hq : q < l.length) (hS : Sub H w) (hk : K (.agg (callCells (pick l q).x).toArray) w) : OpW P r ⟨d, .load T x, ty, pos, af, g⟩ f w K := by
  obtain ⟨c, E, fr, h1, h2⟩ := hb
  refine W_loadAgg (s := 3) (cs := callCells (pick l q).x) hx rfl ?_ hk
  intro j v hj
  have hj3 : j < 3 := (List.getElem?_eq_some_iff.1 hj).1
  rw [add_lit']
  refine hS.cell h1 ?_
  rw [Nat.add_assoc, Nat.add_assoc]
  refine h2 _ _ ?_
  rw [ops16_at hq (by omega), Nat.add_comm 1 j]
  exact hj
theorem W_loadOo [TyOne P T] (hx : ev f x = .pointer (some ⟨b, o + q * 4 + 1 + 0, none⟩)) (hb : Row H b o (ops16 l)) (hq : q < l.length) (hS : Sub H w) (hk : K (.int .i64 (pick l q).x.kind) w) : OpW P r ⟨d, .load T x, ty, pos, af, g⟩ f w K := pick_cell (j := 1) hx hb hq rfl hS hk
theorem W_loadOp [TyOne P T] (hx : ev f x = .pointer (some ⟨b, o + q * 4 + 1 + 1, none⟩)) (hb : Row H b o (ops16 l)) (hq : q < l.length) (hS : Sub H w) (hk : K (.string (pick l q).x.key) w) : OpW P r ⟨d, .load T x, ty, pos, af, g⟩ f w K := pick_cell (j := 2) (by rw [hx]) hb hq rfl hS hk
theorem W_loadOq [TyOne P T] (hx : ev f x = .pointer (some ⟨b, o + q * 4 + 1 + 2, none⟩)) (hb : Row H b o (ops16 l)) (hq : q < l.length) (hS : Sub H w) (hk : K (.string (pick l q).x.val) w) : OpW P r ⟨d, .load T x, ty, pos, af, g⟩ f w K := pick_cell (j := 3) (by rw [hx]) hb hq rfl hS hk
end
def Op16.Ok (o : Op16) : Prop := o.x.key.size ≤ reachBytes ∧ o.x.val.size ≤ reachBytes
theorem few16_c (H : HF) (A : Option Addr) (c : Nat) (l : List Op16) (hl : PicksAt H A l) (hb : l.length ≤ 100000000000000) (hs : ∀ o ∈ l, o.x.key.size ≤ 150000000000000 ∧ o.x.val.size ≤ 150000000000000) :
    Fn Try.prog 23 [.slice A l.length c] H fun v _ => ∃ z, v = .bool z ∧ (z = true → l.length ≤ 400) := by
  refine Fn_of_CW Try.func23 rfl Try.ntmps23 Try.results23 rfl fun w hS => ?_; have hG := Grow.refl hS; have hS0 := hS
  by_cases h3 : 400 < l.length
  · (refine CW_seq ?_; refine CW_region rfl ?_; refine S_op ?_; refine W_assignBool (by first | rfl | assumption) ?_; refine S_nil ?_; refine CW_seq ?_; refine CW_seq ?_; refine CW_region rfl ?_; refine S_op ?_; refine W_moveSl (by first | rfl | assumption) ?_; refine S_op ?_; refine W_len (by first | rfl | assumption) ?_; refine S_op ?_; refine W_gtrT (by first | rfl | assumption) (by first | rfl | assumption) (by first | omega | rfl) ?_; refine S_nil ?_; refine CW_true (by first | rfl | assumption) ?_; refine CW_seq ?_; refine CW_region rfl ?_; refine S_op ?_; refine W_assignBool (by first | rfl | assumption) ?_; refine S_nil ?_; refine CW_ret ?_)
    exact ⟨_, ResW_one (v := .bool _) rfl, H, hG, false, rfl, fun h => by cases h⟩
  (refine CW_seq ?_; refine CW_region rfl ?_; refine S_op ?_; refine W_assignBool (by first | rfl | assumption) ?_; refine S_nil ?_; refine CW_seq ?_; refine CW_seq ?_; refine CW_region rfl ?_; refine S_op ?_; refine W_moveSl (by first | rfl | assumption) ?_; refine S_op ?_; refine W_len (by first | rfl | assumption) ?_; refine S_op ?_; refine W_gtrF (by first | rfl | assumption) (by first | rfl | assumption) (by first | omega | rfl) ?_; refine S_nil ?_; refine CW_false (by first | rfl | assumption) ?_; refine CW_skip ?_; refine CW_seq ?_; refine CW_seq ?_; refine CW_region rfl ?_; refine S_op ?_; refine W_moveSl (by first | rfl | assumption) ?_; refine S_op ?_; refine W_len (by first | rfl | assumption) ?_; refine S_op ?_; refine W_moveInt (by first | rfl | assumption) ?_; refine S_nil ?_; refine CW_block ?_)
  refine CW_loopM [2, 3, 9, 10, 11, 12, 13, 14, 15, 16, 17, 18, 19, 20, 21, 22, 23, 24, 25, 26, 27, 28]
    (fun m u w2 => ∃ (i : Nat) (H2 : HF), u 9 = .int .i64 (i : Int) ∧ Grow H w H2 w2 ∧ i ≤ l.length ∧ l.length - i ≤ m)
    (m := l.length) ⟨0, H, rfl, hG, by omega, by omega⟩ ?_
  rintro m u w2 ⟨i, H2, h9, hG, hi, hm⟩
  have hS := hG.sub
  replace hl := hl.mono hG.le
  have hG9 := hG
  by_cases hlt : i < l.length
  · obtain ⟨b, off, rfl, hrow⟩ := hl.some hlt
    have hsz := hs (pick l i) (pick_mem hlt)
    by_cases hbig : 2000 < (pick l i).x.key.size + (pick l i).x.val.size
    · (refine CW_seq ?_; refine CW_region rfl ?_; refine S_op ?_; refine W_lssT (by first | rfl | assumption) (by first | rfl | assumption) (by first | omega | rfl) ?_; refine S_nil ?_; refine CW_seq ?_; refine CW_true (by first | rfl | assumption) ?_; refine CW_skip ?_; refine CW_seq ?_; refine CW_block ?_; refine CW_seq ?_; refine CW_region rfl ?_; refine S_op ?_; refine W_moveInt (by first | rfl | assumption) ?_; refine S_op ?_; refine W_assignInt (by first | rfl | assumption) ?_; refine S_nil ?_; refine CW_seq ?_)
      apply CW_region_grow [_, _, _, _, _, _, _, _, _, _, _, _, _, _, _, _] [none, none, none, none, none, none, none, none, none, none, none, none, none, none, none, none] [some 12, some 13, some 14, some 15, some 16, some 17, some 18, some 19, some 20, some 21, some 22, some 23, some 24, some 25, some 26, some 27] [12, 13, 14, 15, 16, 17, 18, 19, 20, 21, 22, 23, 24, 25, 26, 27] mixed rfl rfl rfl rfl (by decide) rfl (by assumption)
      · ((apply steps_cons; case h1 => (apply A_pure; intro c u H' w' hG; have hS' := hG.sub; have hS2' := hG.subOld; (repeat (first | refine depGo_eq rfl rfl rfl ?_ | (refine depGo_fact rfl rfl rfl ?_; intro v hv) | refine depGo_skip rfl ?_ | refine depGo_none rfl ?_)); apply Pure1.mk; intro K hk; exact W_moveSl (by first | rfl | assumption) hk)); (apply steps_cons; case h1 => (apply A_pure; intro c u H' w' hG; have hS' := hG.sub; have hS2' := hG.subOld; (repeat (first | refine depGo_eq rfl rfl rfl ?_ | (refine depGo_fact rfl rfl rfl ?_; intro v hv) | refine depGo_skip rfl ?_ | refine depGo_none rfl ?_)); apply Pure1.mk; intro K hk; exact W_moveInt (by first | rfl | assumption) hk)); (apply steps_cons; case h1 => (apply A_pure; intro c u H' w' hG; have hS' := hG.sub; have hS2' := hG.subOld; (repeat (first | refine depGo_eq rfl rfl rfl ?_ | (refine depGo_fact rfl rfl rfl ?_; intro v hv) | refine depGo_skip rfl ?_ | refine depGo_none rfl ?_)); apply Pure1.mk; intro K hk; exact W_index (by first | rfl | assumption) (by first | rfl | assumption) (by first | assumption | omega | decide) (by first | rfl | assumption) hk)); (apply steps_cons; case h1 => (apply A_pure; intro c u H' w' hG; have hS' := hG.sub; have hS2' := hG.subOld; (repeat (first | refine depGo_eq rfl rfl rfl ?_ | (refine depGo_fact rfl rfl rfl ?_; intro v hv) | refine depGo_skip rfl ?_ | refine depGo_none rfl ?_)); apply Pure1.mk; intro K hk; exact W_field (by first | rfl | assumption) hk)); (apply steps_cons; case h1 => (apply A_pure; intro c u H' w' hG; have hS' := hG.sub; have hS2' := hG.subOld; (repeat (first | refine depGo_eq rfl rfl rfl ?_ | (refine depGo_fact rfl rfl rfl ?_; intro v hv) | refine depGo_skip rfl ?_ | refine depGo_none rfl ?_)); apply Pure1.mk; intro K hk; exact W_field (by first | rfl | assumption) hk)); (apply steps_cons; case h1 => (apply A_pure; intro c u H' w' hG; have hS' := hG.sub; have hS2' := hG.subOld; (repeat (first | refine depGo_eq rfl rfl rfl ?_ | (refine depGo_fact rfl rfl rfl ?_; intro v hv) | refine depGo_skip rfl ?_ | refine depGo_none rfl ?_)); apply Pure1.mk; intro K hk; exact W_loadOp (by first | rfl | assumption) (by assumption) (by first | assumption | omega) (by assumption) hk)); (apply steps_cons; case h1 => (apply A_pure; intro c u H' w' hG; have hS' := hG.sub; have hS2' := hG.subOld; (repeat (first | refine depGo_eq rfl rfl rfl ?_ | (refine depGo_fact rfl rfl rfl ?_; intro v hv) | refine depGo_skip rfl ?_ | refine depGo_none rfl ?_)); apply Pure1.mk; intro K hk; exact W_lenS (by first | rfl | assumption) hk)); (apply steps_cons; case h1 => (apply A_pure; intro c u H' w' hG; have hS' := hG.sub; have hS2' := hG.subOld; (repeat (first | refine depGo_eq rfl rfl rfl ?_ | (refine depGo_fact rfl rfl rfl ?_; intro v hv) | refine depGo_skip rfl ?_ | refine depGo_none rfl ?_)); apply Pure1.mk; intro K hk; exact W_moveSl (by first | rfl | assumption) hk)); (apply steps_cons; case h1 => (apply A_pure; intro c u H' w' hG; have hS' := hG.sub; have hS2' := hG.subOld; (repeat (first | refine depGo_eq rfl rfl rfl ?_ | (refine depGo_fact rfl rfl rfl ?_; intro v hv) | refine depGo_skip rfl ?_ | refine depGo_none rfl ?_)); apply Pure1.mk; intro K hk; exact W_moveInt (by first | rfl | assumption) hk)); (apply steps_cons; case h1 => (apply A_pure; intro c u H' w' hG; have hS' := hG.sub; have hS2' := hG.subOld; (repeat (first | refine depGo_eq rfl rfl rfl ?_ | (refine depGo_fact rfl rfl rfl ?_; intro v hv) | refine depGo_skip rfl ?_ | refine depGo_none rfl ?_)); apply Pure1.mk; intro K hk; exact W_index (by first | rfl | assumption) (by first | rfl | assumption) (by first | assumption | omega | decide) (by first | rfl | assumption) hk)); (apply steps_cons; case h1 => (apply A_pure; intro c u H' w' hG; have hS' := hG.sub; have hS2' := hG.subOld; (repeat (first | refine depGo_eq rfl rfl rfl ?_ | (refine depGo_fact rfl rfl rfl ?_; intro v hv) | refine depGo_skip rfl ?_ | refine depGo_none rfl ?_)); apply Pure1.mk; intro K hk; exact W_field (by first | rfl | assumption) hk)); (apply steps_cons; case h1 => (apply A_pure; intro c u H' w' hG; have hS' := hG.sub; have hS2' := hG.subOld; (repeat (first | refine depGo_eq rfl rfl rfl ?_ | (refine depGo_fact rfl rfl rfl ?_; intro v hv) | refine depGo_skip rfl ?_ | refine depGo_none rfl ?_)); apply Pure1.mk; intro K hk; exact W_field (by first | rfl | assumption) hk)); (apply steps_cons; case h1 => (apply A_pure; intro c u H' w' hG; have hS' := hG.sub; have hS2' := hG.subOld; (repeat (first | refine depGo_eq rfl rfl rfl ?_ | (refine depGo_fact rfl rfl rfl ?_; intro v hv) | refine depGo_skip rfl ?_ | refine depGo_none rfl ?_)); apply Pure1.mk; intro K hk; exact W_loadOq (by first | rfl | assumption) (by assumption) (by first | assumption | omega) (by assumption) hk)); (apply steps_cons; case h1 => (apply A_pure; intro c u H' w' hG; have hS' := hG.sub; have hS2' := hG.subOld; (repeat (first | refine depGo_eq rfl rfl rfl ?_ | (refine depGo_fact rfl rfl rfl ?_; intro v hv) | refine depGo_skip rfl ?_ | refine depGo_none rfl ?_)); apply Pure1.mk; intro K hk; exact W_lenS (by first | rfl | assumption) hk)); (apply steps_cons; case h1 => (apply A_pure; intro c u H' w' hG; have hS' := hG.sub; have hS2' := hG.subOld; (repeat (first | refine depGo_eq rfl rfl rfl ?_ | (refine depGo_fact rfl rfl rfl ?_; intro v hv) | refine depGo_skip rfl ?_ | refine depGo_none rfl ?_)); apply Pure1.mk; intro K hk; exact W_addN (by first | rfl | assumption) (by first | rfl | assumption) (by omega) hk)); (apply steps_cons; case h1 => (apply A_pure; intro c u H' w' hG; have hS' := hG.sub; have hS2' := hG.subOld; (repeat (first | refine depGo_eq rfl rfl rfl ?_ | (refine depGo_fact rfl rfl rfl ?_; intro v hv) | refine depGo_skip rfl ?_ | refine depGo_none rfl ?_)); apply Pure1.mk; intro K hk; exact W_gtrT (by first | rfl | assumption) (by first | rfl | assumption) (by first | omega | rfl) hk)); exact trivial)
      · (intro H' w' hG; (repeat (first | refine fin_eq rfl rfl ?_ | (refine fin_fact rfl ?_; intro v hv) | refine fin_none rfl ?_)); refine fin_nil ?_)
        (refine CW_true (by first | rfl | assumption) ?_; refine CW_seq ?_; refine CW_region rfl ?_; refine S_op ?_; refine W_assignBool (by first | rfl | assumption) ?_; refine S_nil ?_; refine CW_ret ?_)
        exact ⟨_, ResW_one (v := .bool _) rfl, _, hG9.trans hG, false, rfl, fun h => by cases h⟩
    · (refine CW_seq ?_; refine CW_region rfl ?_; refine S_op ?_; refine W_lssT (by first | rfl | assumption) (by first | rfl | assumption) (by first | omega | rfl) ?_; refine S_nil ?_; refine CW_seq ?_; refine CW_true (by first | rfl | assumption) ?_; refine CW_skip ?_; refine CW_seq ?_; refine CW_block ?_; refine CW_seq ?_; refine CW_region rfl ?_; refine S_op ?_; refine W_moveInt (by first | rfl | assumption) ?_; refine S_op ?_; refine W_assignInt (by first | rfl | assumption) ?_; refine S_nil ?_; refine CW_seq ?_)
      apply CW_region_grow [_, _, _, _, _, _, _, _, _, _, _, _, _, _, _, _] [none, none, none, none, none, none, none, none, none, none, none, none, none, none, none, none] [some 12, some 13, some 14, some 15, some 16, some 17, some 18, some 19, some 20, some 21, some 22, some 23, some 24, some 25, some 26, some 27] [12, 13, 14, 15, 16, 17, 18, 19, 20, 21, 22, 23, 24, 25, 26, 27] mixed rfl rfl rfl rfl (by decide) rfl (by assumption)
      · ((apply steps_cons; case h1 => (apply A_pure; intro c u H' w' hG; have hS' := hG.sub; have hS2' := hG.subOld; (repeat (first | refine depGo_eq rfl rfl rfl ?_ | (refine depGo_fact rfl rfl rfl ?_; intro v hv) | refine depGo_skip rfl ?_ | refine depGo_none rfl ?_)); apply Pure1.mk; intro K hk; exact W_moveSl (by first | rfl | assumption) hk)); (apply steps_cons; case h1 => (apply A_pure; intro c u H' w' hG; have hS' := hG.sub; have hS2' := hG.subOld; (repeat (first | refine depGo_eq rfl rfl rfl ?_ | (refine depGo_fact rfl rfl rfl ?_; intro v hv) | refine depGo_skip rfl ?_ | refine depGo_none rfl ?_)); apply Pure1.mk; intro K hk; exact W_moveInt (by first | rfl | assumption) hk)); (apply steps_cons; case h1 => (apply A_pure; intro c u H' w' hG; have hS' := hG.sub; have hS2' := hG.subOld; (repeat (first | refine depGo_eq rfl rfl rfl ?_ | (refine depGo_fact rfl rfl rfl ?_; intro v hv) | refine depGo_skip rfl ?_ | refine depGo_none rfl ?_)); apply Pure1.mk; intro K hk; exact W_index (by first | rfl | assumption) (by first | rfl | assumption) (by first | assumption | omega | decide) (by first | rfl | assumption) hk)); (apply steps_cons; case h1 => (apply A_pure; intro c u H' w' hG; have hS' := hG.sub; have hS2' := hG.subOld; (repeat (first | refine depGo_eq rfl rfl rfl ?_ | (refine depGo_fact rfl rfl rfl ?_; intro v hv) | refine depGo_skip rfl ?_ | refine depGo_none rfl ?_)); apply Pure1.mk; intro K hk; exact W_field (by first | rfl | assumption) hk)); (apply steps_cons; case h1 => (apply A_pure; intro c u H' w' hG; have hS' := hG.sub; have hS2' := hG.subOld; (repeat (first | refine depGo_eq rfl rfl rfl ?_ | (refine depGo_fact rfl rfl rfl ?_; intro v hv) | refine depGo_skip rfl ?_ | refine depGo_none rfl ?_)); apply Pure1.mk; intro K hk; exact W_field (by first | rfl | assumption) hk)); (apply steps_cons; case h1 => (apply A_pure; intro c u H' w' hG; have hS' := hG.sub; have hS2' := hG.subOld; (repeat (first | refine depGo_eq rfl rfl rfl ?_ | (refine depGo_fact rfl rfl rfl ?_; intro v hv) | refine depGo_skip rfl ?_ | refine depGo_none rfl ?_)); apply Pure1.mk; intro K hk; exact W_loadOp (by first | rfl | assumption) (by assumption) (by first | assumption | omega) (by assumption) hk)); (apply steps_cons; case h1 => (apply A_pure; intro c u H' w' hG; have hS' := hG.sub; have hS2' := hG.subOld; (repeat (first | refine depGo_eq rfl rfl rfl ?_ | (refine depGo_fact rfl rfl rfl ?_; intro v hv) | refine depGo_skip rfl ?_ | refine depGo_none rfl ?_)); apply Pure1.mk; intro K hk; exact W_lenS (by first | rfl | assumption) hk)); (apply steps_cons; case h1 => (apply A_pure; intro c u H' w' hG; have hS' := hG.sub; have hS2' := hG.subOld; (repeat (first | refine depGo_eq rfl rfl rfl ?_ | (refine depGo_fact rfl rfl rfl ?_; intro v hv) | refine depGo_skip rfl ?_ | refine depGo_none rfl ?_)); apply Pure1.mk; intro K hk; exact W_moveSl (by first | rfl | assumption) hk)); (apply steps_cons; case h1 => (apply A_pure; intro c u H' w' hG; have hS' := hG.sub; have hS2' := hG.subOld; (repeat (first | refine depGo_eq rfl rfl rfl ?_ | (refine depGo_fact rfl rfl rfl ?_; intro v hv) | refine depGo_skip rfl ?_ | refine depGo_none rfl ?_)); apply Pure1.mk; intro K hk; exact W_moveInt (by first | rfl | assumption) hk)); (apply steps_cons; case h1 => (apply A_pure; intro c u H' w' hG; have hS' := hG.sub; have hS2' := hG.subOld; (repeat (first | refine depGo_eq rfl rfl rfl ?_ | (refine depGo_fact rfl rfl rfl ?_; intro v hv) | refine depGo_skip rfl ?_ | refine depGo_none rfl ?_)); apply Pure1.mk; intro K hk; exact W_index (by first | rfl | assumption) (by first | rfl | assumption) (by first | assumption | omega | decide) (by first | rfl | assumption) hk)); (apply steps_cons; case h1 => (apply A_pure; intro c u H' w' hG; have hS' := hG.sub; have hS2' := hG.subOld; (repeat (first | refine depGo_eq rfl rfl rfl ?_ | (refine depGo_fact rfl rfl rfl ?_; intro v hv) | refine depGo_skip rfl ?_ | refine depGo_none rfl ?_)); apply Pure1.mk; intro K hk; exact W_field (by first | rfl | assumption) hk)); (apply steps_cons; case h1 => (apply A_pure; intro c u H' w' hG; have hS' := hG.sub; have hS2' := hG.subOld; (repeat (first | refine depGo_eq rfl rfl rfl ?_ | (refine depGo_fact rfl rfl rfl ?_; intro v hv) | refine depGo_skip rfl ?_ | refine depGo_none rfl ?_)); apply Pure1.mk; intro K hk; exact W_field (by first | rfl | assumption) hk)); (apply steps_cons; case h1 => (apply A_pure; intro c u H' w' hG; have hS' := hG.sub; have hS2' := hG.subOld; (repeat (first | refine depGo_eq rfl rfl rfl ?_ | (refine depGo_fact rfl rfl rfl ?_; intro v hv) | refine depGo_skip rfl ?_ | refine depGo_none rfl ?_)); apply Pure1.mk; intro K hk; exact W_loadOq (by first | rfl | assumption) (by assumption) (by first | assumption | omega) (by assumption) hk)); (apply steps_cons; case h1 => (apply A_pure; intro c u H' w' hG; have hS' := hG.sub; have hS2' := hG.subOld; (repeat (first | refine depGo_eq rfl rfl rfl ?_ | (refine depGo_fact rfl rfl rfl ?_; intro v hv) | refine depGo_skip rfl ?_ | refine depGo_none rfl ?_)); apply Pure1.mk; intro K hk; exact W_lenS (by first | rfl | assumption) hk)); (apply steps_cons; case h1 => (apply A_pure; intro c u H' w' hG; have hS' := hG.sub; have hS2' := hG.subOld; (repeat (first | refine depGo_eq rfl rfl rfl ?_ | (refine depGo_fact rfl rfl rfl ?_; intro v hv) | refine depGo_skip rfl ?_ | refine depGo_none rfl ?_)); apply Pure1.mk; intro K hk; exact W_addN (by first | rfl | assumption) (by first | rfl | assumption) (by omega) hk)); (apply steps_cons; case h1 => (apply A_pure; intro c u H' w' hG; have hS' := hG.sub; have hS2' := hG.subOld; (repeat (first | refine depGo_eq rfl rfl rfl ?_ | (refine depGo_fact rfl rfl rfl ?_; intro v hv) | refine depGo_skip rfl ?_ | refine depGo_none rfl ?_)); apply Pure1.mk; intro K hk; exact W_gtrF (by first | rfl | assumption) (by first | rfl | assumption) (by first | omega | rfl) hk)); exact trivial)
      · (intro H' w' hG; (repeat (first | refine fin_eq rfl rfl ?_ | (refine fin_fact rfl ?_; intro v hv) | refine fin_none rfl ?_)); refine fin_nil ?_)
        (refine CW_false (by first | rfl | assumption) ?_; refine CW_skip ?_; refine CW_region rfl ?_; refine S_op ?_; refine W_add1 (by first | rfl | assumption) (by omega) ?_; refine S_op ?_; refine W_moveInt (by first | rfl | assumption) ?_; refine S_nil ?_)
        exact ⟨(by repeat (first | exact AgreeOff.over | refine AgreeOff.upd rfl ?_ | refine AgreeOff.over2 rfl ?_)), m - 1, by omega, i + 1, _, rfl, hG9.trans hG, by omega, by omega⟩
  · have hin : i = l.length := by omega
    subst hin
    (refine CW_seq ?_; refine CW_region rfl ?_; refine S_op ?_; refine W_lssF (by first | rfl | assumption) (by first | rfl | assumption) (by first | omega | rfl) ?_; refine S_nil ?_; refine CW_seq ?_; refine CW_false (by first | rfl | assumption) ?_; refine CW_exit ?_; refine CW_seq ?_; refine CW_region rfl ?_; refine S_op ?_; refine W_assignBool (by first | rfl | assumption) ?_; refine S_nil ?_; refine CW_ret ?_)
    exact ⟨_, ResW_one (v := .bool _) rfl, _, hG, true, rfl, fun _ => by omega⟩
/-! ### Openers -/
section
variable {H : Type} {enc : TypeId × Value → H} {W : World}
theorem readCall {cs : List Value} (h : Trd enc Try.prog W 43 cs) : ∃ x, cs = callCells x ∧ x.key.size ≤ reachBytes ∧ x.val.size ≤ reachBytes := by
  obtain ⟨h1, h2, h3, h4, _⟩ := h.struct
  match cs, h1 with
  | [a, b, c], _ =>
    obtain ⟨n, e1, _⟩ := h2.int
    obtain ⟨s, e2, w2⟩ := h3.str
    obtain ⟨t, e3, w3⟩ := h4.str
    simp at e1 e2 e3
    subst e1 e2 e3
    exact ⟨⟨n, s, t⟩, rfl, w2, w3⟩
theorem openCall {v : Value} (h : Opn enc Try.prog W 43 v) : ∃ x, v = .agg (callCells x).toArray ∧ x.key.size ≤ reachBytes ∧ x.val.size ≤ reachBytes := by
  obtain ⟨cs, rfl, _, _⟩ := h.struct
  obtain ⟨e, h1, h2⟩ := readCall h.2
  simp [Value.cells] at h1
  subst h1
  exact ⟨e, rfl, h2⟩
theorem readOp16 {cs : List Value} (h : Trd enc Try.prog W 63 cs) : ∃ o, cs = op16C o ∧ o.Ok := by
  obtain ⟨h1, h2, h3, _⟩ := h.struct
  match cs, h1 with
  | [a, b, c, d], _ =>
    obtain ⟨n, e1, hw⟩ := h2.int
    obtain ⟨x, e2, w2⟩ := readCall h3
    have hw : IntKind.u8.min ≤ n ∧ n ≤ IntKind.u8.max := by simpa [Lit.wf] using hw
    have h0 : (0 : Int) ≤ n := hw.1
    obtain ⟨q, rfl⟩ := Int.eq_ofNat_of_zero_le h0
    simp [callCells] at e1 e2
    obtain ⟨rfl, rfl, rfl⟩ := e2
    subst e1
    exact ⟨⟨q, x⟩, rfl, w2⟩
theorem openOps16 {v : Value} (h : Opn enc Try.prog W 61 v) : ∃ A c l, v = .slice A l.length c ∧ l.length ≤ c ∧ PicksAt (snap W) A l ∧ (∀ o ∈ l, o.Ok) ∧ l.length * 32 ≤ reachBytes := by
  obtain ⟨A, n, c, css, rfl, h2, h3, h4, h5, h6, h7⟩ := h.slice
  obtain ⟨l, rfl, hl⟩ := decode op16C Op16.Ok css (fun x hx => readOp16 (h4 x hx).1)
  simp at h3
  subst h3
  exact ⟨A, c, l, rfl, h2, h5, hl, by omega⟩
end
end Go.Proofs.Ytglhnfficliaoaa
