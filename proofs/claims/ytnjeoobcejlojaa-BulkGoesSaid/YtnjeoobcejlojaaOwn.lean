/- Slices of the call's own: append, make, and how such a slice joins the persistent part. Conditions: each law's own premises. -/
import Derived.Test.YtnjeoobcejlojaaRep
import Derived.Laws.MakeOwn
import Derived.ArgAppend
namespace Go.Proofs.Ytnjeoobcejlojaa
open Go.RowKit
set_option linter.unusedVariables false
set_option linter.unusedSimpArgs false

/-- Cells that can be read in a world behind a slice's address. -/
def Cells (w : World) (A : Option Addr) (cs : List Value) : Prop := cs = [] ∨ ∃ b off, A = some ⟨b, off, none⟩ ∧ ∀ (j : Nat) (u : Value), cs[j]? = some u → w.cell? ⟨b, off + j, none⟩ = some u
theorem SlAt.cells {H : HF} {w : World} {A : Option Addr} {cs : List Value} (h : SlAt H A cs) (hS : Sub H w) : Cells w A cs := by
  rcases h with h | ⟨b, off, h1, c, E, fr, h2, h3⟩
  · exact .inl h
  · exact .inr ⟨b, off, h1, fun j u hj => hS.cell h2 (h3 j u hj)⟩
def OneCells (cs : List Value) : Prop := ∀ u ∈ cs, u.oneCell' = true
theorem entCells_one (l : List Ent) : OneCells (entCells l) := by
  induction l with
  | nil => intro u h; cases h
  | cons e l ih =>
    intro u h
    simp only [entCells, List.mem_cons] at h
    rcases h with rfl | rfl | h
    · rfl
    · rfl
    · exact ih u h
/-- A slice of the call's own: nil, or a whole new block that is no part of the persistent heap. -/
structure Own (H : HF) (w : World) (B : Nat) (E : TypeId) (sz : Nat) (A : Option Addr) (n cap : Nat) (xs : List Value) : Prop where
  row : w.ownsRow B E sz (.slice A n cap) n xs
  out : ∀ a, A = some a → H a.block = none
theorem Own.nil (H : HF) (w : World) (B : Nat) (E : TypeId) (sz : Nat) : Own H w B E sz none 0 0 [] := ⟨World.ownsRow_nil _ _ _ _, fun a h => by cases h⟩
theorem Own.len {H : HF} {w : World} {B : Nat} {E : TypeId} {sz : Nat} {A : Option Addr} {n cap : Nat} {xs : List Value} (h : Own H w B E sz A n cap xs) : xs.length = n * sz := h.row.1
theorem Own.cells {H : HF} {w : World} {B : Nat} {E : TypeId} {sz : Nat} {A : Option Addr} {n cap : Nat} {xs : List Value} (h : Own H w B E sz A n cap xs) : Cells w A xs := by
  rcases h.row.2 with ⟨h1, h2⟩ | ⟨g, cap', cur, hv, hrest⟩
  · have := h.row.1; subst h2; left; exact List.eq_nil_of_length_eq_zero (by simpa using this)
  · right
    have hA : A = some ⟨g, 0, none⟩ := by simp at hv; exact hv.1
    refine ⟨g, 0, hA, fun j u hj => ?_⟩
    have := h.row.cells (g := g) (by simp [Value.ownBlock, hA]) j u hj
    rw [add_lit'] at this
    exact this
/-- The block lies in the world, from the call's beginning on. -/
theorem Own.block {H : HF} {w : World} {B : Nat} {E : TypeId} {sz : Nat} {A : Option Addr} {n cap : Nat} {xs : List Value} (h : Own H w B E sz A n cap xs) {a : Addr} (ha : A = some a) : B ≤ a.block ∧ a.block < w.heap.size := by
  subst ha
  exact h.row.lt a.block rfl
/-- Behind a call that turns nothing that lay there. -/
theorem Own.grow {H H' : HF} {w w' : World} {B : Nat} {E : TypeId} {sz : Nat} {A : Option Addr} {n cap : Nat} {xs : List Value} (h : Own H w B E sz A n cap xs) (hg : Grow H w H' w') : Own H' w' B E sz A n cap xs := by
  refine ⟨h.row.kept (row := none) ⟨hg.below.os, hg.below.tape, hg.below.output, hg.below.size, fun k hk _ => hg.below.block k hk⟩ ?_, fun a ha => ?_⟩
  · cases A <;> simp [Value.ownBlock]
  · rw [hg.old a.block (h.block ha).2]; exact h.out a ha
theorem Sub.grownBy {H : HF} {w w' : World} {row : Option Nat} (hS : Sub H w) (hg : w.grownBy w' row) (hr : ∀ g, row = some g → H g = none) : Sub H w' :=
  ⟨fun b o e => by rw [hg.block b (hS.lt e) (fun h => by rw [hr b h.symm] at e; cases e)]; exact hS.out b o e⟩
theorem Grow.grownBy {H0 H : HF} {w0 w w' : World} {row : Option Nat} (hG : Grow H0 w0 H w) (hg : w.grownBy w' row) (hr : ∀ g, row = some g → H g = none ∧ w0.heap.size ≤ g) : Grow H0 w0 H w' :=
  ⟨hG.below.grown hg hG.below.size (fun k hk => (hr k hk).2), hG.sub.grownBy hg fun g h => (hr g h).1, hG.le, hG.old⟩
/-- Another slice of the call's own, in another block. -/
theorem Own.other {H : HF} {w w' : World} {B : Nat} {E : TypeId} {sz : Nat} {A : Option Addr} {n cap : Nat} {xs : List Value} {row : Option Nat} (h : Own H w B E sz A n cap xs) (hg : w.grownBy w' row) (hne : ∀ a, A = some a → some a.block ≠ row) : Own H w' B E sz A n cap xs :=
  ⟨h.row.kept hg (by
    cases A with
    | none => left; rfl
    | some a => right; exact hne a rfl), h.out⟩
/-- A slice of the call's own joins the persistent part: it is not written any more. -/
theorem Own.freeze {H0 H : HF} {w0 w : World} {E : TypeId} {sz : Nat} {A : Option Addr} {n cap : Nat} {xs : List Value} (h : Own H w w0.heap.size E sz A n cap xs) (hG : Grow H0 w0 H w) :
    ∃ H', HLe H H' ∧ Grow H0 w0 H' w ∧ SlAt H' A xs ∧ (∀ b, (∀ a, A = some a → b ≠ a.block) → H' b = H b) := by
  rcases h.row.2 with ⟨h1, h2⟩ | ⟨g, cap', cur, hv, hbg, hg, hnc, hcm, hcs, htake⟩
  · refine ⟨H, HLe.refl H, hG, .inl ?_, fun _ _ => rfl⟩
    have := h.row.1; subst h2; exact List.eq_nil_of_length_eq_zero (by simpa using this)
  · have hA : A = some ⟨g, 0, none⟩ := by simp at hv; exact hv.1
    have hnone := h.out _ hA
    refine ⟨ins H g (.cells cur E (0, 0)), ?_, ⟨hG.below, ⟨?_⟩, ?_, ?_⟩, .inr ⟨g, 0, hA, cur, E, (0, 0), ins_self _ _ _, ?_⟩, ?_⟩
    · intro b o e
      rw [ins_other (by intro e2; subst e2; simp only at hnone; rw [hnone] at e; cases e)]; exact e
    · intro b o e
      by_cases hb : b = g
      · subst hb; rw [ins_self] at e; cases e; exact hg
      · rw [ins_other hb] at e; exact hG.sub.out b o e
    · intro b o e
      have h3 := hG.le b o e
      rw [ins_other (by intro e2; subst e2; simp only at hnone; rw [hnone] at h3; cases h3)]; exact h3
    · intro b hb
      rw [ins_other (by omega)]; exact hG.old b hb
    · intro i v hi
      rw [← htake, List.getElem?_take] at hi
      split at hi
      · simpa using hi
      · cases hi
    · intro b hb
      exact ins_other (hb _ hA)

theorem Own.cap {H : HF} {w : World} {B : Nat} {E : TypeId} {sz : Nat} {A : Option Addr} {n cap : Nat} {xs : List Value} (h : Own H w B E sz A n cap xs) : n ≤ cap := by
  rcases h.row.2 with ⟨h7, h8⟩ | ⟨g, cap', cur, hv, _, _, h5, _⟩
  · omega
  · simp at hv; omega
theorem Own.zero {H : HF} {w : World} {B : Nat} {E : TypeId} {sz : Nat} {A : Option Addr} {n cap : Nat} {xs : List Value} (h : Own H w B E sz A n cap xs) : Own H w B E sz A 0 cap [] := by
  refine ⟨⟨by simp, ?_⟩, h.out⟩
  rcases h.row.2 with ⟨h1, h2⟩ | ⟨g, cap', cur, hv, hbg, hg, hnc, hcm, hcs, htake⟩
  · simp at h1; exact .inl ⟨by simp [h1.1, h1.2.2], rfl⟩
  · simp at hv; exact .inr ⟨g, cap', cur, by simp [hv.1, hv.2], hbg, hg, by omega, hcm, hcs, by simp⟩
section
variable {P : Program} {r : Option Nat} {f : Fr} {H0 H : HF} {w0 w : World} {K : Value → World → Prop} {d : Option Nat} {ty : TypeId} {pos : String} {af : Array Edge} {g : Option (Nat × Bool)} {T E : TypeId} {x y i : Operand}
theorem run_append_none [TySlice P T E] {sz : Nat} [TySize P E sz] (A : Option Addr) (n cap m c : Nat) (B : Option Addr) (hn : n ≤ cap) (hm : m = 0) (ty : TypeId) :
    (Builtin.append_ #[T, T] ty #[.slice A n cap, .slice B m c]).run P w = .ok (.slice A n cap) w := by
  subst hm
  have e : (Builtin.firstCells sz 0 (.slice B 0 c)).run P w = .ok #[] w := by
    cases B <;> simp [Builtin.firstCells, loadCells, loadCellsFrom]
  cases A <;> simp [Builtin.append_, run_underlying (TySlice.out (P := P) (T := T)), TySize.size (P := P) (T := E), Builtin.lenOf, hn, e, storeCells]
/-- append of zeros to a nil slice (what Grow does). -/
theorem W_append_zeros [TySlice P T E] {TI : TypeId} {ki : IntKind} [TyInt P TI ki] {sz bs : Nat} [he : TyElem P E sz bs] [TySize P E sz] {m : Nat} (hx : ev f x = .slice none 0 0) (hy : ev f y = .int .i64 (m : Int))
    (hG : Grow H0 w0 H w) (hm0 : 0 < m) (h0 : 0 < sz) (hb : m * bs ≤ 140737488355328) (hm : m ≤ 4611686018427387904)
    (hk : ∀ A' cap' w' xs, Grow H0 w0 H w' → Grow H w H w' → Own H w' w0.heap.size E sz A' m cap' xs → (∃ g, A' = some ⟨g, 0, none⟩ ∧ w.heap.size ≤ g) → K (.slice A' m cap') w') :
    OpW P r ⟨d, .call { callee := .builtin .append, args := #[x, y], argTypes := #[T, TI] }, ty, pos, af, g⟩ f w K := by
  obtain ⟨ti, z, hi, hz1, hz2, hsz, rfl⟩ := he.out
  have hge := grownCap_ge w m 0 E
  have hcm : grownCap w m 0 E ≤ maxLen := grownCap_le_maxLen w m 0 E (by unfold maxLen; omega)
  have hrun : (Builtin.append_ #[T, TI] ty #[.slice none 0 0, .int .i64 (m : Int)]).run P w = .ok (.slice (some ⟨w.heap.size, 0, none⟩) m (grownCap w m 0 E)) (w.drew.alloc (.cells (Builtin.zeroCells z.cells m ++ Builtin.zeroCells z.cells (grownCap w m 0 E - m)) E)) := by
    have h1 : IntKind.i64.wrap (m : Int) = m := IntWalk.i64_in _ (by omega)
    have h2 : ¬ (m : Int) < 0 := by omega
    have h3 : ¬ (m : Int) * (ti.bytes : Int) > 2 ^ 48 := by
      rw [← Int.natCast_mul]; omega
    have h4 : ¬ m ≤ 0 := by omega
    have h5 : ¬ ((m : Int) > 9223372036854775807) := by omega
    have h6 : Builtin.nextslicecap m 0 = m := by unfold Builtin.nextslicecap; rw [if_pos (by omega)]
    have h7 : ¬ (m * ti.bytes > 281474976710656) := by omega
    have h8 : ¬ (m * sz = 0) := by have := Nat.mul_pos hm0 h0; omega
    have hti : ∀ w, (typeInfo E).run P w = .ok ti w := fun w => by simp only [typeInfo, Sem.run_bind, run_program, Result.andThen_ok, hi, Sem.run_pure]
    have hz3 : ∀ w, (zeroValue E).run P w = .ok z w := fun w => by simp only [zeroValue, Sem.run_bind, hti, Result.andThen_ok, hz1, Sem.run_pure]
    have h9 : Sem.run P (underlying T) w = .ok (.slice E) w := run_underlying TySlice.out w
    have h10 : Sem.run P (underlying TI) w = .ok (.int ki) w := run_underlying TyInt.out w
    unfold Builtin.append_
    simp only [List.getElem?_toArray, List.getElem?_cons_zero, List.getElem?_cons_succ, Sem.run_bind, h9, h10, Result.andThen_ok, TySize.size (P := P) (T := E), asInt, asIntOf, Sem.run_pure, h1, h2, hti, h3, if_false, if_true]
    rw [show (0 + (m : Int).toNat) = m by omega, if_neg h4]
    simp only [Sem.run_bind, Result.andThen_ok, hti, Sem.run_pure, Bool.not_true, Bool.false_eq_true, if_false, if_true, decide_true, true_or, and_true, IntKind.max_i64, h5, h6, show ¬ (m * ti.bytes > 2 ^ 48) by omega, Int.toNat_natCast, h8, hz3, run_choose, run_askRoom, run_firstCells_none]
    have e1 : (#[] ++ Builtin.zeroCells z.cells m) = Builtin.zeroCells z.cells m := by simp
    simp only [show (Question.appendCap m 0 E).forced = false from rfl, Bool.false_eq_true, if_false, Result.andThen_ok, newRow, Sem.run_bind, run_newObj, Sem.run_pure, e1]
    rfl
  have hrow : (w.drew.alloc (.cells (Builtin.zeroCells z.cells m ++ Builtin.zeroCells z.cells (grownCap w m 0 E - m)) E)).ownsRow w.heap.size E sz (.slice (some ⟨w.heap.size, 0, none⟩) m (grownCap w m 0 E)) m (Builtin.zeroCells z.cells m).toList := by
    refine ⟨by simp [size_zeroCells, hz2], .inr ⟨w.heap.size, _, _, rfl, Nat.le_refl _, heap_alloc_new w.drew _, hge, hcm, ?_, ?_⟩⟩
    · simp only [Array.size_append, size_zeroCells, hz2, ← Nat.add_mul]
      congr 1
      omega
    · rw [Array.toList_append, List.take_left']
      simp [size_zeroCells, hz2]
  have hgrow : w.grownBy (w.drew.alloc (.cells (Builtin.zeroCells z.cells m ++ Builtin.zeroCells z.cells (grownCap w m 0 E - m)) E)) none := ⟨rfl, rfl, rfl, by simp, fun k hk _ => Below.heap_alloc w.drew _ k hk⟩
  refine OpW_val (v := .slice (some ⟨w.heap.size, 0, none⟩) m (grownCap w m 0 E)) (w' := w.drew.alloc (.cells (Builtin.zeroCells z.cells m ++ Builtin.zeroCells z.cells (grownCap w m 0 E - m)) E)) (by simp) (by simp only [execOp, resolve, invoke, builtin, Sem.run_bind, Sem.run_pure, Result.andThen_ok, List.map_toArray, List.map_cons, List.map_nil, hx, hy, hrun]) ?_
  refine hk _ _ _ (Builtin.zeroCells z.cells m).toList (hG.grownBy hgrow (fun g h => by cases h)) ((Grow.refl hG.sub).grownBy hgrow (fun g h => by cases h)) ⟨⟨hrow.1, ?_⟩, fun a ha => by cases ha; exact hG.sub.fresh (Nat.le_refl _)⟩ ⟨_, rfl, Nat.le_refl _⟩
  rcases hrow.2 with ⟨h, _⟩ | ⟨g, cap, cur, h1, h2, h3⟩
  · simp at h
  · exact .inr ⟨g, cap, cur, h1, Nat.le_trans hG.below.size h2, h3⟩
/-- append to a slice of the call's own. -/
theorem W_append [TySlice P T E] {sz bs : Nat} [he : TyElem P E sz bs] [TySize P E sz] {A B : Option Addr} {n cap m c : Nat} {xs news : List Value} (hx : ev f x = .slice A n cap) (hy : ev f y = .slice B m c)
    (hG : Grow H0 w0 H w) (hown : Own H w w0.heap.size E sz A n cap xs) (hsrc : Cells w B news) (hl : news.length = m * sz) (h1 : OneCells news)
    (h0 : 0 < sz) (hb : (n + m) * bs ≤ 140737488355328) (hm : n + m ≤ 4611686018427387904)
    (hk : ∀ A' cap' w', Grow H0 w0 H w' → Own H w' w0.heap.size E sz A' (n + m) cap' (xs ++ news) → w.grownBy w' (Value.slice A n cap).ownBlock → ((A' = A ∧ cap' = cap) ∨ ∃ g, A' = some ⟨g, 0, none⟩ ∧ w.heap.size ≤ g) → K (.slice A' (n + m) cap') w') :
    OpW P r ⟨d, .call { callee := .builtin .append, args := #[x, y], argTypes := #[T, T] }, ty, pos, af, g⟩ f w K := by
  obtain ⟨ti, z, hi, hz1, hz2, hsz, rfl⟩ := he.out
  have hout : ∀ g, (Value.slice A n cap).ownBlock = some g → H g = none ∧ w0.heap.size ≤ g := by
    intro g hg
    cases A with
    | none => simp [Value.ownBlock] at hg
    | some a => simp [Value.ownBlock] at hg; subst hg; exact ⟨hown.out a rfl, (hown.block rfl).1⟩
  have hcap : n ≤ cap := by
    rcases hown.row.2 with ⟨h3, h4⟩ | ⟨g, cap', cur, hv, _, _, h5, _⟩
    · omega
    · simp at hv; omega
  have hmk : ∀ (v' : Value) (w' : World), (Builtin.append_ #[T, T] ty #[.slice A n cap, .slice B m c]).run P w = .ok v' w' → K v' w' → OpW P r ⟨d, .call { callee := .builtin .append, args := #[x, y], argTypes := #[T, T] }, ty, pos, af, g⟩ f w K := by
    intro v' w' hrun hK
    exact OpW_val (by simp) (by simp [execOp, resolve, invoke, builtin, hx, hy, hrun]) hK
  rcases Nat.eq_zero_or_pos m with hm0 | hm0
  · have hn0 : news = [] := List.eq_nil_of_length_eq_zero (by rw [hl, hm0]; simp)
    refine hmk _ _ (run_append_none (sz := sz) A n cap m c B hcap hm0 ty) ?_
    subst hm0 hn0
    have h2 := hk A cap w hG (by simpa using hown) ⟨rfl, rfl, rfl, Nat.le_refl _, fun _ _ _ => rfl⟩ (.inl ⟨rfl, rfl⟩)
    simpa using h2
  · obtain ⟨b, off, hB, hc⟩ : ∃ b off, B = some ⟨b, off, none⟩ ∧ ∀ (j : Nat) (u : Value), news[j]? = some u → w.cell? ⟨b, off + j, none⟩ = some u := by
      rcases hsrc with h | h
      · subst h; simp at hl; have := Nat.mul_pos hm0 h0; omega
      · exact h
    subst hB
    obtain ⟨v', w', hrun, hown', hgrow, hnil⟩ := run_append_own (P := P) w w0.heap.size T ty E ti z sz ti.bytes TySlice.out hi hz1 hsz rfl hz2 h0 (.slice A n cap) n xs hown.row ⟨b, off, none⟩ m c news hl (fun j u hj => by rw [add_lit']; exact hc j u hj) h1 (by unfold maxLen; omega) hb hG.below.size
    have hG' := hG.grownBy hgrow hout
    rcases hown'.2 with ⟨rfl, h4⟩ | ⟨g', cap', cur, hv, hbg, hg', h5, h6, h7, h8⟩
    · omega
    · refine hmk v' w' hrun ?_
      subst hv
      have hnew : (some (⟨g', 0, none⟩ : Addr) = A ∧ cap' = cap) ∨ w.heap.size ≤ g' := by
        by_cases hroom : n + m ≤ cap
        · rcases hown.row.2 with ⟨h3, h4⟩ | ⟨g2, cap2, cur2, hv2, hb2, hg2, hn2, hcm2, hcs2, ht2⟩
          · simp at h3; omega
          · have hr2 := run_append_room (P := P) w T ty E ti TySlice.out hi g2 n cap2 cur2 hg2 ⟨b, off, none⟩ m c news (by rw [hl, hsz]) (fun j u hj => by rw [add_lit']; exact hc j u hj) h1 (by simp at hv2; omega) (by
              rw [hl, hcs2, hsz, ← Nat.add_mul]; exact Nat.mul_le_mul_right _ (by simp at hv2; omega))
            rw [← hv2, hrun] at hr2
            simp at hr2 hv2
            left
            exact ⟨by rw [hr2.1.1, hv2.1], by omega⟩
        · right
          rcases Nat.lt_or_ge g' w.heap.size with h9 | h9
          · exfalso
            -- an old block: the append grew, so the block is a new one
            rcases hown.row.2 with ⟨h3, h4⟩ | ⟨g2, cap2, cur2, hv2, hb2, hg2, hn2, hcm2, hcs2, ht2⟩
            · have hxs : xs = [] := List.eq_nil_of_length_eq_zero (by rw [hown.row.1, h4]; simp)
              simp at h3
              have hb2 : m * ti.bytes ≤ 140737488355328 := Nat.le_trans (Nat.mul_le_mul_right _ (Nat.le_add_left m n)) hb
              have hr := run_append_nil (P := P) w T ty E ti z TySlice.out hi hz1 ⟨b, off, none⟩ m c news (by rw [hl, hsz]) (fun j u hj => by rw [add_lit']; exact hc j u hj) hm0 (by omega) (by omega)
              rw [h3.1, h3.2.2] at hrun
              subst h4
              rw [hr] at hrun
              simp at hrun
              omega
            · have holds : ∀ j u, xs[j]? = some u → w.cell? ((⟨g2, 0, none⟩ : Addr).add j) = some u := hown.row.cells (g := g2) (by simp at hv2; simp [Value.ownBlock, hv2.1])
              have hr := run_append_grow (P := P) w T ty E ti z TySlice.out hi hz1 ⟨g2, 0, none⟩ n cap2 xs (by rw [hown.row.1, hsz]) holds ⟨b, off, none⟩ m c news (by rw [hl, hsz]) (fun j u hj => by rw [add_lit']; exact hc j u hj) (by simp at hv2; omega) (by omega) (growslice_fits (by simp at hv2; omega) hb)
              rw [← hv2, hrun] at hr
              simp at hr
              omega
          · exact h9
      have hg0 : H g' = none := by
        rcases hnew with ⟨h9, _⟩ | h9
        · exact hown.out _ h9.symm
        · exact hG.sub.fresh h9
      refine hk _ _ w' hG' ⟨hown', fun a ha => by cases ha; exact hg0⟩ hgrow ?_
      rcases hnew with h9 | h9
      · exact .inl h9
      · exact .inr ⟨g', rfl, h9⟩
/-- append where there is no room: a new row. -/
theorem W_append_new [TySlice P T E] {sz bs : Nat} [he : TyElem P E sz bs] [TySize P E sz] {A B : Option Addr} {n cap m c : Nat} {xs news : List Value} (hx : ev f x = .slice A n cap) (hy : ev f y = .slice B m c)
    (hG : Grow H0 w0 H w) (hA : A = none → n = 0 ∧ cap = 0) (hdst : Cells w A xs) (hlx : xs.length = n * sz) (hsrc : Cells w B news) (hl : news.length = m * sz) (h1 : OneCells news) (hfull : cap < n + m) (hm0 : 0 < m)
    (h0 : 0 < sz) (hb : (n + m) * bs ≤ 140737488355328) (hm : n + m ≤ 4611686018427387904)
    (hk : ∀ A' cap' w', Grow H0 w0 H w' → Grow H w H w' → Own H w' w0.heap.size E sz A' (n + m) cap' (xs ++ news) → (∃ g, A' = some ⟨g, 0, none⟩ ∧ w.heap.size ≤ g) → K (.slice A' (n + m) cap') w') :
    OpW P r ⟨d, .call { callee := .builtin .append, args := #[x, y], argTypes := #[T, T] }, ty, pos, af, g⟩ f w K := by
  obtain ⟨ti, z, hi, hz1, hz2, hsz, rfl⟩ := he.out
  have hmk : ∀ (v' : Value) (w' : World), (Builtin.append_ #[T, T] ty #[.slice A n cap, .slice B m c]).run P w = .ok v' w' → K v' w' → OpW P r ⟨d, .call { callee := .builtin .append, args := #[x, y], argTypes := #[T, T] }, ty, pos, af, g⟩ f w K := by
    intro v' w' hrun hK
    exact OpW_val (by simp) (by simp [execOp, resolve, invoke, builtin, hx, hy, hrun]) hK
  obtain ⟨b, off, hB, hc⟩ : ∃ b off, B = some ⟨b, off, none⟩ ∧ ∀ (j : Nat) (u : Value), news[j]? = some u → w.cell? ⟨b, off + j, none⟩ = some u := by
    rcases hsrc with h | h
    · subst h; simp at hl; have := Nat.mul_pos hm0 h0; omega
    · exact h
  subst hB
  have fin : ∀ (v' : Value) (w' : World), (Builtin.append_ #[T, T] ty #[.slice A n cap, .slice (some ⟨b, off, none⟩) m c]).run P w = .ok v' w' → w'.ownsRow w.heap.size E sz v' (n + m) (xs ++ news) → w.grownBy w' none → OpW P r ⟨d, .call { callee := .builtin .append, args := #[x, y], argTypes := #[T, T] }, ty, pos, af, g⟩ f w K := by
    intro v' w' hrun hown' hgrow
    have hG' := hG.grownBy hgrow (fun g h => by cases h)
    have hG2 := (Grow.refl hG.sub).grownBy hgrow (fun g h => by cases h)
    rcases hown'.2 with ⟨rfl, h4⟩ | ⟨g', cap', cur, hv, hbg, hg', h5, h6, h7, h8⟩
    · omega
    · refine hmk v' w' hrun ?_
      subst hv
      refine hk _ _ w' hG' hG2 ⟨⟨hown'.1, .inr ⟨g', cap', cur, rfl, Nat.le_trans hG.below.size hbg, hg', h5, h6, h7, h8⟩⟩, fun a ha => by cases ha; exact hG.sub.fresh hbg⟩ ⟨g', rfl, hbg⟩
  cases A with
  | none =>
    obtain ⟨h2, h3⟩ := hA rfl
    subst h2 h3
    have hxs : xs = [] := List.eq_nil_of_length_eq_zero (by simpa using hlx)
    subst hxs
    obtain ⟨v', w', hrun, hown', hgrow, _⟩ := run_append_own (P := P) w w.heap.size T ty E ti z sz ti.bytes TySlice.out hi hz1 hsz rfl hz2 h0 (.slice none 0 0) 0 [] (World.ownsRow_nil w _ E sz) ⟨b, off, none⟩ m c news hl (fun j u hj => by rw [add_lit']; exact hc j u hj) h1 (by unfold maxLen; omega) hb (Nat.le_refl _)
    exact fin v' w' hrun hown' hgrow
  | some a =>
    have holds : ∀ j u, xs[j]? = some u → w.cell? (a.add j) = some u := by
      intro j u hj
      rcases hdst with h | ⟨b2, off2, h2, h3⟩
      · subst h; simp at hj
      · cases h2; rw [add_lit']; exact h3 j u hj
    obtain ⟨v', w', hrun, r1, r2⟩ := run_append_arg_grows (P := P) w T ty E ti z sz ti.bytes TySlice.out hi hz1 hsz rfl hz2 h0 a n cap xs hlx holds ⟨b, off, none⟩ m c news hl (fun j u hj => by rw [add_lit']; exact hc j u hj) hfull (by unfold maxLen; omega) hb
    exact fin v' w' hrun r1 r2
/-- append of nothing. -/
theorem W_append_none [TySlice P T E] {sz : Nat} [TySize P E sz] {A B : Option Addr} {n cap m c : Nat} (hx : ev f x = .slice A n cap) (hy : ev f y = .slice B m c) (hn : n ≤ cap) (hm : m = 0) (hk : K (.slice A n cap) w) :
    OpW P r ⟨d, .call { callee := .builtin .append, args := #[x, y], argTypes := #[T, T] }, ty, pos, af, g⟩ f w K :=
  OpW_val (by simp) (by simp [execOp, resolve, invoke, builtin, hx, hy, run_append_none (sz := sz) A n cap m c B hn hm]) hk
end
end Go.Proofs.Ytnjeoobcejlojaa
