/- walk.down, walked: it gives a tree's entries from above, while keep takes their keys. Conditions: none but the tree's. -/
import Derived.Test.YtgaabmoknpifnaaWalkB1
import Derived.Test.YtgaabmoknpifnaaTree1
import Derived.Test.YtgaabmoknpifnaaRes
namespace Go.Proofs.Ytgaabmoknpifnaa
open Go.Proofs Go.RowKit
set_option linter.unusedVariables false
attribute [local irreducible] CW CWD SeqW OpW CallV
set_option maxHeartbeats 4000000
theorem RV_cell1 {P : Program} {f : Fr} {H : HF} {w : World} {a b : Nat} {T : TypeId} {v : Value} [TyOne P T] (hx : f a = .pointer (some ⟨b, 0, none⟩)) (hm : Mut H w b [v]) : RV P f w (.cell a T) v := by
  exact ⟨b, hx, by simp [loadVar, TyOne.agg (P := P) (T := T), Sub.mut_or hm (j := 0) rfl]⟩
def downL (kf : ByteArray → Bool) (l : List Ent) : List Ent := (l.filter fun e => kf e.key).reverse
theorem downL_append (kf : ByteArray → Bool) (l m : List Ent) : downL kf (l ++ m) = downL kf m ++ downL kf l := by simp [downL, List.filter_append]
/-- What the bodies have given behind the numbers of pre. -/
def gaveE (kf : ByteArray → Bool) (l : List Ent) (pre : List Nat) : List Ent := pre.flatMap fun i => downL kf [ent l i]
def gaveV (kf : ByteArray → Bool) (K : List (List Ent)) (pre : List Nat) : List Ent := pre.flatMap fun i => downL kf (K.getD i [])
theorem gaveE_all (kf : ByteArray → Bool) (l : List Ent) : gaveE kf l (downN l.length) = downL kf l := by
  suffices h : ∀ n, n ≤ l.length → gaveE kf l (downN n) = downL kf (l.take n) by
    have := h l.length (Nat.le_refl _); rwa [List.take_length] at this
  intro n
  induction n with
  | zero => intro _; simp [gaveE, downN, downL]
  | succ n ih =>
    intro hn
    have e : downN (n + 1) = n :: downN n := by simp [downN, List.range_succ]
    have e2 : l.take (n + 1) = l.take n ++ [ent l n] := by rw [take_succ' (by omega)]; simp [ent, show n < l.length by omega]
    rw [e, e2, downL_append, ← ih (by omega)]
    simp [gaveE]
theorem gaveV_all (kf : ByteArray → Bool) (K : List (List Ent)) : gaveV kf K (downN K.length) = downL kf K.flatten := by
  suffices h : ∀ n, n ≤ K.length → gaveV kf K (downN n) = downL kf (K.take n).flatten by
    have := h K.length (Nat.le_refl _); rwa [List.take_length] at this
  intro n
  induction n with
  | zero => intro _; simp [gaveV, downN, downL]
  | succ n ih =>
    intro hn
    have e : downN (n + 1) = n :: downN n := by simp [downN, List.range_succ]
    have e2 : K.take (n + 1) = K.take n ++ [K.getD n []] := by rw [take_succ' (by omega)]; simp [show n < K.length by omega]
    rw [e, e2, List.flatten_append, downL_append, ← ih (by omega)]
    simp [gaveV]
theorem gaveE_next (kf : ByteArray → Bool) (l : List Ent) (pre : List Nat) (i : Nat) : gaveE kf l (pre ++ [i]) = gaveE kf l pre ++ (if kf (ent l i).key then [ent l i] else []) := by
  simp only [gaveE, List.flatMap_append, List.flatMap_singleton, downL]
  congr 1
  cases h : kf (ent l i).key <;> simp [h]
theorem gaveV_next (kf : ByteArray → Bool) (K : List (List Ent)) (pre : List Nat) (i : Nat) : gaveV kf K (pre ++ [i]) = gaveV kf K pre ++ downL kf (K.getD i []) := by
  simp [gaveV]
/-- keep's value. -/
def KeepV (kv : Value) (kf : ByteArray → Bool) (H : HF) : Prop := ∀ H1 w1 s, HLe H H1 → Sub H1 w1 → CallV Try.prog kv [.string s] w1 fun v w' => ∃ H2, Grow H1 w1 H2 w' ∧ v = .bool (kf s)
theorem KeepV.mono {kv : Value} {kf : ByteArray → Bool} {H H' : HF} (h : KeepV kv kf H) (hle : HLe H H') : KeepV kv kf H' := fun H1 w1 s h1 => h H1 w1 s (hle.trans h1)
section
variable {xs : List Ent} {y kv : Value} {J Jx : Inv Ent} {kf : ByteArray → Bool}
theorem down_node (hJ : Stable J) (hJx : Stable Jx) (hy : Yields Try.prog y encP xs J Jx) (hyc : y.cells = #[y]) (hkc : kv.cells = #[kv]) {H0 : HF} {w0 : World} {X0 : Nat → Prop} {pre0 rest0 : List Ent} {p : Option Addr} {es : List Ent} {vs : List Value} {K : List (List Ent)} {lo hi : ByteArray}
    (hX0 : ∀ k, X0 k → k < w0.heap.size) (hkv : KeepV kv kf H0) (hp : p ≠ none) (hes : es.length ≤ 1000) (hvs : vs.length ≤ 1000) (hKl : K.length = vs.length) (h0 : es = [] ∨ K.flatten = [])
    (hEnds : ∀ H1, HLe H0 H1 → Fn Try.prog 64 [.pointer p] H1 fun v _ => v = .tuple #[.string lo, .string hi])
    (hEnt : ∀ H1, HLe H0 H1 → Fn Try.prog 65 [.pointer p] H1 fun v H' => IsEnts v es H')
    (hKids : ∀ H1, HLe H0 H1 → Fn Try.prog 66 [.pointer p] H1 fun v H' => IsSl 1 v vs.length vs H')
    (hlo : kf lo = false → ∀ e ∈ es ++ K.flatten, kf e.key = false)
    (hrec : ∀ i, i < vs.length → ∀ H1 w1 X pre rest, HLe H0 H1 → (∀ k, X k → k < w1.heap.size) → Sub H1 w1 → xs = pre ++ downL kf (K.getD i []) ++ rest → J X pre H1 w1 →
      CallW Try.prog 50 [vs.getD i (.pointer none), kv, y].toArray w1 (Went xs J Jx X H1 w1 (pre ++ downL kf (K.getD i []))))
    (hS : Sub H0 w0) (hxs : xs = pre0 ++ downL kf (es ++ K.flatten) ++ rest0) (hj : J X0 pre0 H0 w0) :
    CallW Try.prog 50 [.pointer p, kv, y].toArray w0 (Went xs J Jx X0 H0 w0 (pre0 ++ downL kf (es ++ K.flatten))) := by
  obtain ⟨a, rfl⟩ : ∃ a, p = some a := by cases p with | none => exact absurd rfl hp | some a => exact ⟨a, rfl⟩
  refine CallW_of_CWD Try.func50 rfl Try.ntmps50 Try.results50 rfl ?_
  have hG := Grow.refl hS
  have hI0 := Its.start hS hj
  (refine CWD_seq ?_; refine CWD_region rfl ?_)
  (refine S_op (W_box1 hS (by rfl) (by first | rfl | assumption) ?_)); intro H w _ hG' h4; replace hG := hG.trans hG'; replace hS := hG'.sub; clear hG'
  skip
  (refine S_op (W_box1 hS (by rfl) (by first | rfl | assumption) ?_)); intro H w _ hG' h5; replace hG := hG.trans hG'; replace hS := hG'.sub; replace h4 := hG'.le _ _ h4; clear hG'
  skip
  (refine S_op (W_alloc hS ?_)); intro w c6b hG' c6h c6; replace c6h := Nat.le_trans hG.below.size (Nat.le_of_eq c6h); replace hG := hG.trans hG'; replace hS := hG'.sub; clear hG'
  (refine S_nil ?_; refine CWD_seq ?_; refine CWD_seq ?_; refine CWD_region rfl ?_; refine S_op ?_; refine W_movePtr (by first | rfl | assumption) ?_)
  (refine S_op ?_; refine W_call hS (by rfl) (hEnds _ hG.le) ?_); rintro v H w hG' rfl; replace hG := hG.trans hG'; replace hS := hG'.sub; replace h4 := hG'.le _ _ h4; replace h5 := hG'.le _ _ h5; replace c6 := c6.grow hG'; clear hG'
  (refine S_op ?_; refine W_moveTup (by first | rfl | assumption) ?_; refine S_op ?_; refine W_extract (by first | rfl | assumption) (by rfl) ?_; refine S_op ?_; refine W_extract (by first | rfl | assumption) (by rfl) ?_; refine S_op ?_; refine W_assignStr (by first | rfl | assumption) ?_; refine S_op ?_; refine W_assignStr (by first | rfl | assumption) ?_; refine S_nil ?_; refine CWD_seq ?_; refine CWD_region rfl ?_; refine S_op ?_; refine W_movePtr (by first | rfl | assumption) ?_; refine S_op ?_; refine W_peqnil (by first | rfl | assumption) (by first | rfl | assumption) ?_; refine S_op ?_; refine W_moveBool (by first | rfl | assumption) ?_; refine S_want (by rfl) ?_; refine W_loadHL (by first | rfl | assumption) (by assumption) (by rfl) (by assumption) ?_; refine S_want (by rfl) ?_; refine W_moveStr (by first | rfl | assumption) ?_)
  refine S_want (by rfl) ?_
  refine W_callVal (by rfl) (by rfl) ((hkv H w lo hG.le hS).mono ?_)
  rintro v w ⟨H, hG', rfl⟩
  replace hG := hG.trans hG'
  replace hS := hG'.sub
  replace h4 := hG'.le _ _ h4
  replace h5 := hG'.le _ _ h5
  replace c6 := c6.grow hG'
  clear hG'
  have hfin : downL kf (es ++ K.flatten) = downL kf es ++ downL kf K.flatten := by
    rcases h0 with h | h
    · rw [h]; simp [downL]
    · rw [h]; simp [downL]
  cases hkl : kf lo with
  | false =>
    have e : downL kf (es ++ K.flatten) = [] := by
      have : (es ++ K.flatten).filter (fun e => kf e.key) = [] := by
        rw [List.filter_eq_nil_iff]
        intro x hx
        simp [hlo hkl x hx]
      simp only [downL, this, List.reverse_nil]
    rw [e, List.append_nil]
    (refine S_want (by rfl) ?_; refine W_not (by first | rfl | assumption) ?_; refine S_op ?_; refine W_pickF (by first | rfl | assumption) (by first | rfl | assumption) ?_; refine S_nil ?_; refine CWD_true (by first | rfl | assumption) ?_; refine CWD_seq ?_; refine CWD_region rfl ?_)
    (refine S_op0 (W_storeM (o := 0) (vs := [.bool true]) (by rfl) (by rfl) c6 (by rfl) (OneCells.of_all (by rfl)) (by rfl) (Nat.le_of_ble_eq_true (by rfl)) ?_)); intro w hgb' hm'; replace hG := hG.grownBy hgb' (fun g h => by cases h; exact ⟨c6.out, c6h⟩); replace hS := hG.sub; replace c6 : Mut _ w c6b ([.bool true]) := hm'; clear hm'; clear hgb'
    (refine S_nil ?_; refine CWD_ret ?_)
    exact FinD_nil ⟨_, ResW_v1 (RV_cell1 rfl c6), .inl ⟨rfl, _, _, hI0.step hJ hG⟩⟩
  | true =>
    rw [hfin] at hxs ⊢
    (refine S_want (by rfl) ?_; refine W_not (by first | rfl | assumption) ?_; refine S_op ?_; refine W_pickF (by first | rfl | assumption) (by first | rfl | assumption) ?_; refine S_nil ?_; refine CWD_false (by first | rfl | assumption) ?_; refine CWD_skip ?_; refine CWD_seq ?_; refine CWD_seq ?_; refine CWD_region rfl ?_; refine S_op ?_; refine W_movePtr (by first | rfl | assumption) ?_)
    (refine S_op ?_; refine W_call hS (by rfl) (hEnt _ hG.le) ?_); rintro v H w hG' hv; replace hG := hG.trans hG'; replace hS := hG'.sub; replace h4 := hG'.le _ _ h4; replace h5 := hG'.le _ _ h5; replace c6 := c6.grow hG'; clear hG'
    obtain ⟨A, c, rfl, hc, hl⟩ := hv
    skip
    (refine S_op ?_; refine W_call hS (by rfl) (backE_c H es A c (by omega) hl) ?_); rintro v H w hG' hv; replace hG := hG.trans hG'; replace hS := hG'.sub; replace hl := hl.mono hG'.le; replace h4 := hG'.le _ _ h4; replace h5 := hG'.le _ _ h5; replace c6 := c6.grow hG'; clear hG'
    obtain ⟨gf, lb, hfc, rfl, hit⟩ := hv
    (refine S_nil ?_; refine CWD_block ?_)
    have hI : Its J X0 H0 w0 (orNew X0 w0 w) (pre0 ++ gaveE kf es []) H w := by simpa [gaveE] using hI0.step hJ hG
    refine CWD_rangeBox (S := fun _ => False) (Inn J X0 H0 w0 [c6b] (fun pre => pre0 ++ gaveE kf es pre) (fun _ H2 w2 => HLe H H2 ∧ Mut H2 w2 c6b [.bool false])) (retI (InnX xs Jx X0 H0 w0 [c6b] (fun H2 w2 => Mut H2 w2 c6b [.bool false])))
      (Inn.good hJ hX0 ?_) (retI.stable (InnX.stable hJx hX0 ?_)) ⟨_, hI, fun _ h => h.elim, ?_, HLe.refl _, c6⟩ rfl hS (fun _ => rfl) (by decide) (fun w1 _ => hit H w1 (HLe.refl _)) (fun _ h => h.elim) ?_ ?_ ?_ ?_
    · rintro S pre H w H' w' hs hT ⟨h1, h2⟩
      exact ⟨h1.trans hT.le, h2.turn hT (hs _ (by simp))⟩
    · rintro S pre H w H' w' hs hT h2
      exact h2.turn hT (hs _ (by simp))
    · intro b hb
      simp at hb; subst hb
      exact ⟨fun h => h, .inr ⟨c6h, c6.lt⟩, c6h, c6.lt⟩
    · intro l x H1 W hS
      have hG := Grow.refl hS
      (refine CW_region rfl ?_)
      (refine S_op (W_alloc hS ?_)); intro w c10b hG' c10h c10; replace c10h := Nat.le_trans hG.below.size (Nat.le_of_eq c10h); replace hG := hG.trans hG'; replace hS := hG'.sub; clear hG'
      skip
      (refine S_op0 (W_storeM (o := 0) (vs := [.string (ent es x).key, .string (ent es x).val]) (by rfl) (by rfl) c10 (by rfl) (OneCells.of_all (by rfl)) (by rfl) (Nat.le_of_ble_eq_true (by rfl)) ?_)); intro w hgb' hm'; replace hG := hG.grownBy hgb' (fun g h => by cases h; exact ⟨c10.out, c10h⟩); replace hS := hG.sub; replace c10 : Mut _ w c10b ([.string (ent es x).key, .string (ent es x).val]) := hm'; clear hm'; clear hgb'
      (refine S_nil ?_)
      refine ⟨c10b, _, c10h, hG, c10, ?_⟩
      clear c10 hG hS c6
      rintro l X pre rest H W hx hS ⟨X1, hI, hXi, hbs, hle, c6⟩ ⟨hX10, c10⟩
      replace h4 := hle _ _ h4
      replace h5 := hle _ _ h5
      have hL := Its.start hS hI.has
      have hG := Grow.refl hS
      have h6 := hbs c6b (by simp)
      (refine CW_block ?_; refine CW_seq ?_; refine CW_region rfl ?_; refine S_op ?_; refine W_loadHL (by first | rfl | assumption) (by assumption) (by rfl) (by assumption) ?_; refine S_op ?_; refine W_field (by first | rfl | assumption) ?_; refine S_op ?_; refine W_loadM (by first | rfl | assumption) (by assumption) (by rfl) ?_)
      refine S_op ?_
      refine W_callVal (by rfl) (by rfl) ((hkv H W (ent es x).key hI.le hS).mono ?_)
      rintro v w ⟨H, hG', rfl⟩
      replace hG := hG.trans hG'
      replace hS := hG'.sub
      replace h4 := hG'.le _ _ h4
      replace h5 := hG'.le _ _ h5
      replace c6 := c6.grow hG'
      replace c10 := c10.grow hG'
      replace hle := hle.trans hG'.le
      have hL1 := hL.step hJ hG
      cases hk : kf (ent es x).key with
      | false =>
        have e : pre0 ++ gaveE kf es (pre ++ [x]) = pre0 ++ gaveE kf es pre := by rw [gaveE_next, hk]; simp
        (refine S_op ?_; refine W_moveBool (by first | rfl | assumption) ?_; refine S_pass (by rfl) ?_; refine S_pass (by rfl) ?_; refine S_pass (by rfl) ?_; refine S_pass (by rfl) ?_; refine S_pass (by rfl) ?_; refine S_pass (by rfl) ?_; refine S_pass (by rfl) ?_; refine S_op ?_; refine W_pickF (by first | rfl | assumption) (by first | rfl | assumption) ?_; refine S_nil ?_; refine CW_false (by first | rfl | assumption) ?_; refine CW_skip ?_)
        refine Inn.next (pre' := pre ++ [x]) (g := fun pre => pre0 ++ gaveE kf es pre) (X' := orNew X1 W w) (H' := H) hI hXi hbs ?_ ⟨hle, c6⟩
        show Its _ _ _ _ _ (pre0 ++ gaveE kf es (pre ++ [x])) _ _
        rw [e]; exact hL1
      | true =>
        have e : pre0 ++ gaveE kf es (pre ++ [x]) = pre0 ++ gaveE kf es pre ++ [ent es x] := by rw [gaveE_next, hk]; simp
        have hxs2 : xs = (pre0 ++ gaveE kf es pre) ++ ent es x :: (gaveE kf es rest ++ downL kf K.flatten ++ rest0) := by
          rw [hxs, ← gaveE_all, hx]
          simp [gaveE, downL, hk]
        (refine S_op ?_; refine W_moveBool (by first | rfl | assumption) ?_; refine S_want (by rfl) ?_; refine W_loadHL (by first | rfl | assumption) (by assumption) (by rfl) (by assumption) ?_; refine S_want (by rfl) ?_; refine W_field (by first | rfl | assumption) ?_; refine S_want (by rfl) ?_; refine W_loadM (by first | rfl | assumption) (by assumption) (by rfl) ?_; refine S_want (by rfl) ?_; refine W_field (by first | rfl | assumption) ?_; refine S_want (by rfl) ?_; refine W_loadM (by first | rfl | assumption) (by assumption) (by rfl) ?_)
        refine S_want (by rfl) ?_
        refine W_callVal (by rfl) (by rfl) ((hy.at hxs2 (Its.start hS hL1.has)).mono ?_)
        clear c10 hG hS
        rintro v w4 (⟨rfl, X2, H3, hK⟩ | ⟨rfl, X2, H3, p, r, he, hK⟩)
        · (refine S_want (by rfl) ?_; refine W_not (by first | rfl | assumption) ?_; refine S_op ?_; refine W_pickT (by first | rfl | assumption) (by first | rfl | assumption) ?_; refine S_nil ?_; refine CW_false (by first | rfl | assumption) ?_; refine CW_skip ?_)
          refine Inn.next (pre' := pre ++ [x]) (g := fun pre => pre0 ++ gaveE kf es pre) (X' := X2) (H' := H3) hI hXi hbs ?_ ⟨hle.trans hK.le, c6.turn hK.turn (fun h => h (.inl h6.2.1))⟩
          show Its _ _ _ _ _ (pre0 ++ gaveE kf es (pre ++ [x])) _ _
          rw [e]; exact hL1.trans hK
        · replace c6 := c6.turn hK.turn (fun h => h (.inl h6.2.1))
          have hS := hK.sub
          (refine S_want (by rfl) ?_; refine W_not (by first | rfl | assumption) ?_; refine S_op ?_; refine W_pickT (by first | rfl | assumption) (by first | rfl | assumption) ?_; refine S_nil ?_; refine CW_true (by first | rfl | assumption) ?_; refine CW_seq ?_; refine CW_region rfl ?_)
          refine S_op0 (W_storeM (o := 0) (vs := [.bool false]) (by rfl) (by rfl) c6 (by rfl) (OneCells.of_all (by rfl)) (by rfl) (Nat.le_of_ble_eq_true (by rfl)) ?_)
          intro w5 hgb c7
          have hT5 : Turn (fun k => k = c6b) H3 w4 H3 w5 := (Turn.refl hS).grownBy hgb (fun g h => by cases h; exact ⟨c6.out, .inr rfl⟩)
          (refine S_nil ?_; refine CW_ret ?_)
          exact Inn.stopT (φx := fun H2 w2 => Mut H2 w2 c6b [.bool false]) (pre' := pre ++ [x]) hX0 hJx hI hXi hbs he (hL1.trans hK) hT5 (fun k hk => by simp [hk]) c7
    · rintro D X H w hD hM hS hle' hXs hXD ⟨X1, hI, hXi, hbs, hle, c6⟩
      have h6 := hbs c6b (by simp)
      have hD6 : c6b ≠ D := fun e => h6.1 (by rw [e]; exact hXD)
      have hDX := hXi D hXD
      replace h4 := hle _ _ h4
      replace h5 := hle _ _ h5
      replace hI : Its J X0 H0 w0 X1 (pre0 ++ downL kf es) H w := by
        have h := hI
        simp only [gaveE_all] at h
        exact h
      have hG := Grow.refl hS
      clear hit hle hle' hbs hXs hXi
      (refine CWD_seq ?_; refine CWD_seq ?_; refine CWD_region rfl ?_; refine S_op ?_; refine W_movePtr (by first | rfl | assumption) ?_)
      (refine S_op ?_; refine W_call hS (by rfl) (hKids _ hI.le) ?_); rintro v H w hG' hv; replace hG := hG.trans hG'; replace hS := hG'.sub; replace h4 := hG'.le _ _ h4; replace h5 := hG'.le _ _ h5; replace c6 := c6.grow hG'; replace hM := hM.grow hG'; clear hG'
      obtain ⟨B, d, rfl, hd, hsl, hvl⟩ := hv
      skip
      (refine S_op ?_; refine W_call hS (by rfl) (backV_c H vs B vs.length d rfl (by omega) hsl) ?_); rintro v H w hG' hv; replace hG := hG.trans hG'; replace hS := hG'.sub; replace hsl := hsl.mono hG'.le; replace h4 := hG'.le _ _ h4; replace h5 := hG'.le _ _ h5; replace c6 := c6.grow hG'; replace hM := hM.grow hG'; clear hG'
      obtain ⟨gf2, lb2, hfc2, rfl, hit2⟩ := hv
      (refine S_nil ?_; refine CWD_block ?_)
      replace hI := hI.step hJ hG
      refine CWD_range (S := fun _ => False) (Inn J X0 H0 w0 [c6b, D] (fun pre => pre0 ++ downL kf es ++ gaveV kf K pre) (fun _ H2 w2 => HLe H H2 ∧ Mut H2 w2 c6b [.bool false] ∧ MarkAt H2 w2 D)) (retI (InnX xs Jx X0 H0 w0 [c6b, D] (fun H2 w2 => Mut H2 w2 c6b [.bool false] ∧ MarkAt H2 w2 D)))
        (Inn.good hJ hX0 ?_) (retI.stable (InnX.stable hJx hX0 ?_)) ⟨_, by simpa [gaveV] using hI, fun _ h => h.elim, ?_, HLe.refl _, c6, hM⟩ rfl hS (fun _ => rfl) (by decide) (fun w1 _ => hit2 H w1 (HLe.refl _)) (fun _ h => h.elim) ?_ ?_ ?_ ?_
      · rintro S pre H w H' w' hs hT ⟨h1, h2, h3⟩
        exact ⟨h1.trans hT.le, h2.turn hT (hs _ (by simp)), h3.turn hT (hs _ (by simp))⟩
      · rintro S pre H w H' w' hs hT ⟨h2, h3⟩
        exact ⟨h2.turn hT (hs _ (by simp)), h3.turn hT (hs _ (by simp))⟩
      · intro b hb
        simp at hb
        rcases hb with rfl | rfl
        · exact ⟨fun h => h, .inl h6.2.1, h6.2.2.1, c6.lt⟩
        · exact ⟨fun h => h, .inl hDX.1, hDX.2, hM.lt⟩
      · intro l x W
        (refine CW_region rfl ?_; refine S_op ?_; refine W_assign rfl ?_; refine S_nil ?_)
        refine ⟨rfl, ?_⟩
        clear c6 hM hG hS hI h6
        rintro l X pre rest H W hx hS ⟨X2, hI, hXi, hbs, hle, c6, hM⟩ _
        replace h4 := hle _ _ h4
        replace h5 := hle _ _ h5
        have h6 := hbs c6b (by simp)
        have h7 := hbs D (by simp)
        have hlt : x < vs.length := by
          have : x ∈ downN vs.length := by rw [hx]; simp
          simpa [downN] using this
        have e : pre0 ++ downL kf es ++ gaveV kf K (pre ++ [x]) = pre0 ++ downL kf es ++ gaveV kf K pre ++ downL kf (K.getD x []) := by rw [gaveV_next]; simp
        have hxs2 : xs = (pre0 ++ downL kf es ++ gaveV kf K pre) ++ downL kf (K.getD x []) ++ (gaveV kf K rest ++ rest0) := by
          rw [hxs, ← gaveV_all, hKl, hx]
          simp [gaveV]
        (refine CW_block ?_; refine CW_seq ?_; refine CW_region rfl ?_; refine S_op ?_; refine W_move rfl ?_; refine S_op ?_; refine W_loadHL (by first | rfl | assumption) (by assumption) (by rfl) (by assumption) ?_; refine S_op ?_; refine W_loadHL (by first | rfl | assumption) (by assumption) (by rfl) (by assumption) ?_)
        refine S_op ?_
        refine W_callW (vs := [vs.getD x (.pointer none), kv, y]) (by rfl) ((hrec x hlt H W X2 _ _ hI.le (hI.bnd hX0) hS hxs2 hI.has).mono ?_)
        rintro v w4 (⟨rfl, X3, H3, hK⟩ | ⟨rfl, X3, H3, p, r, he, hK⟩)
        · (refine S_op ?_; refine W_not (by first | rfl | assumption) ?_; refine S_nil ?_; refine CW_false (by first | rfl | assumption) ?_; refine CW_skip ?_)
          refine Inn.next (pre' := pre ++ [x]) (g := fun pre => pre0 ++ downL kf es ++ gaveV kf K pre) (X' := X3) (H' := H3) hI hXi hbs ?_ ⟨hle.trans hK.le, c6.turn hK.turn (fun h => h h6.2.1), hM.turn hK.turn (fun h => h h7.2.1)⟩
          show Its _ _ _ _ _ (pre0 ++ downL kf es ++ gaveV kf K (pre ++ [x])) _ _
          rw [e]; exact hK
        · replace c6 := c6.turn hK.turn (fun h => h h6.2.1)
          replace hM := hM.turn hK.turn (fun h => h h7.2.1)
          have hS := hK.sub
          (refine S_op ?_; refine W_not (by first | rfl | assumption) ?_; refine S_nil ?_; refine CW_true (by first | rfl | assumption) ?_; refine CW_seq ?_; refine CW_region rfl ?_)
          refine S_op0 (W_storeM (o := 0) (vs := [.bool false]) (by rfl) (by rfl) c6 (by rfl) (OneCells.of_all (by rfl)) (by rfl) (Nat.le_of_ble_eq_true (by rfl)) ?_)
          intro w5 hgb c7
          have hT5 : Turn (fun k => k = c6b) H3 w4 H3 w5 := (Turn.refl hS).grownBy hgb (fun g h => by cases h; exact ⟨c6.out, .inr rfl⟩)
          replace hM := hM.other hgb (fun e => hD6 (Option.some.inj e))
          (refine S_nil ?_; refine CW_ret ?_)
          exact Inn.stopT (φx := fun H2 w2 => Mut H2 w2 c6b [.bool false] ∧ MarkAt H2 w2 D) (pre' := pre ++ [x]) hX0 hJx hI hXi hbs he hK hT5 (fun k hk => by simp [hk]) ⟨c7, hM⟩
      · clear c6 hM hG hS hI h6
        rintro E X H w hE hN hS hle' hXs hXE ⟨X3, hI, hXi, hbs, hle, c6, hM⟩
        have h6 := hbs c6b (by simp)
        have h7 := hbs D (by simp)
        have hE6 : c6b ≠ E := fun e => h6.1 (by rw [e]; exact hXE)
        have hne : E ≠ D := fun e => h7.1 (by rw [← e]; exact hXE)
        have hEX := hXi E hXE
        replace hI : Its J X0 H0 w0 X3 (pre0 ++ (downL kf es ++ downL kf K.flatten)) H w := by
          have h := hI
          simp only [← hKl, gaveV_all, List.append_assoc] at h
          exact h
        (refine CWD_seq ?_; refine CWD_region rfl ?_)
        refine S_op0 (W_storeM (o := 0) (vs := [.bool true]) (by rfl) (by rfl) c6 (by rfl) (OneCells.of_all (by rfl)) (by rfl) (Nat.le_of_ble_eq_true (by rfl)) ?_)
        intro w5 hgb c7
        have hT5 : Turn (fun k => k = c6b) H w H w5 := (Turn.refl hS).grownBy hgb (fun g h => by cases h; exact ⟨c6.out, .inr rfl⟩)
        have hI5 := hI.own hJ hT5 (fun k hk => by subst hk; exact ⟨h6.2.1, fun h => by have := hX0 _ h; have := h6.2.2.1; omega⟩)
        replace hM := hM.other hgb (fun e => hD6 (Option.some.inj e))
        replace hN := hN.other hgb (fun e => hE6 (Option.some.inj e))
        (refine S_nil ?_; refine CWD_ret ?_)
        refine FinD_two hM hN hne hT5.sub fun w' hT => ?_
        have hI6 := hI5.own hJ hT (fun k hk => by
          rcases hk with rfl | rfl
          · exact ⟨.inl h7.2.1, fun h => by have := hX0 _ h; have := h7.2.2.1; omega⟩
          · exact ⟨.inl hEX.1, fun h => by have := hX0 _ h; have := hEX.2; omega⟩)
        exact ⟨_, ResW_v1 (RV_cell1 rfl (c7.turn hT (by rintro (e | e); exact hD6 e; exact hE6 e))), .inl ⟨rfl, _, _, hI6⟩⟩
      · clear c6 hM hG hS hI h6
        rintro E X H w pre rest hx hE hN hS hle' hXs hXE ⟨X3, p, r, he, hI, hXi, hbs, c6, hM⟩
        have h6 := hbs c6b (by simp)
        have h7 := hbs D (by simp)
        have hE6 : c6b ≠ E := fun e => h6.1 (by rw [e]; exact hXE)
        have hne : E ≠ D := fun e => h7.1 (by rw [← e]; exact hXE)
        have hEX := hXi E hXE
        skip
        refine FinD_two hM hN hne hS fun w' hT => ?_
        have hI6 := hI.own hJx hT (fun k hk => by
          rcases hk with rfl | rfl
          · exact ⟨h7.2.1, fun h => by have := hX0 _ h; have := h7.2.2.1; omega⟩
          · exact ⟨hEX.1, fun h => by have := hX0 _ h; have := hEX.2; omega⟩)
        exact ⟨_, ResW_v1 (RV_cell1 rfl (c6.turn hT (by rintro (e | e); exact hD6 e; exact hE6 e))), .inr ⟨rfl, _, _, p, r, he, hI6⟩⟩
      · exact fun _ _ _ _ _ _ _ _ _ _ _ _ _ _ h => False.elim h
    · rintro D X H' W' pre rest hx hD hM hS' hle' hXs hXD ⟨X1, p, r, he, hI, hXi, hbs, c6⟩
      skip
      refine FinD_one hM hS' fun w' hT => ?_
      exact ⟨_, ResW_v1 (RV_cell1 rfl (c6.turn hT (fun e => (hbs c6b (by simp)).1 (by rw [e]; exact hXD)))), .inr ⟨rfl, _, _, p, r, he, hI.closed hX0 hJx (hXi D hXD).1 (hXi D hXD).2 hT⟩⟩
    · exact fun _ _ _ _ _ _ _ _ _ _ _ _ _ _ h => False.elim h
end
end Go.Proofs.Ytgaabmoknpifnaa
