/- Texts of this proof in one file, each with its conditions ahead of it. First: WalkNil, walked. Conditions: sizes. -/
import Derived.Test.YtgaabmoknpifnaaBookWalkAgain2
import Derived.Test.YtgaabmoknpifnaaRange2
namespace Go.Proofs.Ytgaabmoknpifnaa
open Go.Proofs Go.RowKit
set_option linter.unusedVariables false
attribute [local irreducible] CW CWD SeqW OpW CallV
set_option maxHeartbeats 4000000
theorem FinD_list {P : Program} {rs : Array ResultVar} {R : Value → World → Prop} {f : Fr} {H : HF} {w : World} {ds : List Nat} (hM : ∀ D ∈ ds, MarkAt H w D) (hn : ds.Nodup) (hS : Sub H w)
    (h : ∀ w', Turn (fun k => k ∈ ds) H w H w' → Fin P rs R f w') : FinD P rs R ds f w :=
  ⟨⟨hn, fun D h' => (hM D h').at_⟩, h _ (closeM_turn ds hS fun D h' => (hM D h').out)⟩
/-- A loop over what gives nothing. -/
theorem CWD_rangeNil {P : Program} {α : Type} {n : Nat} {g : Operand} {ps : Array Tmp} {assign body : Code} {f : Fr} {ds : List Nat} {gf : Nat} {lb : List Value} [FnCall P gf] {enc : α → List Value} {H : HF} {w : World}
    {Qn Qr : List Nat → Fr → World → Prop} {Qx : Nat → List Nat → Fr → World → Prop}
    (hg : ev f g = .func (.func gf) #[] lb.toArray) (hS : Sub H w) (hps : ∀ x, (enc x).length = ps.size) (hpn : ∀ p ∈ ps.toList, p < n)
    (hIt : ∀ w1, Grow H w H w1 → IterAt P gf lb enc [] (fun _ => False) H w1)
    (hassign : ∀ l x W, CW P (some l) n assign (fun _ W1 => W1 = W) (fun _ _ => False) (fun _ _ _ => False) (puts ps.toList (enc x) f) W)
    (hk : ∀ D H' w', w.heap.size ≤ D → MarkAt H' w' D → Grow H w H' w' → Qn (D :: ds) f w') : CWD P none n (.rangeFunc g ps assign body) Qn Qr Qx ds f w := by
  refine CWD_range (S := fun _ => False) (Hold H w [] (fun _ _ _ => True)) neverI (Hold.good fun _ _ _ _ _ _ _ _ h => h) neverI.stable ⟨Grow.refl hS, fun _ h => h.elim, fun _ h => by (cases h), trivial⟩ hg hS hps hpn hIt (fun _ h => h.elim) ?_ ?_ ?_ ?_
  · intro l x W
    refine CW_mono (hassign l x W) ?_ (fun _ _ h => h) (fun _ _ _ h => h)
    rintro f1 W1 rfl
    refine ⟨rfl, fun l X pre rest H W hx => ?_⟩
    have := congrArg List.length hx
    simp at this
  · exact fun D X H' W' hD hM _ _ _ _ hI => hk D H' W' hD hM hI.1
  · exact fun _ _ _ _ _ _ _ _ _ _ _ _ _ h => False.elim h
  · exact fun _ _ _ _ _ _ _ _ _ _ _ _ _ _ h => False.elim h
theorem MarkAt.ne {H : HF} {w : World} {D b : Nat} {cs : List Value} (hM : MarkAt H w D) (hm : Mut H w b cs) : b ≠ D := by
  rintro rfl
  obtain ⟨T, h⟩ := hm.at_
  rw [hM.at_] at h; cases h
theorem walkNil_c (H : HF) (k k2 : ByteArray) (n : Int) : Fn Try.prog 8 [.string k, .string k2, .int .i64 n] H fun v _ => v = .bool true := by
  refine Fn_of_CWD Try.func8 rfl Try.ntmps8 Try.results8 rfl fun w0 hS => ?_; have hS0 := hS; have hG := Grow.refl hS
  (refine CWD_seq ?_; refine CWD_region rfl ?_)
  (refine S_op (W_alloc hS ?_)); intro w c6b hG' c6h c6; replace c6h := Nat.le_trans hG.below.size (Nat.le_of_eq c6h); replace hG := hG.trans hG'; replace hS := hG'.sub; clear hG'
  (refine S_nil ?_; refine CWD_seq ?_; refine CWD_seq ?_; refine CWD_region rfl ?_)
  (refine S_op ?_; refine W_call hS (by rfl) (awake11_c H) ?_); rintro v H w hG' rfl; replace hG := hG.trans hG'; replace hS := hG'.sub; replace c6 := c6.grow hG'; clear hG'
  (refine S_op ?_; refine W_not (by first | rfl | assumption) ?_; refine S_nil ?_; refine CWD_false (by first | rfl | assumption) ?_; refine CWD_skip ?_; refine CWD_seq ?_; refine CWD_seq ?_; refine CWD_region rfl ?_)
  (refine S_op ?_; refine W_call hS (by rfl) (all_c H none trivial) ?_); rintro v H w hG' hv; replace hG := hG.trans hG'; replace hS := hG'.sub; replace c6 := c6.grow hG'; clear hG'
  obtain ⟨gf, lb, hfc, rfl, hit⟩ := hv
  (refine S_nil ?_; refine CWD_block ?_)
  refine CWD_rangeNil rfl hS (fun _ => rfl) (by decide) (fun w1 _ => hit H w1 (HLe.refl _)) ?_ ?_
  · intro l x W
    (refine CW_skip ?_)
    first | done | rfl
  clear hit
  intro D1 H w hD1 hM1 hG'
  have y1 : w0.heap.size ≤ D1 := Nat.le_trans hG.below.size hD1
  replace hG := hG.trans hG'
  replace hS := hG'.sub
  replace c6 := c6.grow hG'
  have z1 := hM1.lt
  clear hG'
  (refine CWD_seq ?_; refine CWD_seq ?_; refine CWD_region rfl ?_; refine S_op ?_; refine W_moveStr (by first | rfl | assumption) ?_)
  (refine S_op ?_; refine W_call hS (by rfl) (from_c H none k trivial) ?_); rintro v H w hG' hv; replace hG := hG.trans hG'; replace hS := hG'.sub; replace c6 := c6.grow hG'; replace hM1 := hM1.grow hG'; clear hG'
  have z1 := hM1.lt
  obtain ⟨gf, lb, hfc, rfl, hit⟩ := hv
  (refine S_nil ?_; refine CWD_block ?_)
  refine CWD_rangeNil rfl hS (fun _ => rfl) (by decide) (fun w1 _ => hit H w1 (HLe.refl _)) ?_ ?_
  · intro l x W
    (refine CW_skip ?_)
    first | done | rfl
  clear hit
  intro D2 H w hD2 hM2 hG'
  replace hG := hG.trans hG'
  replace hS := hG'.sub
  replace c6 := c6.grow hG'
  replace hM1 := hM1.grow hG'
  have y2 : D1 < D2 := by omega
  clear hG'
  (refine CWD_seq ?_; refine CWD_seq ?_; refine CWD_region rfl ?_)
  (refine S_op ?_; refine W_call hS (by rfl) (back_c H none trivial) ?_); rintro v H w hG' hv; replace hG := hG.trans hG'; replace hS := hG'.sub; replace c6 := c6.grow hG'; replace hM1 := hM1.grow hG'; replace hM2 := hM2.grow hG'; clear hG'
  have z2 := hM2.lt
  obtain ⟨gf, lb, hfc, rfl, hit⟩ := hv
  (refine S_nil ?_; refine CWD_block ?_)
  refine CWD_rangeNil rfl hS (fun _ => rfl) (by decide) (fun w1 _ => hit H w1 (HLe.refl _)) ?_ ?_
  · intro l x W
    (refine CW_skip ?_)
    first | done | rfl
  clear hit
  intro D3 H w hD3 hM3 hG'
  replace hG := hG.trans hG'
  replace hS := hG'.sub
  replace c6 := c6.grow hG'
  replace hM1 := hM1.grow hG'
  replace hM2 := hM2.grow hG'
  have y3 : D2 < D3 := by omega
  clear hG'
  (refine CWD_seq ?_; refine CWD_seq ?_; refine CWD_region rfl ?_; refine S_op ?_; refine W_moveStr (by first | rfl | assumption) ?_)
  (refine S_op ?_; refine W_call hS (by rfl) (backFrom_c H none k trivial) ?_); rintro v H w hG' hv; replace hG := hG.trans hG'; replace hS := hG'.sub; replace c6 := c6.grow hG'; replace hM1 := hM1.grow hG'; replace hM2 := hM2.grow hG'; replace hM3 := hM3.grow hG'; clear hG'
  have z3 := hM3.lt
  obtain ⟨gf, lb, hfc, rfl, hit⟩ := hv
  (refine S_nil ?_; refine CWD_block ?_)
  refine CWD_rangeNil rfl hS (fun _ => rfl) (by decide) (fun w1 _ => hit H w1 (HLe.refl _)) ?_ ?_
  · intro l x W
    (refine CW_skip ?_)
    first | done | rfl
  clear hit
  intro D4 H w hD4 hM4 hG'
  replace hG := hG.trans hG'
  replace hS := hG'.sub
  replace c6 := c6.grow hG'
  replace hM1 := hM1.grow hG'
  replace hM2 := hM2.grow hG'
  replace hM3 := hM3.grow hG'
  have y4 : D3 < D4 := by omega
  clear hG'
  (refine CWD_seq ?_; refine CWD_region rfl ?_; refine S_op ?_; refine W_moveStr (by first | rfl | assumption) ?_; refine S_op ?_; refine W_moveStr (by first | rfl | assumption) ?_)
  (refine S_op ?_; refine W_call hS (by rfl) (count_c H none k k2 trivial (by simp [Tr.items])) ?_); rintro v H w hG' rfl; replace hG := hG.trans hG'; replace hS := hG'.sub; replace c6 := c6.grow hG'; replace hM1 := hM1.grow hG'; replace hM2 := hM2.grow hG'; replace hM3 := hM3.grow hG'; replace hM4 := hM4.grow hG'; clear hG'
  rw [show aheadOf k2 (fromL k (Tr.items none)) = 0 from rfl]
  (refine S_op ?_; refine W_eqlT (by first | rfl | assumption) (by first | rfl | assumption) (by first | omega | rfl) ?_; refine S_op ?_; refine W_moveBool (by first | rfl | assumption) ?_; refine S_want (by rfl) ?_; refine W_moveStr (by first | rfl | assumption) ?_; refine S_want (by rfl) ?_; refine W_moveInt (by first | rfl | assumption) ?_)
  (refine S_want (by rfl) ?_; refine W_call hS (by rfl) (take_c H none k n trivial (by simp [Tr.items])) ?_); rintro v H w hG' hv; replace hG := hG.trans hG'; replace hS := hG'.sub; replace c6 := c6.grow hG'; replace hM1 := hM1.grow hG'; replace hM2 := hM2.grow hG'; replace hM3 := hM3.grow hG'; replace hM4 := hM4.grow hG'; clear hG'
  rw [show fromL k (Tr.items none) = [] from rfl, List.take_nil] at hv
  obtain ⟨A, c, rfl, _, _, _⟩ := hv
  (refine S_want (by rfl) ?_; refine W_len (by first | rfl | assumption) ?_; refine S_want (by rfl) ?_; refine W_eqlT (by first | rfl | assumption) (by first | rfl | assumption) (by first | omega | rfl) ?_; refine S_op ?_; refine W_pickT (by first | rfl | assumption) (by first | rfl | assumption) ?_)
  refine S_op0 (W_storeM (o := 0) (vs := [.bool true]) (by rfl) (by rfl) c6 (by rfl) (OneCells.of_all (by rfl)) (by rfl) (Nat.le_of_ble_eq_true (by rfl)) ?_)
  intro w5 hgb c7
  replace hG := hG.grownBy hgb (fun g h => by cases h; exact ⟨c6.out, c6h⟩)
  replace hM1 := hM1.other hgb (fun e => hM1.ne c6 (Option.some.inj e))
  replace hM2 := hM2.other hgb (fun e => hM2.ne c6 (Option.some.inj e))
  replace hM3 := hM3.other hgb (fun e => hM3.ne c6 (Option.some.inj e))
  replace hM4 := hM4.other hgb (fun e => hM4.ne c6 (Option.some.inj e))
  (refine S_nil ?_; refine CWD_ret ?_)
  have hn1 := hM1.ne c7
  have hn2 := hM2.ne c7
  have hn3 := hM3.ne c7
  have hn4 := hM4.ne c7
  refine FinD_list (H := H) ?_ (by simp; omega) hG.sub fun w' hT => ?_
  · intro D hD
    simp at hD
    rcases hD with rfl | rfl | rfl | rfl <;> assumption
  · exact ⟨_, ResW_v1 (RV_cell1 rfl (c7.turn hT (by simp; omega))), H, Turn.grow hG hT (fun b hb => by simp at hb; omega), rfl⟩
end Go.Proofs.Ytgaabmoknpifnaa
/- Loops over iterators that are left by an exit: one end; what such a loop gathers. Conditions: each law's own premises. -/
namespace Go.Proofs.Ytgaabmoknpifnaa
open Go.Proofs Go.RowKit
set_option linter.unusedVariables false
theorem CWD_rangeExit {P : Program} {α : Type} {n id : Nat} {g : Operand} {ps : Array Tmp} {assign body : Code} {f : Fr} {ds : List Nat} {gf : Nat} {lb : List Value} [FnCall P gf] {enc : α → List Value} {xs : List α} {S : Nat → Prop} {H : HF} {w : World}
    {Qn Qr : List Nat → Fr → World → Prop} {Qx : Nat → List Nat → Fr → World → Prop}
    (I Ix : Inv α) (hI : Good I) (hIx : Stable Ix) (h0 : I S [] H w)
    (hg : ev f g = .func (.func gf) #[] lb.toArray) (hS : Sub H w) (hps : ∀ x, (enc x).length = ps.size) (hpn : ∀ p ∈ ps.toList, p < n)
    (hIt : ∀ w1, Grow H w H w1 → IterAt P gf lb enc xs S H w1) (hSw : ∀ k, S k → k < w.heap.size)
    (hround : ∀ l x W, CW P (some l) n assign (fun f1 W1 => W1 = W ∧ RoundOk P n body xs I (exitI id Ix) x f1 (fun _ _ _ => True)) (fun _ _ => False) (fun _ _ _ => False) (puts ps.toList (enc x) f) W)
    (hk : ∀ D X H' W', w.heap.size ≤ D → MarkAt H' W' D → Sub H' W' → HLe H H' → X D → (I X xs H' W' ∨ ∃ pre rest, xs = pre ++ rest ∧ Ix X pre H' W') → Qn (D :: ds) f W') :
    CWD P none n (.rangeFunc g ps assign body) Qn Qr (xblkD id Qn Qx) ds f w := by
  refine CWD_range I (exitI id Ix) hI (exitI.stable hIx) h0 hg hS hps hpn hIt hSw hround ?_ ?_ ?_
  · exact fun D X H' W' hD hM hS' hle _ hX h => hk D X H' W' hD hM hS' hle hX (.inl h)
  · exact fun _ _ _ _ _ _ _ _ _ _ _ _ _ h => False.elim h
  · rintro i D X H' W' pre rest hx hD hM hS' hle _ hX ⟨rfl, h⟩
    exact xblkD_hit (hk D X H' W' hD hM hS' hle hX (.inr ⟨pre, rest, hx, h⟩))
/-- A slice of entries that is gathered in a variable b until it has n; bs: other rows of the call's own. -/
def Gath (H0 : HF) (w0 : World) (Hs : HF) (E : TypeId) (b : Nat) (bs : List Nat) (n : Int) (full : Prop) (ψ : HF → World → Prop) : Inv Ent :=
  HoldO H0 w0 (b :: bs) E 2 entCells (fun A m c pre H2 w2 => HLe Hs H2 ∧ Mut H2 w2 b [.slice A m c] ∧ m = pre.length ∧ (∀ a, A = some a → a.block ∉ b :: bs) ∧ (pre.length : Int) ≤ n ∧ ((pre.length : Int) = n ↔ full) ∧ ψ H2 w2)
theorem Gath.good {H0 Hs : HF} {w0 : World} {E : TypeId} {b : Nat} {bs : List Nat} {n : Int} {full : Prop} {ψ : HF → World → Prop} (hψ : Abides (α := Unit) bs (fun _ => ψ)) : Good (Gath H0 w0 Hs E b bs n full ψ) := by
  refine HoldO.good ?_
  rintro A m c S pre H w H' w' hs hT ⟨h1, h2, h3, h4, h5, h6, h7⟩
  exact ⟨h1.trans hT.le, h2.turn hT (hs _ (by simp)), h3, h4, h5, h6, hψ S [] H w H' w' (fun b' hb => hs b' (by simp [hb])) hT h7⟩
/-- Where it ends: the first n, or all. -/
theorem Gath.end_ {H0 Hs H : HF} {w0 w : World} {E : TypeId} {b : Nat} {bs : List Nat} {n : Int} {ψ : HF → World → Prop} {X : Nat → Prop} {xs : List Ent} (hn : 0 ≤ n)
    (h : Gath H0 w0 Hs E b bs n False ψ X xs H w ∨ ∃ pre rest, xs = pre ++ rest ∧ Gath H0 w0 Hs E b bs n True ψ X pre H w) :
    ∃ A c, Grow H0 w0 H w ∧ (∀ k, X k → w0.heap.size ≤ k) ∧ (∀ b' ∈ b :: bs, ¬ X b') ∧ Own H w w0.heap.size E 2 A (xs.take n.toNat).length c (entCells (xs.take n.toNat)) ∧ HLe Hs H ∧ Mut H w b [.slice A (xs.take n.toNat).length c] ∧ (∀ a, A = some a → a.block ∉ b :: bs ∧ ¬ X a.block) ∧ ψ H w := by
  rcases h with ⟨hG, hX, hb, A, m, c, ho, hXA, hle, hm, rfl, hA, h5, h6, h7⟩ | ⟨pre, rest, rfl, hG, hX, hb, A, m, c, ho, hXA, hle, hm, rfl, hA, h5, h6, h7⟩
  · have e : xs.take n.toNat = xs := List.take_of_length_le (by omega)
    rw [e]
    exact ⟨A, c, hG, fun k hk => (hX k hk).1, fun b' h' => (hb b' h').1, ho, hle, hm, fun a ha => ⟨hA a ha, hXA a ha⟩, h7⟩
  · have e : (pre ++ rest).take n.toNat = pre := by
      have := h6.2 trivial
      rw [List.take_append_of_le_length (by omega)]
      exact List.take_of_length_le (by omega)
    rw [e]
    exact ⟨A, c, hG, fun k hk => (hX k hk).1, fun b' h' => (hb b' h').1, ho, hle, hm, fun a ha => ⟨hA a ha, hXA a ha⟩, h7⟩
end Go.Proofs.Ytgaabmoknpifnaa
/- Regions that draw, and loops over iterators, that turn rows of the caller's. Conditions: each law's own premises. -/
namespace Go.Proofs.Ytgaabmoknpifnaa
open Go.Proofs Go.RowKit
set_option linter.unusedVariables false
theorem Turn.after {S X : Nat → Prop} {H0 H H' : HF} {w0 w w' : World} (h : Turn S H0 w0 H w) (k : Turn X H w H' w') (hX : ∀ b, X b → w0.heap.size ≤ b ∨ S b) : Turn S H0 w0 H' w' :=
  ⟨k.os.trans h.os, k.tape.trans h.tape, k.output.trans h.output, Nat.le_trans h.size k.size, fun j hj hs => (k.block j (Nat.lt_of_lt_of_le hj h.size) (fun h2 => by
    rcases hX j h2 with h3 | h3
    · omega
    · exact hs h3)).trans (h.block j hj hs), k.sub, h.le.trans k.le, fun b hb => (k.old b (Nat.lt_of_lt_of_le hb h.size)).trans (h.old b hb)⟩
/-- Behind c effects M c holds; rows of S are turned since H0, w0; Hr: the region's. -/
structure GT (S : Nat → Prop) (H0 : HF) (w0 : World) (Hr : HF) (M : Nat → HF → World → Prop) (c : Nat) (H : HF) (w : World) : Prop where
  grow : Turn S H0 w0 H w
  le : HLe Hr H
  m : M c H w
  cm : ∀ c, Closed (M c)
section
variable {S : Nat → Prop} {H0 Hr H H' : HF} {w0 w w' : World} {M : Nat → HF → World → Prop} {c : Nat}
theorem GT.sub (h : GT S H0 w0 Hr M c H w) : Sub H w := h.grow.sub
theorem GT.subOld (h : GT S H0 w0 Hr M c H w) : Sub Hr w := ⟨fun b o e => h.grow.sub.out b o (h.le b o e)⟩
theorem GT.trans (h : GT S H0 w0 Hr M c H w) (k : Grow H w H' w') : GT S H0 w0 Hr M c H' w' := ⟨h.grow.trans k.turn, h.le.trans k.le, h.cm _ _ _ _ _ h.m k, h.cm⟩
theorem GT.next (h : GT S H0 w0 Hr M c H w) (hg : Turn S H0 w0 H' w') (hle : HLe H H') (hf : M (c + 1) H' w') : GT S H0 w0 Hr M (c + 1) H' w' := ⟨hg, h.le.trans hle, hf, h.cm⟩
end
section
variable {P : Program} {r : Option Nat} {n : Nat} {f : Fr} {S : Nat → Prop} {H0 H : HF} {w0 w : World}
theorem CWD_region_gt {rid : Nat} {ops : Array Oper} {Qn Qr : List Nat → Fr → World → Prop} {Qx : Nat → List Nat → Fr → World → Prop} {ds : List Nat} (M : Nat → HF → World → Prop) (c0 : Nat) (Φ : List Fact) (es : List (Option Nat)) (Ds : List (Option Nat)) (D : List Nat)
    (hm : P.follows .mixedOrders = true) (hd : dstsOk n ops = true) (he : edgesOk ops = true) (hDs : ops.toList.map (·.dst) = Ds) (hD : dstsOf ops.toList = D) (hu : decide D.Nodup = true) (hef : effOk ops es = true) (heu : effUniq es = true)
    (hl : (es.any fun e => e == some c0) = true) (hG : Turn S H0 w0 H w) (hM : M 0 H w) (cm : ∀ c, Closed (M c)) (hst : StepsAny P r (GT S H0 w0 H M) Φ ops Ds D f ops.toList Φ es)
    (hfin : ∀ c H' w', c0 < c → Turn S H0 w0 H' w' → HLe H H' → M c H' w' → FinAny (Qn ds) H' w' ops.toList Φ f) : CWD P r n (.region rid ops true) Qn Qr Qx ds f w := by
  refine CWD_region_any (H := H) (GT S H0 w0 H M) Φ es Ds D hm hd he hDs hD hu hef heu ⟨hG.trans (Grow.drew hG.sub).turn, HLe.refl _, cm _ _ _ _ _ hM (Grow.drew hG.sub), cm⟩ hst ?_
  intro c H' w' hG hc
  simp only [List.any_eq_true] at hl
  obtain ⟨e, he1, he2⟩ := hl
  obtain ⟨j, hj, hje⟩ := List.mem_iff_getElem.1 he1
  have hes : es[j]? = some (some c0) := by
    rw [List.getElem?_eq_getElem hj, hje]
    simpa using he2
  exact hfin c H' w' (hc j c0 hes) hG.grow hG.le hG.m
theorem CW_region_gt {rid : Nat} {ops : Array Oper} {Qn Qr : Fr → World → Prop} {Qx : Nat → Fr → World → Prop} (M : Nat → HF → World → Prop) (c0 : Nat) (Φ : List Fact) (es : List (Option Nat)) (Ds : List (Option Nat)) (D : List Nat)
    (hm : P.follows .mixedOrders = true) (hd : dstsOk n ops = true) (he : edgesOk ops = true) (hDs : ops.toList.map (·.dst) = Ds) (hD : dstsOf ops.toList = D) (hu : decide D.Nodup = true) (hef : effOk ops es = true) (heu : effUniq es = true)
    (hl : (es.any fun e => e == some c0) = true) (hG : Turn S H0 w0 H w) (hM : M 0 H w) (cm : ∀ c, Closed (M c)) (hst : StepsAny P r (GT S H0 w0 H M) Φ ops Ds D f ops.toList Φ es)
    (hfin : ∀ c H' w', c0 < c → Turn S H0 w0 H' w' → HLe H H' → M c H' w' → FinAny Qn H' w' ops.toList Φ f) : CW P r n (.region rid ops true) Qn Qr Qx f w := by
  refine CW_region_any (H := H) (GT S H0 w0 H M) Φ es Ds D hm hd he hDs hD hu hef heu ⟨hG.trans (Grow.drew hG.sub).turn, HLe.refl _, cm _ _ _ _ _ hM (Grow.drew hG.sub), cm⟩ hst ?_
  intro c H' w' hG hc
  simp only [List.any_eq_true] at hl
  obtain ⟨e, he1, he2⟩ := hl
  obtain ⟨j, hj, hje⟩ := List.mem_iff_getElem.1 he1
  have hes : es[j]? = some (some c0) := by
    rw [List.getElem?_eq_getElem hj, hje]
    simpa using he2
  exact hfin c H' w' (hc j c0 hes) hG.grow hG.le hG.m
end
section
variable {P : Program} {r : Option Nat} {G : Nat → HF → World → Prop} {Φ : List Fact} {ops : Array Oper} {Ds : List (Option Nat)} {D : List Nat} {f0 : Fr} {p : Op} {ty : TypeId} {pos : String} {af : Array Edge}
theorem A_effG {φ : Fact} {k : Nat} {gd : Option Nat} {j : Nat} {b : Bool} (h : ∀ (u : Fr) (H : HF) (w : World), G k H w → DepGo Φ Ds H (fun f => yieldF ops f j = some b ∧ OpW P r ⟨gd, p, ty, pos, af, some (j, b)⟩ f w (fun v w' => ∃ H', HLe H H' ∧ G (k + 1) H' w' ∧ ∀ H'', HLe H' H'' → φ v H'')) af.toList (over D u f0)) :
    StepAny P r G Φ ops Ds D f0 ⟨gd, p, ty, pos, af, some (j, b)⟩ φ (some k) := by
  intro u H w hG
  refine depGo_mono ?_ _ _ (h u H w hG)
  rintro f ⟨hy, hf⟩
  have : wantF ops ⟨gd, p, ty, pos, af, some (j, b)⟩ f = true := by simp [wantF, hy]
  rw [if_pos this]
  exact hf
end
theorem W_loadMAggC {P : Program} {r : Option Nat} {f : Fr} {H : HF} {w : World} {K : Value → World → Prop} {d : Option Nat} {ty : TypeId} {pos : String} {af : Array Edge} {g : Option (Nat × Bool)} {T : TypeId} {x : Operand} {s : Nat} [TyAgg P T] [TySize P T s] {b o : Nat} {cs vs : List Value} (hx : ev f x = .pointer (some ⟨b, o, none⟩)) (hm : Mut H w b cs) (hc : (cs.drop o).take s = vs) (hl : vs.length = s) (hk : K (.agg vs.toArray) w) :
    OpW P r ⟨d, .load T x, ty, pos, af, g⟩ f w K := W_loadMAgg hx hm hl hc hk
section
variable {α : Type} {S : Nat → Prop} {H0 : HF} {w0 : World} {bs : List Nat} {φ : List α → HF → World → Prop}
/-- Hold, where the call has turned rows of S. -/
def HoldT (S : Nat → Prop) (H0 : HF) (w0 : World) (bs : List Nat) (φ : List α → HF → World → Prop) : Inv α :=
  fun X pre H w => Turn S H0 w0 H w ∧ (∀ k, X k → w0.heap.size ≤ k ∧ k < w.heap.size) ∧ (∀ b ∈ bs, ¬ X b ∧ b < w.heap.size) ∧ φ pre H w
theorem HoldT.good (hφ : Abides bs φ) : Good (HoldT S H0 w0 bs φ) := by
  refine ⟨?_, ?_, fun X pre H w h k hk => (h.2.1 k hk).2⟩
  · rintro X pre H w H' w' ⟨hG, hX, hb, h⟩ hT
    refine ⟨hG.after hT fun k hk => .inl (hX k hk).1, fun k hk => ?_, fun b h' => ⟨?_, Nat.lt_of_lt_of_le (hb b h').2 hT.size⟩, hφ X pre H w H' w' (fun b h' => (hb b h').1) hT h⟩
    · rcases hk with h1 | h1
      · exact ⟨(hX k h1).1, Nat.lt_of_lt_of_le (hX k h1).2 hT.size⟩
      · exact ⟨Nat.le_trans hG.size h1.1, h1.2⟩
    · rintro (h1 | h1)
      · exact (hb b h').1 h1
      · have := (hb b h').2; omega
  · rintro X X' pre H w hX ⟨h1, h2, h3, h4⟩
    exact ⟨h1, fun k hk => h2 k (hX k hk), fun b h' => ⟨fun h => (h3 b h').1 (hX b h), (h3 b h').2⟩, h4⟩
end
end Go.Proofs.Ytgaabmoknpifnaa
/- Loops over iterators in rounds of such loops. Conditions: each law's own premises. -/
namespace Go.Proofs.Ytgaabmoknpifnaa
open Go.Proofs Go.RowKit
set_option linter.unusedVariables false
set_option linter.unusedSimpArgs false
def with1 (X : Nat → Prop) (L : Nat) : Nat → Prop := fun k => X k ∨ k = L
theorem with1_new (X : Nat → Prop) (L : Nat) (w w' : World) : orNew (with1 X L) w w' = with1 (orNew X w w') L := by
  funext k; apply propext
  constructor
  · rintro ((h | h) | h)
    · exact .inl (.inl h)
    · exact .inr h
    · exact .inl (.inr h)
  · rintro ((h | h) | h)
    · exact .inl (.inl h)
    · exact .inr h
    · exact .inl (.inr h)
/-- The body is told of its own record. -/
theorem CWD_rangeFuncL {P : Program} {α : Type} {n : Nat} {g : Operand} {ps : Array Tmp} {assign body : Code} {f : Fr} {ds : List Nat} {gf : Nat} {lb : List Value} [FnCall P gf] {enc : α → List Value} {xs : List α} {S : Nat → Prop} {H : HF} {w : World}
    {Qn Qr : List Nat → Fr → World → Prop} {Qx : Nat → List Nat → Fr → World → Prop}
    (hg : ev f g = .func (.func gf) #[] lb.toArray) (hS : Sub H w) (hps : ∀ x, (enc x).length = ps.size) (hpn : ∀ p ∈ ps.toList, p < n)
    (hIt : ∀ w1, Grow H w H w1 → IterAt P gf lb enc xs S H w1) (hSw : ∀ k, S k → k < w.heap.size)
    (I : Inv α) (Ix : Code → Inv α) (hI : Stable I) (hIx : ∀ c, Stable (Ix c)) (h0 : I S [] H w)
    (A : α → Fr → Inv α) (hA : ∀ x f, Stable (A x f))
    (hassign : ∀ l X pre x rest H1 W, xs = pre ++ x :: rest → Sub H1 W → I X pre H1 W →
      CW P (some l) n assign (fun f1 W1 => ∃ H2, Turn (notIn X) H1 W H2 W1 ∧ A x f1 X pre H2 W1) (fun _ _ => False) (fun _ _ _ => False) (puts ps.toList (enc x) f) W)
    (hbody : ∀ l X pre x rest f1 H1 W, xs = pre ++ x :: rest → Sub H1 W → A x f1 X pre H1 W → (∃ o, W.heap[l]? = some (.loop o)) → X l →
      CW P (some l) n body (fun _ W' => ∃ H', Turn (notIn X) H1 W H' W' ∧ I X (pre ++ [x]) H' W') (fun _ W' => ∃ H', Turn (notIn X) H1 W H' W' ∧ Ix .ret X (pre ++ [x]) H' W')
        (fun i _ W' => ∃ H', Turn (notIn X) H1 W H' W' ∧ Ix (.exit i) X (pre ++ [x]) H' W') f1 W)
    (hdone : ∀ D X H' W', w.heap.size ≤ D → MarkAt H' W' D → Sub H' W' → HLe H H' → (∀ k, X k → S k ∨ w.heap.size ≤ k) → X D → I X xs H' W' → Qn (D :: ds) f W')
    (hret : ∀ D X H' W' pre rest, xs = pre ++ rest → w.heap.size ≤ D → MarkAt H' W' D → Sub H' W' → HLe H H' → (∀ k, X k → S k ∨ w.heap.size ≤ k) → X D → Ix .ret X pre H' W' → Qr (D :: ds) f W')
    (hexit : ∀ i D X H' W' pre rest, xs = pre ++ rest → w.heap.size ≤ D → MarkAt H' W' D → Sub H' W' → HLe H H' → (∀ k, X k → S k ∨ w.heap.size ≤ k) → X D → Ix (.exit i) X pre H' W' → Qx i (D :: ds) f W') :
    CWD P none n (.rangeFunc g ps assign body) Qn Qr Qx ds f w := by
  intro a ha hda
  refine wpIn_rangeFunc ?_
  intro fn _
  obtain ⟨rec, hrec⟩ : ∃ rec : LoopState → Option Code → Loop, rec = fun st pe => { state := st, pending := pe, fn, tmps := a.tmps, params := ps, assign, body, defers := w.heap.size } := ⟨_, rfl⟩
  obtain ⟨W1, hW1⟩ : ∃ W1, (w.alloc (.deferred (some []))).alloc (.loop (rec .ready none)) = W1 := ⟨_, rfl⟩
  obtain ⟨D, hD⟩ : ∃ D, w.heap.size = D := ⟨_, rfl⟩
  obtain ⟨L, hL⟩ : ∃ L, w.heap.size + 1 = L := ⟨_, rfl⟩
  have hDL : D ≠ L := by omega
  have hL1 : W1.heap[L]? = some (.loop (rec .ready none)) := by
    rw [← hW1, ← hL]; have := World.alloc_heap_new (w.alloc (.deferred (some []))) (.loop (rec .ready none)); rwa [World.size_alloc] at this
  have hD1 : W1.heap[D]? = some (.deferred (some [])) := by
    rw [← hW1, ← hD]; exact (Below.heap_alloc _ _ _ (by simp)).trans (World.alloc_heap_new w _)
  have hG1 : Grow H w H W1 := by
    rw [← hW1]
    exact (Grow.allocMut hS _).trans (Grow.allocMut (Grow.allocMut hS _).sub _)
  have hs1 : W1.heap.size = w.heap.size + 2 := by rw [← hW1]; simp
  have hHD : H D = none := hS.fresh (by omega)
  have hHL : H L = none := hS.fresh (by omega)
  have hSD : ¬ S D := fun h => by have := hSw D h; omega
  have hSL : ¬ S L := fun h => by have := hSw L h; omega
  have hI1 : I (with2 S D L) [] H W1 := by
    have := hI _ _ _ _ _ _ h0 hG1.turn
    have e : orNew S w W1 = with2 S D L := by
      funext k; apply propext; simp only [orNew, with2, hs1]; constructor <;> rintro (h | h)
      · exact .inl h
      · exact .inr (by omega)
      · exact .inl h
      · exact .inr (by omega)
    rwa [e] at this
  refine ⟨L, [markOf D], W1, { target := .fn (.func gf) lb.toArray, args := #[.func (.yield L) #[] #[]] }, W1, gf, (.func (.yield L) #[] #[] :: lb).toArray, W1, ?_, ?_, fun _ _ => trivial, ?_, fun h => by simp [FW] at h, ?_⟩
  · rw [← hW1, hrec, ← hL, ← hD]; exact run_enterLoop_outer _ _ _ _ _
  · simp only [resolve, ha.eval, hg]
    simp [go_sem, ev]
  · have := FnCall.out (P := P) (k := gf) (.func (.yield L) #[] #[] :: lb).toArray W1
    simp [invoke, go_sem] 
    simpa using this
  · have hJ0 : ∀ {X : Nat → Prop} {H1 : HF} {W : World} {o : Obj} {w' : World} {H' : HF} {B : Nat}, W.heap[B]? = some o → Turn X H1 W H' w' → ¬ X B → w'.heap[B]? = some o := by
      intro X H1 W o w' H' B h hT hX
      exact (hT.block B (Array.getElem?_eq_some_iff.1 h).1 hX).trans h
    let J : Inv α := fun X pre H1 W => I (with2 X D L) pre H1 W ∧ ¬ X D ∧ ¬ X L ∧ H1 D = none ∧ H1 L = none ∧ W.heap[L]? = some (.loop (rec .ready none)) ∧ W.heap[D]? = some (.deferred (some []))
    let Jx : Inv α := fun X pre H1 W => ∃ c, (c = .ret ∨ ∃ i, c = .exit i) ∧ Ix c (with2 X D L) pre H1 W ∧ ¬ X D ∧ ¬ X L ∧ H1 D = none ∧ H1 L = none ∧ W.heap[L]? = some (.loop (rec .done (some c))) ∧ W.heap[D]? = some (.deferred (some []))
    have hltB : ∀ {W : World} {B : Nat} {o : Obj}, W.heap[B]? = some o → B < W.heap.size := fun h => (Array.getElem?_eq_some_iff.1 h).1
    have hJst : Stable J := by
      rintro X pre H1 W H2 W2 ⟨h1, h2, h3, h4, h5, h6, h7⟩ hT
      refine ⟨?_, ?_, ?_, (hT.old D (hltB h7)).trans h4, (hT.old L (hltB h6)).trans h5, hJ0 h6 hT h3, hJ0 h7 hT h2⟩
      · rw [← with2_new]; exact hI _ _ _ _ _ _ h1 (hT.wider fun k _ h => .inl h)
      · rintro (h | h)
        · exact h2 h
        · have := hltB h7; omega
      · rintro (h | h)
        · exact h3 h
        · have := hltB h6; omega
    have hJxst : Stable Jx := by
      rintro X pre H1 W H2 W2 ⟨c, hc, h1, h2, h3, h4, h5, h6, h7⟩ hT
      refine ⟨c, hc, ?_, ?_, ?_, (hT.old D (hltB h7)).trans h4, (hT.old L (hltB h6)).trans h5, hJ0 h6 hT h3, hJ0 h7 hT h2⟩
      · rw [← with2_new]; exact hIx c _ _ _ _ _ _ h1 (hT.wider fun k _ h => .inl h)
      · rintro (h | h)
        · exact h2 h
        · have := hltB h7; omega
      · rintro (h | h)
        · exact h3 h
        · have := hltB h6; omega
    have hYi : Yields P (.func (.yield L) #[] #[]) enc xs J Jx := by
      rintro X pre x rest H1 W hx hSW ⟨hi, hXD, hXL, h4, h5, h6, h7⟩
      have hy := run_yield (P := P) (args := (enc x).toArray) h6 (by rw [hrec]; simp [hps])
      rw [hrec] at hy
      refine CallV_yield hy ?_
      simp only [zip_foldl_arr]
      refine roundIn_of_CW (n := n) (puts_rep _ _ _ _ hpn ⟨ha.size, ha.at_⟩) ?_
      have hnD : ¬ notIn (with2 X D L) D := fun h => h (.inr (.inl rfl))
      have hnL : ¬ notIn (with2 X D L) L := fun h => h (.inr (.inr rfl))
      have hnX : ∀ k, notIn (with2 X D L) k → notIn X k := fun k h h2 => h (.inl h2)
      have hnXL : ∀ k, k = L → notIn X k := fun k e h => hXL (by rwa [e] at h)
      refine CW_mono (hassign L (with2 X D L) pre x rest H1 W hx hSW hi) ?_ (fun _ _ h => h.elim) (fun _ _ _ h => h.elim)
      rintro f1 Wa ⟨H2, hTa, hax⟩
      have h6a := hJ0 h6 hTa hnL
      have h7a := hJ0 h7 hTa hnD
      have h4a := (hTa.old D (hltB h7)).trans h4
      have h5a := (hTa.old L (hltB h6)).trans h5
      refine ⟨_, run_beginRound h6a (by rw [hrec]), ?_⟩
      obtain ⟨Wb, hWb⟩ : ∃ Wb, Wa.putObj L (.loop { rec .ready none with state := .busy }) = Wb := ⟨_, rfl⟩
      rw [hWb]
      have hTb : Turn (fun k => k = L) H2 Wa H2 Wb := by rw [← hWb]; exact Turn.put hTa.sub h5a _
      have hab : A x f1 (with2 X D L) pre H2 Wb := by rw [← hWb]; exact (hA x f1).put hTa.sub h5a (.inr (.inr rfl)) _ hax
      have h6b : Wb.heap[L]? = some (.loop { rec .ready none with state := .busy }) := by rw [← hWb]; exact World.putObj_heap_same (hltB h6a)
      have h7b : Wb.heap[D]? = some (.deferred (some [])) := by rw [← hWb]; exact (World.putObj_heap_other hDL).trans h7a
      have fin : ∀ (jump : Option Code) (W3 : World) (H3 : HF), Turn (notIn (with2 X D L)) H2 Wb H3 W3 →
          ∃ W4, (Instr.endRound L jump).run P W3 = .ok (.bool jump.isNone) W4 ∧ W4 = W3.putObj L (.loop (rec (if jump.isNone then .ready else .done) jump)) ∧ H3 D = none ∧ H3 L = none ∧
            W4.heap[L]? = some (.loop (rec (if jump.isNone then .ready else .done) jump)) ∧ W4.heap[D]? = some (.deferred (some [])) ∧ Turn (notIn X) H1 W H3 W4 := by
        intro jump W3 H3 hT3
        have h6c := hJ0 h6b hT3 hnL
        have h7c := hJ0 h7b hT3 hnD
        have h5c := (hT3.old L (hltB h6b)).trans h5a
        have h4c := (hT3.old D (hltB h7b)).trans h4a
        have hr := run_endRound (P := P) jump h6c
        rw [hrec] at hr ⊢
        refine ⟨_, hr, rfl, h4c, h5c, World.putObj_heap_same (hltB h6c), (World.putObj_heap_other hDL).trans h7c, ?_⟩
        exact (((hTa.wider fun k _ => hnX k).trans (hTb.wider fun k _ => hnXL k)).trans (hT3.wider fun k _ => hnX k)).trans ((Turn.put hT3.sub h5c _).wider fun k _ => hnXL k)
      refine CW_mono (hbody L (with2 X D L) pre x rest f1 H2 Wb hx hTb.sub hab ⟨_, h6b⟩ (.inr (.inr rfl))) ?_ ?_ ?_
      · rintro _ W3 ⟨H3, hT3, hi3⟩
        obtain ⟨W4, hr, rfl, h4d, h5d, h6d, h7d, hT⟩ := fin none W3 H3 hT3
        exact ⟨_, _, hr, H3, hT, .inl ⟨rfl, hI.put hT3.sub h5d (.inr (.inr rfl)) _ hi3, hXD, hXL, h4d, h5d, h6d, h7d⟩⟩
      · rintro _ W3 ⟨H3, hT3, hi3⟩
        obtain ⟨W4, hr, rfl, h4d, h5d, h6d, h7d, hT⟩ := fin (some .ret) W3 H3 hT3
        exact ⟨_, _, hr, H3, hT, .inr ⟨rfl, .ret, .inl rfl, (hIx _).put hT3.sub h5d (.inr (.inr rfl)) _ hi3, hXD, hXL, h4d, h5d, h6d, h7d⟩⟩
      · rintro i _ W3 ⟨H3, hT3, hi3⟩
        obtain ⟨W4, hr, rfl, h4d, h5d, h6d, h7d, hT⟩ := fin (some (.exit i)) W3 H3 hT3
        exact ⟨_, _, hr, H3, hT, .inr ⟨rfl, .exit i, .inr ⟨i, rfl⟩, (hIx _).put hT3.sub h5d (.inr (.inr rfl)) _ hi3, hXD, hXL, h4d, h5d, h6d, h7d⟩⟩
    have hcall := hIt W1 hG1 (.func (.yield L) #[] #[]) J Jx S rfl (fun _ h => h) (fun k hk => by have := hSw k hk; omega) hJst hJxst hYi hG1.sub ⟨hI1, hSD, hSL, hHD, hHL, hL1, hD1⟩
    refine (callsIn_of (r := none) hcall).mono ?_
    rintro e w' ⟨v, rfl, H', X', hT, hX1, hX2, hend⟩
    have hXw : ∀ k, with2 X' D L k → S k ∨ w.heap.size ≤ k := by
      rintro k (h | h)
      · rcases hX2 k h with h | h
        · exact .inl h
        · exact .inr (by omega)
      · exact .inr (by omega)
    rcases hend with ⟨hi, hXD, hXL, h4, h5, h6, h7⟩ | ⟨pre, rest, hx, c, hc, hi, hXD, hXL, h4, h5, h6, h7⟩
    · refine ⟨none, w'.putObj L (.loop { rec .ready none with state := .exhausted }), ?_, ?_⟩
      · have := run_endLoop (P := P) h6 (by rw [hrec]; simp)
        rw [hrec] at this ⊢; exact this
      · refine ⟨f, D :: ds, ⟨ha.size, ha.at_⟩, by simp [hda], ?_⟩
        exact hdone D _ H' _ (by omega) ⟨h4, (World.putObj_heap_other hDL).trans h7⟩ (Turn.put hT.sub h5 _).sub hT.le hXw (.inr (.inl rfl)) (hI.put hT.sub h5 (.inr (.inr rfl)) _ hi)
    · refine ⟨some c, w'.putObj L (.loop { rec .done (some c) with state := .exhausted }), ?_, ?_⟩
      · have := run_endLoop (P := P) h6 (by rw [hrec]; simp)
        rw [hrec] at this ⊢; exact this
      · have hq := (hIx c).put hT.sub h5 (.inr (.inr rfl)) (.loop { rec .done (some c) with state := .exhausted }) hi
        have hM : MarkAt H' (w'.putObj L (.loop { rec .done (some c) with state := .exhausted })) D := ⟨h4, (World.putObj_heap_other hDL).trans h7⟩
        rcases hc with rfl | ⟨i, rfl⟩
        · refine wpIn_ret ⟨f, D :: ds, ⟨ha.size, ha.at_⟩, by simp [hda], ?_⟩
          exact hret D _ H' _ pre rest hx (by omega) hM (Turn.put hT.sub h5 _).sub hT.le hXw (.inr (.inl rfl)) hq
        · refine wpIn_exit ⟨f, D :: ds, ⟨ha.size, ha.at_⟩, by simp [hda], ?_⟩
          exact hexit i D _ H' _ pre rest hx (by omega) hM (Turn.put hT.sub h5 _).sub hT.le hXw (.inr (.inl rfl)) hq
/-- A loop over an iterator within a round. -/
theorem CW_rangeIn {P : Program} {α : Type} {n : Nat} {g : Operand} {ps : Array Tmp} {assign body : Code} {f : Fr} {l0 : Nat} {r0 : Loop} {gf : Nat} {lb : List Value} [FnCall P gf] {enc : α → List Value} {xs : List α} {S : Nat → Prop} {H : HF} {w : World}
    {Qn Qr : Fr → World → Prop} {Qx : Nat → Fr → World → Prop}
    (hl0 : w.heap[l0]? = some (.loop r0))
    (hg : ev f g = .func (.func gf) #[] lb.toArray) (hS : Sub H w) (hps : ∀ x, (enc x).length = ps.size) (hpn : ∀ p ∈ ps.toList, p < n)
    (hIt : ∀ w1, Grow H w H w1 → IterAt P gf lb enc xs S H w1) (hSw : ∀ k, S k → k < w.heap.size)
    (I : Inv α) (Ix : Code → Inv α) (hI : Stable I) (hIx : ∀ c, Stable (Ix c)) (h0 : I S [] H w)
    (A : α → Fr → Inv α) (hA : ∀ x f, Stable (A x f))
    (hassign : ∀ l X pre x rest H1 W, xs = pre ++ x :: rest → Sub H1 W → I X pre H1 W →
      CW P (some l) n assign (fun f1 W1 => ∃ H2, Turn (notIn X) H1 W H2 W1 ∧ A x f1 X pre H2 W1) (fun _ _ => False) (fun _ _ _ => False) (puts ps.toList (enc x) f) W)
    (hbody : ∀ l X pre x rest f1 H1 W, xs = pre ++ x :: rest → Sub H1 W → A x f1 X pre H1 W →
      CW P (some l) n body (fun _ W' => ∃ H', Turn (notIn X) H1 W H' W' ∧ I X (pre ++ [x]) H' W') (fun _ W' => ∃ H', Turn (notIn X) H1 W H' W' ∧ Ix .ret X (pre ++ [x]) H' W')
        (fun i _ W' => ∃ H', Turn (notIn X) H1 W H' W' ∧ Ix (.exit i) X (pre ++ [x]) H' W') f1 W)
    (hdone : ∀ X H' W', Sub H' W' → HLe H H' → (∀ k, X k → S k ∨ w.heap.size ≤ k) → I X xs H' W' → Qn f W')
    (hret : ∀ X H' W' pre rest, xs = pre ++ rest → Sub H' W' → HLe H H' → (∀ k, X k → S k ∨ w.heap.size ≤ k) → Ix .ret X pre H' W' → Qr f W')
    (hexit : ∀ i X H' W' pre rest, xs = pre ++ rest → Sub H' W' → HLe H H' → (∀ k, X k → S k ∨ w.heap.size ≤ k) → Ix (.exit i) X pre H' W' → Qx i f W') :
    CW P (some l0) n (.rangeFunc g ps assign body) Qn Qr Qx f w := by
  intro a ha hda
  refine wpIn_rangeFunc ?_
  intro fn _
  obtain ⟨rec, hrec⟩ : ∃ rec : LoopState → Option Code → Loop, rec = fun st pe => { state := st, pending := pe, fn, tmps := a.tmps, params := ps, assign, body, defers := r0.defers } := ⟨_, rfl⟩
  obtain ⟨W1, hW1⟩ : ∃ W1, w.alloc (.loop (rec .ready none)) = W1 := ⟨_, rfl⟩
  obtain ⟨L, hL⟩ : ∃ L, w.heap.size = L := ⟨_, rfl⟩
  have hL1 : W1.heap[L]? = some (.loop (rec .ready none)) := by
    rw [← hW1, ← hL]; exact World.alloc_heap_new w _
  have hG1 : Grow H w H W1 := by
    rw [← hW1]
    exact Grow.allocMut hS _
  have hs1 : W1.heap.size = w.heap.size + 1 := by rw [← hW1]; simp
  have hHL : H L = none := hS.fresh (by omega)
  have hSL : ¬ S L := fun h => by have := hSw L h; omega
  have hI1 : I (with1 S L) [] H W1 := by
    have := hI _ _ _ _ _ _ h0 hG1.turn
    have e : orNew S w W1 = with1 S L := by
      funext k; apply propext; simp only [orNew, with1, hs1]; constructor <;> rintro (h | h)
      · exact .inl h
      · exact .inr (by omega)
      · exact .inl h
      · exact .inr (by omega)
    rwa [e] at this
  refine ⟨L, [], W1, { target := .fn (.func gf) lb.toArray, args := #[.func (.yield L) #[] #[]] }, W1, gf, (.func (.yield L) #[] #[] :: lb).toArray, W1, ?_, ?_, fun _ _ => trivial, ?_, fun h => by simp [FW] at h, ?_⟩
  · rw [← hW1, hrec, ← hL]; exact run_enterLoop_inner hl0 _ _ _ _ _
  · simp only [resolve, ha.eval, hg]
    simp [go_sem, ev]
  · have := FnCall.out (P := P) (k := gf) (.func (.yield L) #[] #[] :: lb).toArray W1
    simp [invoke, go_sem] 
    simpa using this
  · have hJ0 : ∀ {X : Nat → Prop} {H1 : HF} {W : World} {o : Obj} {w' : World} {H' : HF} {B : Nat}, W.heap[B]? = some o → Turn X H1 W H' w' → ¬ X B → w'.heap[B]? = some o := by
      intro X H1 W o w' H' B h hT hX
      exact (hT.block B (Array.getElem?_eq_some_iff.1 h).1 hX).trans h
    let J : Inv α := fun X pre H1 W => I (with1 X L) pre H1 W ∧ ¬ X L ∧ H1 L = none ∧ W.heap[L]? = some (.loop (rec .ready none))
    let Jx : Inv α := fun X pre H1 W => ∃ c, (c = .ret ∨ ∃ i, c = .exit i) ∧ Ix c (with1 X L) pre H1 W ∧ ¬ X L ∧ H1 L = none ∧ W.heap[L]? = some (.loop (rec .done (some c)))
    have hltB : ∀ {W : World} {B : Nat} {o : Obj}, W.heap[B]? = some o → B < W.heap.size := fun h => (Array.getElem?_eq_some_iff.1 h).1
    have hJst : Stable J := by
      rintro X pre H1 W H2 W2 ⟨h1, h3, h5, h6⟩ hT
      refine ⟨?_, ?_, (hT.old L (hltB h6)).trans h5, hJ0 h6 hT h3⟩
      · rw [← with1_new]; exact hI _ _ _ _ _ _ h1 (hT.wider fun k _ h => .inl h)
      · rintro (h | h)
        · exact h3 h
        · have := hltB h6; omega
    have hJxst : Stable Jx := by
      rintro X pre H1 W H2 W2 ⟨c, hc, h1, h3, h5, h6⟩ hT
      refine ⟨c, hc, ?_, ?_, (hT.old L (hltB h6)).trans h5, hJ0 h6 hT h3⟩
      · rw [← with1_new]; exact hIx c _ _ _ _ _ _ h1 (hT.wider fun k _ h => .inl h)
      · rintro (h | h)
        · exact h3 h
        · have := hltB h6; omega
    have hYi : Yields P (.func (.yield L) #[] #[]) enc xs J Jx := by
      rintro X pre x rest H1 W hx hSW ⟨hi, hXL, h5, h6⟩
      have hy := run_yield (P := P) (args := (enc x).toArray) h6 (by rw [hrec]; simp [hps])
      rw [hrec] at hy
      refine CallV_yield hy ?_
      simp only [zip_foldl_arr]
      refine roundIn_of_CW (n := n) (puts_rep _ _ _ _ hpn ⟨ha.size, ha.at_⟩) ?_
      have hnL : ¬ notIn (with1 X L) L := fun h => h (.inr rfl)
      have hnX : ∀ k, notIn (with1 X L) k → notIn X k := fun k h h2 => h (.inl h2)
      have hnXL : ∀ k, k = L → notIn X k := fun k e h => hXL (by rwa [e] at h)
      refine CW_mono (hassign L (with1 X L) pre x rest H1 W hx hSW hi) ?_ (fun _ _ h => h.elim) (fun _ _ _ h => h.elim)
      rintro f1 Wa ⟨H2, hTa, hax⟩
      have h6a := hJ0 h6 hTa hnL
      have h5a := (hTa.old L (hltB h6)).trans h5
      refine ⟨_, run_beginRound h6a (by rw [hrec]), ?_⟩
      obtain ⟨Wb, hWb⟩ : ∃ Wb, Wa.putObj L (.loop { rec .ready none with state := .busy }) = Wb := ⟨_, rfl⟩
      rw [hWb]
      have hTb : Turn (fun k => k = L) H2 Wa H2 Wb := by rw [← hWb]; exact Turn.put hTa.sub h5a _
      have hab : A x f1 (with1 X L) pre H2 Wb := by rw [← hWb]; exact (hA x f1).put hTa.sub h5a (.inr rfl) _ hax
      have h6b : Wb.heap[L]? = some (.loop { rec .ready none with state := .busy }) := by rw [← hWb]; exact World.putObj_heap_same (hltB h6a)
      have fin : ∀ (jump : Option Code) (W3 : World) (H3 : HF), Turn (notIn (with1 X L)) H2 Wb H3 W3 →
          ∃ W4, (Instr.endRound L jump).run P W3 = .ok (.bool jump.isNone) W4 ∧ W4 = W3.putObj L (.loop (rec (if jump.isNone then .ready else .done) jump)) ∧ H3 L = none ∧
            W4.heap[L]? = some (.loop (rec (if jump.isNone then .ready else .done) jump)) ∧ Turn (notIn X) H1 W H3 W4 := by
        intro jump W3 H3 hT3
        have h6c := hJ0 h6b hT3 hnL
        have h5c := (hT3.old L (hltB h6b)).trans h5a
        have hr := run_endRound (P := P) jump h6c
        rw [hrec] at hr ⊢
        refine ⟨_, hr, rfl, h5c, World.putObj_heap_same (hltB h6c), ?_⟩
        exact (((hTa.wider fun k _ => hnX k).trans (hTb.wider fun k _ => hnXL k)).trans (hT3.wider fun k _ => hnX k)).trans ((Turn.put hT3.sub h5c _).wider fun k _ => hnXL k)
      refine CW_mono (hbody L (with1 X L) pre x rest f1 H2 Wb hx hTb.sub hab) ?_ ?_ ?_
      · rintro _ W3 ⟨H3, hT3, hi3⟩
        obtain ⟨W4, hr, rfl, h5d, h6d, hT⟩ := fin none W3 H3 hT3
        exact ⟨_, _, hr, H3, hT, .inl ⟨rfl, hI.put hT3.sub h5d (.inr rfl) _ hi3, hXL, h5d, h6d⟩⟩
      · rintro _ W3 ⟨H3, hT3, hi3⟩
        obtain ⟨W4, hr, rfl, h5d, h6d, hT⟩ := fin (some .ret) W3 H3 hT3
        exact ⟨_, _, hr, H3, hT, .inr ⟨rfl, .ret, .inl rfl, (hIx _).put hT3.sub h5d (.inr rfl) _ hi3, hXL, h5d, h6d⟩⟩
      · rintro i _ W3 ⟨H3, hT3, hi3⟩
        obtain ⟨W4, hr, rfl, h5d, h6d, hT⟩ := fin (some (.exit i)) W3 H3 hT3
        exact ⟨_, _, hr, H3, hT, .inr ⟨rfl, .exit i, .inr ⟨i, rfl⟩, (hIx _).put hT3.sub h5d (.inr rfl) _ hi3, hXL, h5d, h6d⟩⟩
    have hcall := hIt W1 hG1 (.func (.yield L) #[] #[]) J Jx S rfl (fun _ h => h) (fun k hk => by have := hSw k hk; omega) hJst hJxst hYi hG1.sub ⟨hI1, hSL, hHL, hL1⟩
    refine (callsIn_of (r := some l0) hcall).mono ?_
    rintro e w' ⟨v, rfl, H', X', hT, hX1, hX2, hend⟩
    have hXw : ∀ k, with1 X' L k → S k ∨ w.heap.size ≤ k := by
      rintro k (h | h)
      · rcases hX2 k h with h | h
        · exact .inl h
        · exact .inr (by omega)
      · exact .inr (by omega)
    rcases hend with ⟨hi, hXL, h5, h6⟩ | ⟨pre, rest, hx, c, hc, hi, hXL, h5, h6⟩
    · refine ⟨none, w'.putObj L (.loop { rec .ready none with state := .exhausted }), ?_, ?_⟩
      · have := run_endLoop (P := P) h6 (by rw [hrec]; simp)
        rw [hrec] at this ⊢; exact this
      · refine ⟨f, [], ⟨ha.size, ha.at_⟩, by simp [hda], rfl, ?_⟩
        exact hdone _ H' _ (Turn.put hT.sub h5 _).sub hT.le hXw (hI.put hT.sub h5 (.inr rfl) _ hi)
    · refine ⟨some c, w'.putObj L (.loop { rec .done (some c) with state := .exhausted }), ?_, ?_⟩
      · have := run_endLoop (P := P) h6 (by rw [hrec]; simp)
        rw [hrec] at this ⊢; exact this
      · have hq := (hIx c).put hT.sub h5 (.inr rfl) (.loop { rec .done (some c) with state := .exhausted }) hi
        rcases hc with rfl | ⟨i, rfl⟩
        · refine wpIn_ret ⟨f, [], ⟨ha.size, ha.at_⟩, by simp [hda], rfl, ?_⟩
          exact hret _ H' _ pre rest hx (Turn.put hT.sub h5 _).sub hT.le hXw hq
        · refine wpIn_exit ⟨f, [], ⟨ha.size, ha.at_⟩, by simp [hda], rfl, ?_⟩
          exact hexit i _ H' _ pre rest hx (Turn.put hT.sub h5 _).sub hT.le hXw hq
/-- The body's walk, told of its record. -/
def RoundOkL {α : Type} (P : Program) (n : Nat) (body : Code) (xs : List α) (I : Inv α) (Ix : Code → Inv α) (x : α) (f : Fr)  : Prop :=
  ∀ l X pre rest H W, xs = pre ++ x :: rest → Sub H W → I X pre H W → (∃ o, W.heap[l]? = some (.loop o)) → X l →
      CW P (some l) n body (fun _ W' => ∃ H', Turn (notIn X) H W H' W' ∧ I X (pre ++ [x]) H' W') (fun _ W' => ∃ H', Turn (notIn X) H W H' W' ∧ Ix .ret X (pre ++ [x]) H' W')
        (fun i _ W' => ∃ H', Turn (notIn X) H W H' W' ∧ Ix (.exit i) X (pre ++ [x]) H' W') f W
/-- The loop variables lie in temporaries. -/
theorem CWD_rangeL {P : Program} {α : Type} {n : Nat} {g : Operand} {ps : Array Tmp} {assign body : Code} {f : Fr} {ds : List Nat} {gf : Nat} {lb : List Value} [FnCall P gf] {enc : α → List Value} {xs : List α} {S : Nat → Prop} {H : HF} {w : World}
    {Qn Qr : List Nat → Fr → World → Prop} {Qx : Nat → List Nat → Fr → World → Prop}
    (I : Inv α) (Ix : Code → Inv α) (hI : Good I) (hIx : ∀ c, Stable (Ix c)) (h0 : I S [] H w)
    (hg : ev f g = .func (.func gf) #[] lb.toArray) (hS : Sub H w) (hps : ∀ x, (enc x).length = ps.size) (hpn : ∀ p ∈ ps.toList, p < n)
    (hIt : ∀ w1, Grow H w H w1 → IterAt P gf lb enc xs S H w1) (hSw : ∀ k, S k → k < w.heap.size)
    (hround : ∀ l x W, CW P (some l) n assign (fun f1 W1 => W1 = W ∧ RoundOkL P n body xs I Ix x f1) (fun _ _ => False) (fun _ _ _ => False) (puts ps.toList (enc x) f) W)
    (hdone : ∀ D X H' W', w.heap.size ≤ D → MarkAt H' W' D → Sub H' W' → HLe H H' → (∀ k, X k → S k ∨ w.heap.size ≤ k) → X D → I X xs H' W' → Qn (D :: ds) f W')
    (hret : ∀ D X H' W' pre rest, xs = pre ++ rest → w.heap.size ≤ D → MarkAt H' W' D → Sub H' W' → HLe H H' → (∀ k, X k → S k ∨ w.heap.size ≤ k) → X D → Ix .ret X pre H' W' → Qr (D :: ds) f W')
    (hexit : ∀ i D X H' W' pre rest, xs = pre ++ rest → w.heap.size ≤ D → MarkAt H' W' D → Sub H' W' → HLe H H' → (∀ k, X k → S k ∨ w.heap.size ≤ k) → X D → Ix (.exit i) X pre H' W' → Qx i (D :: ds) f W') :
    CWD P none n (.rangeFunc g ps assign body) Qn Qr Qx ds f w := by
  refine CWD_rangeFuncL hg hS hps hpn hIt hSw I Ix hI.stable hIx h0 (fun x f1 X pre H W => I X pre H W ∧ RoundOkL P n body xs I Ix x f1)
    (fun x f1 X pre H1 W H2 W2 h hT => ⟨hI.stable _ _ _ _ _ _ h.1 hT, h.2⟩) ?_ ?_ hdone hret hexit
  · intro l X pre x rest H1 W hx hS1 hi
    refine CW_mono (hround l x W) ?_ (fun _ _ h => h) (fun _ _ _ h => h)
    rintro f1 W1 ⟨rfl, hb⟩
    exact ⟨H1, Turn.refl hS1, hi, hb⟩
  · intro l X pre x rest f1 H1 W hx hS1 h hl hXl
    exact h.2 l X pre rest H1 W hx hS1 h.1 hl hXl
/-- The loop variables lie in temporaries. -/
theorem CW_rangeP {P : Program} {α : Type} {n : Nat} {g : Operand} {ps : Array Tmp} {assign body : Code} {f : Fr} {l0 : Nat} {r0 : Loop} {gf : Nat} {lb : List Value} [FnCall P gf] {enc : α → List Value} {xs : List α} {S : Nat → Prop} {H : HF} {w : World}
    {Qn Qr : Fr → World → Prop} {Qx : Nat → Fr → World → Prop}
    (hl0 : w.heap[l0]? = some (.loop r0))
    (I : Inv α) (Ix : Code → Inv α) (hI : Good I) (hIx : ∀ c, Stable (Ix c)) (h0 : I S [] H w)
    (hg : ev f g = .func (.func gf) #[] lb.toArray) (hS : Sub H w) (hps : ∀ x, (enc x).length = ps.size) (hpn : ∀ p ∈ ps.toList, p < n)
    (hIt : ∀ w1, Grow H w H w1 → IterAt P gf lb enc xs S H w1) (hSw : ∀ k, S k → k < w.heap.size)
    (hround : ∀ l x W, CW P (some l) n assign (fun f1 W1 => W1 = W ∧ RoundOk P n body xs I Ix x f1 (fun _ _ _ => True)) (fun _ _ => False) (fun _ _ _ => False) (puts ps.toList (enc x) f) W)
    (hdone : ∀ X H' W', Sub H' W' → HLe H H' → (∀ k, X k → S k ∨ w.heap.size ≤ k) → I X xs H' W' → Qn f W')
    (hret : ∀ X H' W' pre rest, xs = pre ++ rest → Sub H' W' → HLe H H' → (∀ k, X k → S k ∨ w.heap.size ≤ k) → Ix .ret X pre H' W' → Qr f W')
    (hexit : ∀ i X H' W' pre rest, xs = pre ++ rest → Sub H' W' → HLe H H' → (∀ k, X k → S k ∨ w.heap.size ≤ k) → Ix (.exit i) X pre H' W' → Qx i f W') :
    CW P (some l0) n (.rangeFunc g ps assign body) Qn Qr Qx f w := by
  refine CW_rangeIn hl0 hg hS hps hpn hIt hSw I Ix hI.stable hIx h0 (fun x f1 X pre H W => I X pre H W ∧ RoundOk P n body xs I Ix x f1 (fun _ _ _ => True))
    (fun x f1 X pre H1 W H2 W2 h hT => ⟨hI.stable _ _ _ _ _ _ h.1 hT, h.2⟩) ?_ ?_ hdone hret hexit
  · intro l X pre x rest H1 W hx hS1 hi
    refine CW_mono (hround l x W) ?_ (fun _ _ h => h) (fun _ _ _ h => h)
    rintro f1 W1 ⟨rfl, hb⟩
    exact ⟨H1, Turn.refl hS1, hi, hb⟩
  · intro l X pre x rest f1 H1 W hx hS1 h
    exact h.2 l X pre rest H1 W hx hS1 h.1 trivial
end Go.Proofs.Ytgaabmoknpifnaa
/- WalkAgain, walked. Conditions: sizes. -/
namespace Go.Proofs.Ytgaabmoknpifnaa
open Go.Proofs Go.RowKit
set_option linter.unusedVariables false
attribute [local irreducible] CW CWD SeqW OpW CallV
set_option maxHeartbeats 8000000
set_option maxRecDepth 4000
theorem RV_one {P : Program} {f : Fr} {H : HF} {w : World} {a b : Nat} {T : TypeId} {v : Value} [TyOne P T] (hx : f a = .pointer (some ⟨b, 0, none⟩)) (hm : Mut H w b [v]) : RV P f w (.cell a T) v := by
  refine ⟨b, hx, ?_⟩
  have hc : w.cell? ⟨b, 0, none⟩ = some v := Sub.mut_or hm (j := 0) rfl
  simp [loadVar, TyOne.agg (P := P) (T := T), hc]
/-- A function value that gives xs, in every later heap. -/
def ItF {α : Type} (P : Program) (gf : Nat) (lb : List Value) (enc : α → List Value) (xs : List α) (H : HF) : Prop := ∀ H1 w1, HLe H H1 → IterAt P gf lb enc xs (fun _ => False) H1 w1
theorem ItF.mono {α : Type} {P : Program} {gf : Nat} {lb : List Value} {enc : α → List Value} {xs : List α} {H H' : HF} (h : ItF P gf lb enc xs H) (hle : HLe H H') : ItF P gf lb enc xs H' := fun H1 w1 h1 => h H1 w1 (hle.trans h1)
theorem ent_here {xs pre rest : List Ent} {x : Ent} (h : xs = pre ++ x :: rest) : pre.length < xs.length ∧ ent xs pre.length = x := by
  subst h; simp [ent]
theorem walkAgain_c (H0 : HF) (A : Option Addr) (c : Nat) (l : List Ent) (k : ByteArray) (m : Nat) (hl : EntsAt H0 A l) (hb : l.length ≤ 100000000000000) (hs : ∀ e ∈ l, e.key.size ≤ 150000000000000 ∧ e.val.size ≤ 150000000000000) (hk : k.size ≤ 150000000000000) (hm : m < 256) :
    Fn Try.prog 4 [.slice A l.length c, .string k, .int .u8 (m : Int)] H0 fun v _ => v = .bool true := by
  refine Fn_of_CWD Try.func4 rfl Try.ntmps4 Try.results4 rfl fun w0 hS => ?_; have hS0 := hS; have hG := Grow.refl hS
  (refine CWD_seq ?_; refine CWD_region rfl ?_)
  (refine S_op (W_box1 hS (by rfl) (by first | rfl | assumption) ?_)); intro H w _ hG' h5; replace hG := hG.trans hG'; replace hS := hG'.sub; replace hl := hl.mono hG'.le; clear hG'
  skip
  (refine S_op (W_alloc hS ?_)); intro w c6b hG' c6h c6; replace c6h := Nat.le_trans hG.below.size (Nat.le_of_eq c6h); replace hG := hG.trans hG'; replace hS := hG'.sub; clear hG'
  (refine S_nil ?_; refine CWD_seq ?_; refine CWD_seq ?_; refine CWD_region rfl ?_)
  (refine S_op ?_; refine W_call hS (by rfl) (awake11_c H) ?_); rintro v H w hG' rfl; replace hG := hG.trans hG'; replace hS := hG'.sub; replace hl := hl.mono hG'.le; replace h5 := hG'.le _ _ h5; replace c6 := c6.grow hG'; clear hG'
  (refine S_op ?_; refine W_not (by first | rfl | assumption) ?_; refine S_nil ?_; refine CWD_false (by first | rfl | assumption) ?_; refine CWD_skip ?_; refine CWD_seq ?_; refine CWD_region rfl ?_; refine S_op ?_; refine W_moveSl (by first | rfl | assumption) ?_)
  (refine S_op ?_; refine W_call hS (by rfl) (built11_c H A c l hl hb hs) ?_); rintro v H w hG' ⟨t, s, z, rfl, hz, hz0⟩; replace hG := hG.trans hG'; replace hS := hG'.sub; replace h5 := hG'.le _ _ h5; replace c6 := c6.grow hG'; clear hG'
  cases z with
  | false =>
    obtain ⟨rfl, rfl⟩ := hz0 rfl
    (refine S_op ?_; refine W_moveTup (by first | rfl | assumption) ?_; refine S_op ?_; refine W_extract (by first | rfl | assumption) (by rfl) ?_; refine S_op ?_; refine W_extract (by first | rfl | assumption) (by rfl) ?_; refine S_op ?_; refine W_extract (by first | rfl | assumption) (by rfl) ?_; refine S_op ?_; refine W_assignPtr (by first | rfl | assumption) ?_; refine S_op ?_; refine W_assignSl (by first | rfl | assumption) ?_; refine S_op ?_; refine W_assignBool (by first | rfl | assumption) ?_; refine S_nil ?_; refine CWD_seq ?_; refine CWD_seq ?_; refine CWD_region rfl ?_; refine S_op ?_; refine W_moveBool (by first | rfl | assumption) ?_; refine S_op ?_; refine W_not (by first | rfl | assumption) ?_; refine S_op ?_; refine W_moveBool (by first | rfl | assumption) ?_; refine S_pass (by rfl) ?_; refine S_pass (by rfl) ?_; refine S_pass (by rfl) ?_; refine S_op ?_; refine W_pickT (by first | rfl | assumption) (by first | rfl | assumption) ?_; refine S_op ?_; refine W_moveBool (by first | rfl | assumption) ?_; refine S_pass (by rfl) ?_; refine S_pass (by rfl) ?_; refine S_pass (by rfl) ?_; refine S_op ?_; refine W_pickT (by first | rfl | assumption) (by first | rfl | assumption) ?_; refine S_nil ?_; refine CWD_true (by first | rfl | assumption) ?_; refine CWD_seq ?_; refine CWD_region rfl ?_)
    (refine S_op0 (W_storeM (o := 0) (vs := [.bool true]) (by rfl) (by rfl) c6 (by rfl) (OneCells.of_all (by rfl)) (by rfl) (Nat.le_of_ble_eq_true (by rfl)) ?_)); intro w hgb' hm'; replace hG := hG.grownBy hgb' (fun g h => by cases h; exact ⟨c6.out, c6h⟩); replace hS := hG.sub; replace c6 : Mut _ w c6b ([.bool true]) := hm'; clear hm'; clear hgb'
    (refine S_nil ?_; refine CWD_ret ?_)
    exact FinD_nil ⟨_, ResW_v1 (RV_one rfl c6), H, hG, rfl⟩
  | true =>
    obtain ⟨ht, ⟨A2, c2, rfl, hc2, hl2⟩, h150⟩ := hz rfl
    clear hz hz0
    by_cases hbig : 2000 < k.size
    · (refine S_op ?_; refine W_moveTup (by first | rfl | assumption) ?_; refine S_op ?_; refine W_extract (by first | rfl | assumption) (by rfl) ?_; refine S_op ?_; refine W_extract (by first | rfl | assumption) (by rfl) ?_; refine S_op ?_; refine W_extract (by first | rfl | assumption) (by rfl) ?_; refine S_op ?_; refine W_assignPtr (by first | rfl | assumption) ?_; refine S_op ?_; refine W_assignSl (by first | rfl | assumption) ?_; refine S_op ?_; refine W_assignBool (by first | rfl | assumption) ?_; refine S_nil ?_; refine CWD_seq ?_; refine CWD_seq ?_; refine CWD_region rfl ?_; refine S_op ?_; refine W_moveBool (by first | rfl | assumption) ?_; refine S_op ?_; refine W_not (by first | rfl | assumption) ?_; refine S_op ?_; refine W_moveBool (by first | rfl | assumption) ?_; refine S_want (by rfl) ?_; refine W_moveStr (by first | rfl | assumption) ?_; refine S_want (by rfl) ?_; refine W_lenS (by first | rfl | assumption) ?_; refine S_want (by rfl) ?_; refine W_gtrT (by first | rfl | assumption) (by first | rfl | assumption) (by first | omega | rfl) ?_; refine S_op ?_; refine W_pickF (by first | rfl | assumption) (by first | rfl | assumption) ?_; refine S_op ?_; refine W_moveBool (by first | rfl | assumption) ?_; refine S_pass (by rfl) ?_; refine S_pass (by rfl) ?_; refine S_pass (by rfl) ?_; refine S_op ?_; refine W_pickT (by first | rfl | assumption) (by first | rfl | assumption) ?_; refine S_nil ?_; refine CWD_true (by first | rfl | assumption) ?_; refine CWD_seq ?_; refine CWD_region rfl ?_)
      (refine S_op0 (W_storeM (o := 0) (vs := [.bool true]) (by rfl) (by rfl) c6 (by rfl) (OneCells.of_all (by rfl)) (by rfl) (Nat.le_of_ble_eq_true (by rfl)) ?_)); intro w hgb' hm'; replace hG := hG.grownBy hgb' (fun g h => by cases h; exact ⟨c6.out, c6h⟩); replace hS := hG.sub; replace c6 : Mut _ w c6b ([.bool true]) := hm'; clear hm'; clear hgb'
      (refine S_nil ?_; refine CWD_ret ?_)
      exact FinD_nil ⟨_, ResW_v1 (RV_one rfl c6), H, hG, rfl⟩
    by_cases h40 : 40 < t.items.length
    · (refine S_op ?_; refine W_moveTup (by first | rfl | assumption) ?_; refine S_op ?_; refine W_extract (by first | rfl | assumption) (by rfl) ?_; refine S_op ?_; refine W_extract (by first | rfl | assumption) (by rfl) ?_; refine S_op ?_; refine W_extract (by first | rfl | assumption) (by rfl) ?_; refine S_op ?_; refine W_assignPtr (by first | rfl | assumption) ?_; refine S_op ?_; refine W_assignSl (by first | rfl | assumption) ?_; refine S_op ?_; refine W_assignBool (by first | rfl | assumption) ?_; refine S_nil ?_; refine CWD_seq ?_; refine CWD_seq ?_; refine CWD_region rfl ?_; refine S_op ?_; refine W_moveBool (by first | rfl | assumption) ?_; refine S_op ?_; refine W_not (by first | rfl | assumption) ?_; refine S_op ?_; refine W_moveBool (by first | rfl | assumption) ?_; refine S_want (by rfl) ?_; refine W_moveStr (by first | rfl | assumption) ?_; refine S_want (by rfl) ?_; refine W_lenS (by first | rfl | assumption) ?_; refine S_want (by rfl) ?_; refine W_gtrF (by first | rfl | assumption) (by first | rfl | assumption) (by first | omega | rfl) ?_; refine S_op ?_; refine W_pickF (by first | rfl | assumption) (by first | rfl | assumption) ?_; refine S_op ?_; refine W_moveBool (by first | rfl | assumption) ?_; refine S_want (by rfl) ?_; refine W_moveSl (by first | rfl | assumption) ?_; refine S_want (by rfl) ?_; refine W_len (by first | rfl | assumption) ?_; refine S_want (by rfl) ?_; refine W_gtrT (by first | rfl | assumption) (by first | rfl | assumption) (by first | omega | rfl) ?_; refine S_op ?_; refine W_pickF (by first | rfl | assumption) (by first | rfl | assumption) ?_; refine S_nil ?_; refine CWD_true (by first | rfl | assumption) ?_; refine CWD_seq ?_; refine CWD_region rfl ?_)
      (refine S_op0 (W_storeM (o := 0) (vs := [.bool true]) (by rfl) (by rfl) c6 (by rfl) (OneCells.of_all (by rfl)) (by rfl) (Nat.le_of_ble_eq_true (by rfl)) ?_)); intro w hgb' hm'; replace hG := hG.grownBy hgb' (fun g h => by cases h; exact ⟨c6.out, c6h⟩); replace hS := hG.sub; replace c6 : Mut _ w c6b ([.bool true]) := hm'; clear hm'; clear hgb'
      (refine S_nil ?_; refine CWD_ret ?_)
      exact FinD_nil ⟨_, ResW_v1 (RV_one rfl c6), H, hG, rfl⟩
    have hfl : (fromL k t.items).length ≤ 40 := Nat.le_trans (List.length_filter_le _ _) (by omega)
    (refine S_op ?_; refine W_moveTup (by first | rfl | assumption) ?_; refine S_op ?_; refine W_extract (by first | rfl | assumption) (by rfl) ?_; refine S_op ?_; refine W_extract (by first | rfl | assumption) (by rfl) ?_; refine S_op ?_; refine W_extract (by first | rfl | assumption) (by rfl) ?_; refine S_op ?_; refine W_assignPtr (by first | rfl | assumption) ?_; refine S_op ?_; refine W_assignSl (by first | rfl | assumption) ?_; refine S_op ?_; refine W_assignBool (by first | rfl | assumption) ?_; refine S_nil ?_; refine CWD_seq ?_; refine CWD_seq ?_; refine CWD_region rfl ?_; refine S_op ?_; refine W_moveBool (by first | rfl | assumption) ?_; refine S_op ?_; refine W_not (by first | rfl | assumption) ?_; refine S_op ?_; refine W_moveBool (by first | rfl | assumption) ?_; refine S_want (by rfl) ?_; refine W_moveStr (by first | rfl | assumption) ?_; refine S_want (by rfl) ?_; refine W_lenS (by first | rfl | assumption) ?_; refine S_want (by rfl) ?_; refine W_gtrF (by first | rfl | assumption) (by first | rfl | assumption) (by first | omega | rfl) ?_; refine S_op ?_; refine W_pickF (by first | rfl | assumption) (by first | rfl | assumption) ?_; refine S_op ?_; refine W_moveBool (by first | rfl | assumption) ?_; refine S_want (by rfl) ?_; refine W_moveSl (by first | rfl | assumption) ?_; refine S_want (by rfl) ?_; refine W_len (by first | rfl | assumption) ?_; refine S_want (by rfl) ?_; refine W_gtrF (by first | rfl | assumption) (by first | rfl | assumption) (by first | omega | rfl) ?_; refine S_op ?_; refine W_pickF (by first | rfl | assumption) (by first | rfl | assumption) ?_; refine S_nil ?_; refine CWD_false (by first | rfl | assumption) ?_; refine CWD_skip ?_; refine CWD_seq ?_; refine CWD_region rfl ?_; refine S_op ?_; refine W_movePtr (by first | rfl | assumption) ?_; refine S_op ?_; refine W_moveStr (by first | rfl | assumption) ?_)
    (refine S_op ?_; refine W_call hS (by rfl) (from_c H t k ht.at_) ?_); rintro v H w hG' hv; replace hG := hG.trans hG'; replace hS := hG'.sub; replace ht := ht.mono hG'.le; replace hl2 := hl2.mono hG'.le; replace h5 := hG'.le _ _ h5; replace c6 := c6.grow hG'; clear hG'
    obtain ⟨gf, lb, hfc, rfl, hit⟩ := hv
    skip
    (refine S_op (W_alloc hS ?_)); intro w c10b hG' c10h c10; have n_c6_c10 : c6b ≠ c10b := (by have h1 := c6.lt; omega); replace c10h := Nat.le_trans hG.below.size (Nat.le_of_eq c10h); replace hG := hG.trans hG'; replace hS := hG'.sub; replace c6 := c6.grow hG'; clear hG'
    skip
    (refine S_op0 (W_storeM (o := 0) (vs := [.func (.func gf) #[] lb.toArray]) (by rfl) (by rfl) c10 (by rfl) (OneCells.of_all (by rfl)) (by rfl) (Nat.le_of_ble_eq_true (by rfl)) ?_)); intro w hgb' hm'; replace hG := hG.grownBy hgb' (fun g h => by cases h; exact ⟨c10.out, c10h⟩); replace hS := hG.sub; replace c10 : Mut _ w c10b ([.func (.func gf) #[] lb.toArray]) := hm'; clear hm'; replace c6 := c6.other hgb' (by intro e2; cases e2; first | exact n_c6_c10 rfl | exact n_c10_c6 rfl); clear hgb'
    replace hit : ItF Try.prog gf lb encP (fromL k t.items) H := hit
    (obtain ⟨H, _, hle', hG, hm', hoth'⟩ := c10.freeze hG c10h); replace hS := hG.sub; clear c10; have c10 := hm'; clear hm'; replace ht := ht.mono hle'; replace hl2 := hl2.mono hle'; replace hit := hit.mono hle'; replace h5 := hle' _ _ h5; replace c6 : Mut _ _ c6b _ := ⟨(hoth' _ (by first | exact n_c6_c10 | exact n_c10_c6.symm)).trans c6.out, c6.at_⟩; clear hle' hoth'
    (refine S_nil ?_; refine CWD_seq ?_; refine CWD_region rfl ?_)
    (refine S_op (W_alloc hS ?_)); intro w c11b hG' c11h c11; have n_c6_c11 : c6b ≠ c11b := (by have h1 := c6.lt; omega); replace c11h := Nat.le_trans hG.below.size (Nat.le_of_eq c11h); replace hG := hG.trans hG'; replace hS := hG'.sub; replace c6 := c6.grow hG'; clear hG'
    skip
    (refine S_op0 (W_storeM (o := 0) (vs := [.int .i64 0]) (by rfl) (by rfl) c11 (by rfl) (OneCells.of_all (by rfl)) (by rfl) (Nat.le_of_ble_eq_true (by rfl)) ?_)); intro w hgb' hm'; replace hG := hG.grownBy hgb' (fun g h => by cases h; exact ⟨c11.out, c11h⟩); replace hS := hG.sub; replace c11 : Mut _ w c11b ([.int .i64 0]) := hm'; clear hm'; replace c6 := c6.other hgb' (by intro e2; cases e2; first | exact n_c6_c11 rfl | exact n_c11_c6 rfl); clear hgb'
    (refine S_nil ?_; refine CWD_seq ?_; refine CWD_seq ?_; refine CWD_region rfl ?_; refine S_op ?_; refine W_loadHL (by first | rfl | assumption) (by assumption) (by rfl) (by assumption) ?_; refine S_nil ?_; refine CWD_block ?_)
    refine CWD_rangeExit (S := fun _ => False) (Hold H0 w0 [c6b, c11b] (fun pre H2 w2 => HLe H H2 ∧ Mut H2 w2 c6b [.bool false] ∧ Mut H2 w2 c11b [.int .i64 (pre.length : Nat)]))
      (Hold H0 w0 [c6b, c11b] (fun pre H2 w2 => HLe H H2 ∧ Mut H2 w2 c6b [.bool false]))
      (Hold.good ?_) (Hold.good ?_).stable ⟨hG, fun _ h => h.elim, ?_, HLe.refl _, c6, c11⟩ rfl hS (fun _ => rfl) (by decide) (fun w1 _ => hit H w1 (HLe.refl _)) (fun _ h => h.elim) ?_ ?_
    · rintro S pre H w H' w' hs hT ⟨h1, h2, h3⟩
      exact ⟨h1.trans hT.le, h2.turn hT (hs _ (by simp)), h3.turn hT (hs _ (by simp))⟩
    · rintro S pre H w H' w' hs hT ⟨h1, h2⟩
      exact ⟨h1.trans hT.le, h2.turn hT (hs _ (by simp))⟩
    · intro b hb
      simp at hb
      rcases hb with rfl | rfl
      · exact ⟨fun h => h, c6.lt⟩
      · exact ⟨fun h => h, c11.lt⟩
    · intro l x W
      (refine CW_skip ?_)
      refine ⟨rfl, ?_⟩
      clear c6 c11 hG hS
      rintro l X pre rest H W hx hS ⟨hGw, hXs, hbs, hle, c6, c11⟩ _
      replace h5 := hle _ _ h5
      obtain ⟨hlt, _⟩ := ent_here hx
      have hG := hGw
      have hS0' := hS
      (refine CW_block ?_; refine CW_seq ?_; refine CW_region rfl ?_; refine S_op ?_; refine W_loadM (by first | rfl | assumption) (by assumption) (by rfl) ?_; refine S_op ?_; refine W_add1 (by first | rfl | assumption) (by omega) ?_)
      (refine S_op0 (W_storeM (o := 0) (vs := [.int .i64 ((pre.length + 1 : Nat) : Int)]) (by rfl) (by rfl) c11 (by rfl) (OneCells.of_all (by rfl)) (by rfl) (Nat.le_of_ble_eq_true (by rfl)) ?_)); intro w hgb' hm'; replace hG := hG.grownBy hgb' (fun g h => by cases h; exact ⟨c11.out, c11h⟩); replace hS := hG.sub; replace c11 : Mut _ w c11b ([.int .i64 ((pre.length + 1 : Nat) : Int)]) := hm'; clear hm'; replace c6 := c6.other hgb' (by intro e2; cases e2; first | exact n_c6_c11 rfl | exact n_c11_c6 rfl); skip
      have hT : Turn (notIn X) H W H w := (Turn.refl hS0').grownBy hgb' (fun g h => by cases h; exact ⟨c11.out, .inr (hbs c11b (by simp)).1⟩)
      have hXs5 : ∀ j, X j → w0.heap.size ≤ j ∧ j < w.heap.size := fun j hj => ⟨(hXs j hj).1, Nat.lt_of_lt_of_le (hXs j hj).2 hT.size⟩
      have hbs5 : ∀ b ∈ [c6b, c11b], ¬ X b ∧ b < w.heap.size := fun b hb => ⟨(hbs b hb).1, Nat.lt_of_lt_of_le (hbs b hb).2 hT.size⟩
      (refine S_nil ?_; refine CW_seq ?_; refine CW_region rfl ?_; refine S_op ?_; refine W_loadM (by first | rfl | assumption) (by assumption) (by rfl) ?_; refine S_op ?_; refine W_loadHL (by first | rfl | assumption) (by assumption) (by rfl) (by assumption) ?_; refine S_op ?_; refine W_convN (by first | rfl | assumption) (by omega) ?_)
      refine S_op (W_remN (a := m) (b := 5) (by rfl) (by rfl) (by decide) ?_)
      by_cases hgt : m % 5 < pre.length + 1
      · (refine S_op ?_; refine W_gtrT (by first | rfl | assumption) (by first | rfl | assumption) (by first | omega | rfl) ?_; refine S_nil ?_; refine CW_true (by first | rfl | assumption) ?_; refine CW_exit ?_; refine xblk_miss rfl ?_)
        exact ⟨H, hT, rfl, hG, hXs5, hbs5, hle, c6⟩
      · (refine S_op ?_; refine W_gtrF (by first | rfl | assumption) (by first | rfl | assumption) (by first | omega | rfl) ?_; refine S_nil ?_; refine CW_false (by first | rfl | assumption) ?_; refine CW_skip ?_)
        exact ⟨H, hT, hG, hXs5, hbs5, hle, c6, by rw [List.length_append]; exact c11⟩
    · clear c6 c11 hS
      rintro D X H1 w hD hM hS hle' hXD hend
      have hend : Grow H0 w0 H1 w ∧ (∀ k, X k → w0.heap.size ≤ k) ∧ HLe H H1 ∧ Mut H1 w c6b [.bool false] := by
        rcases hend with ⟨g1, g2, _, g4, g5, _⟩ | ⟨pre, rest, _, g1, g2, _, g4, g5⟩
        · exact ⟨g1, fun k hk => (g2 k hk).1, g4, g5⟩
        · exact ⟨g1, fun k hk => (g2 k hk).1, g4, g5⟩
      clear hG
      obtain ⟨hG, hXw, hle, c6⟩ := hend
      have hDw := hXw D hXD
      replace ht := ht.mono hle
      replace hl2 := hl2.mono hle
      replace hit := hit.mono hle
      replace h5 := hle _ _ h5
      replace c10 := hle _ _ c10
      clear hle hle' hXw hXD
      (refine CWD_seq ?_; refine CWD_region rfl ?_; refine S_op ?_; refine W_moveSl (by first | rfl | assumption) ?_; refine S_op ?_; refine W_moveStr (by first | rfl | assumption) ?_)
      (refine S_op ?_; refine W_call hS (by rfl) (rFrom_c H1 A2 c2 t.items k hl2 (by omega)) ?_); rintro v H w hG' hv; replace hG := hG.trans hG'; replace hS := hG'.sub; replace ht := ht.mono hG'.le; replace hl2 := hl2.mono hG'.le; replace hit := hit.mono hG'.le; replace h5 := hG'.le _ _ h5; replace c10 := hG'.le _ _ c10; replace c6 := c6.grow hG'; replace hM := hM.grow hG'; clear hG'
      obtain ⟨A3, c3, rfl, hc3, hl3⟩ := hv
      skip
      (refine S_op (W_alloc hS ?_)); intro w c12b hG' c12h c12; have n_c6_c12 : c6b ≠ c12b := (by have h1 := c6.lt; omega); replace c12h := Nat.le_trans hG.below.size (Nat.le_of_eq c12h); replace hG := hG.trans hG'; replace hS := hG'.sub; replace c6 := c6.grow hG'; replace hM := hM.grow hG'; clear hG'
      skip
      have h12D := hM.ne c12
      (refine S_op0 (W_storeM (o := 0) (vs := [.slice A3 (fromL k t.items).length c3]) (by rfl) (by rfl) c12 (by rfl) (OneCells.of_all (by rfl)) (by rfl) (Nat.le_of_ble_eq_true (by rfl)) ?_)); intro w hgb' hm'; replace hG := hG.grownBy hgb' (fun g h => by cases h; exact ⟨c12.out, c12h⟩); replace hS := hG.sub; replace c12 : Mut _ w c12b ([.slice A3 (fromL k t.items).length c3]) := hm'; clear hm'; replace c6 := c6.other hgb' (by intro e2; cases e2; first | exact n_c6_c12 rfl | exact n_c12_c6 rfl); skip
      replace hM := hM.other hgb' (fun e => by cases e; exact h12D rfl)
      clear hgb'
      (refine S_nil ?_; refine CWD_seq ?_; refine CWD_region rfl ?_)
      (refine S_op (W_alloc hS ?_)); intro w c13b hG' c13h c13; have n_c6_c13 : c6b ≠ c13b := (by have h1 := c6.lt; omega); have n_c12_c13 : c12b ≠ c13b := (by have h1 := c12.lt; omega); replace c13h := Nat.le_trans hG.below.size (Nat.le_of_eq c13h); replace hG := hG.trans hG'; replace hS := hG'.sub; replace c6 := c6.grow hG'; replace c12 := c12.grow hG'; replace hM := hM.grow hG'; clear hG'
      skip
      have h13D := hM.ne c13
      (refine S_op0 (W_storeM (o := 0) (vs := [.int .i64 0]) (by rfl) (by rfl) c13 (by rfl) (OneCells.of_all (by rfl)) (by rfl) (Nat.le_of_ble_eq_true (by rfl)) ?_)); intro w hgb' hm'; replace hG := hG.grownBy hgb' (fun g h => by cases h; exact ⟨c13.out, c13h⟩); replace hS := hG.sub; replace c13 : Mut _ w c13b ([.int .i64 0]) := hm'; clear hm'; replace c6 := c6.other hgb' (by intro e2; cases e2; first | exact n_c6_c13 rfl | exact n_c13_c6 rfl); replace c12 := c12.other hgb' (by intro e2; cases e2; first | exact n_c12_c13 rfl | exact n_c13_c12 rfl); skip
      replace hM := hM.other hgb' (fun e => by cases e; exact h13D rfl)
      clear hgb'
      (refine S_nil ?_; refine CWD_seq ?_; refine CWD_seq ?_; refine CWD_region rfl ?_; refine S_op ?_; refine W_loadHL (by first | rfl | assumption) (by assumption) (by rfl) (by assumption) ?_; refine S_nil ?_; refine CWD_block ?_)
      refine CWD_rangeL (S := fun _ => False) (Hold H0 w0 [c6b, c12b, c13b, D] (fun pre H2 w2 => HLe H H2 ∧ Mut H2 w2 c6b [.bool false] ∧ Mut H2 w2 c12b [.slice A3 (fromL k t.items).length c3] ∧ Mut H2 w2 c13b [.int .i64 (pre.length : Nat)] ∧ MarkAt H2 w2 D)) neverI
        (Hold.good ?_) neverI.stable ⟨hG, fun _ h => h.elim, ?_, HLe.refl _, c6, c12, c13, hM⟩ rfl hS (fun _ => rfl) (by decide) (fun w1 _ => hit H w1 (HLe.refl _)) (fun _ h => h.elim) ?_ ?_ ?_ ?_
      · rintro S pre H w H' w' hs hT ⟨h1, h2, h3, h4, h5⟩
        exact ⟨h1.trans hT.le, h2.turn hT (hs _ (by simp)), h3.turn hT (hs _ (by simp)), h4.turn hT (hs _ (by simp)), h5.turn hT (hs _ (by simp))⟩
      · intro b hb
        simp at hb
        rcases hb with rfl | rfl | rfl | rfl
        · exact ⟨fun h => h, c6.lt⟩
        · exact ⟨fun h => h, c12.lt⟩
        · exact ⟨fun h => h, c13.lt⟩
        · exact ⟨fun h => h, hM.lt⟩
      · intro l x W
        (refine CW_seq ?_; refine CW_region rfl ?_; refine S_op ?_; refine W_assignStr (by first | rfl | assumption) ?_; refine S_nil ?_; refine CW_region rfl ?_; refine S_op ?_; refine W_assignStr (by first | rfl | assumption) ?_; refine S_nil ?_)
        refine ⟨rfl, ?_⟩
        clear c6 c12 c13 hM hG hS
        rintro l X pre rest H W hx hS ⟨hGw, hXs, hbs, hle, c6, c12, c13, hM⟩ ⟨o, ho⟩ hXl
        replace h5 := hle _ _ h5
        replace c10 := hle _ _ c10
        replace hl3 := hl3.mono hle
        replace hit := hit.mono hle
        obtain ⟨hlt, hx0⟩ := ent_here hx
        obtain ⟨b1, o1, hA1, hr1⟩ := hl3.some hlt
        have hxk : (ent (fromL k t.items) pre.length).key = x.key ∧ (ent (fromL k t.items) pre.length).val = x.val := by rw [hx0]; exact ⟨rfl, rfl⟩
        have hG := Grow.refl hS
        have hlW : l < W.heap.size := (Array.getElem?_eq_some_iff.1 ho).1
        (refine CW_block ?_; refine CW_seq ?_; refine CW_seq ?_; refine CW_region rfl ?_; refine S_op ?_; refine W_loadM (by first | rfl | assumption) (by assumption) (by rfl) ?_; refine S_op ?_; refine W_loadM (by first | rfl | assumption) (by assumption) (by rfl) ?_; refine S_op ?_; refine W_len (by first | rfl | assumption) ?_; refine S_op ?_; refine W_geqF (by first | rfl | assumption) (by first | rfl | assumption) (by first | omega | rfl) ?_; refine S_op ?_; refine W_moveBool (by first | rfl | assumption) ?_; refine S_want (by rfl) ?_; refine W_loadM (by first | rfl | assumption) (by assumption) (by rfl) ?_; refine S_want (by rfl) ?_; refine W_loadM (by first | rfl | assumption) (by assumption) (by rfl) ?_; refine S_want (by rfl) ?_; refine W_index (by first | rfl | assumption) (by first | rfl | assumption) (by first | assumption | omega | decide) (by first | rfl | assumption) ?_; refine S_want (by rfl) ?_; refine W_loadEnt (by first | rfl | assumption) (by assumption) (by first | assumption | omega) (by assumption) ?_; refine S_want (by rfl) ?_; refine W_moveStr (by first | rfl | assumption) ?_; refine S_want (by rfl) ?_; refine W_moveStr (by first | rfl | assumption) ?_; refine S_want (by rfl) ?_; refine W_build (by rfl) ?_; refine S_want (by rfl) ?_; refine W_eneqF (by first | rfl | assumption) (by first | rfl | assumption) (by assumption) ?_; refine S_op ?_; refine W_pickF (by first | rfl | assumption) (by first | rfl | assumption) ?_; refine S_nil ?_; refine CW_false (by first | rfl | assumption) ?_; refine CW_skip ?_; refine CW_seq ?_; refine CW_region rfl ?_)
        (refine S_op (W_alloc hS ?_)); intro w c16b hG' c16h c16; have n_c6_c16 : c6b ≠ c16b := (by have h1 := c6.lt; omega); have n_c12_c16 : c12b ≠ c16b := (by have h1 := c12.lt; omega); have n_c13_c16 : c13b ≠ c16b := (by have h1 := c13.lt; omega); replace c16h := Nat.le_trans hG.below.size (Nat.le_of_eq c16h); replace hG := hG.trans hG'; replace hS := hG'.sub; replace c6 := c6.grow hG'; replace c12 := c12.grow hG'; replace c13 := c13.grow hG'; replace hM := hM.grow hG'; clear hG'
        skip
        have h16D := hM.ne c16
        (refine S_op0 (W_storeM (o := 0) (vs := [.int .i64 0]) (by rfl) (by rfl) c16 (by rfl) (OneCells.of_all (by rfl)) (by rfl) (Nat.le_of_ble_eq_true (by rfl)) ?_)); intro w hgb' hm'; replace hG := hG.grownBy hgb' (fun g h => by cases h; exact ⟨c16.out, c16h⟩); replace hS := hG.sub; replace c16 : Mut _ w c16b ([.int .i64 0]) := hm'; clear hm'; replace c6 := c6.other hgb' (by intro e2; cases e2; first | exact n_c6_c16 rfl | exact n_c16_c6 rfl); replace c12 := c12.other hgb' (by intro e2; cases e2; first | exact n_c12_c16 rfl | exact n_c16_c12 rfl); replace c13 := c13.other hgb' (by intro e2; cases e2; first | exact n_c13_c16 rfl | exact n_c16_c13 rfl); skip
        replace hM := hM.other hgb' (fun e => by cases e; exact h16D rfl)
        clear hgb'
        have ho' : w.heap[l]? = some (.loop o) := ((hG.turn (S := fun _ => False)).block l hlW (fun h => h)).trans ho
        have hx16 : ¬ X c16b := fun h => by have := (hXs c16b h).2; omega
        (refine S_nil ?_; refine CW_seq ?_; refine CW_seq ?_; refine CW_region rfl ?_; refine S_op ?_; refine W_loadHL (by first | rfl | assumption) (by assumption) (by rfl) (by assumption) ?_; refine S_nil ?_; refine CW_block ?_)
        refine CW_rangeP (S := fun _ => False) ho' (HoldT (fun k => ¬ X k ∧ w0.heap.size ≤ k) H W [c6b, c12b, c13b, D, c16b] (fun pre2 H2 w2 => HLe H H2 ∧ Mut H2 w2 c6b [.bool false] ∧ Mut H2 w2 c12b [.slice A3 (fromL k t.items).length c3] ∧ Mut H2 w2 c13b [.int .i64 (pre.length : Nat)] ∧ Mut H2 w2 c16b [.int .i64 (pre2.length : Nat)] ∧ MarkAt H2 w2 D)) neverI
          (HoldT.good ?_) neverI.stable ⟨hG.turn, fun _ h => h.elim, ?_, HLe.refl _, c6, c12, c13, c16, hM⟩ rfl hS (fun _ => rfl) (by decide) (fun w1 _ => hit H w1 (HLe.refl _)) (fun _ h => h.elim) ?_ ?_ ?_ ?_
        · rintro S pre H w H' w' hs hT ⟨h1, h2, h3, h4, h5, h6⟩
          exact ⟨h1.trans hT.le, h2.turn hT (hs _ (by simp)), h3.turn hT (hs _ (by simp)), h4.turn hT (hs _ (by simp)), h5.turn hT (hs _ (by simp)), h6.turn hT (hs _ (by simp))⟩
        · intro b hb
          simp at hb
          rcases hb with rfl | rfl | rfl | rfl | rfl
          · exact ⟨fun h => h, c6.lt⟩
          · exact ⟨fun h => h, c12.lt⟩
          · exact ⟨fun h => h, c13.lt⟩
          · exact ⟨fun h => h, hM.lt⟩
          · exact ⟨fun h => h, c16.lt⟩
        · intro l2 y W2
          (refine CW_region rfl ?_; refine S_op ?_; refine W_assignStr (by first | rfl | assumption) ?_; refine S_nil ?_)
          refine ⟨rfl, ?_⟩
          clear c6 c12 c13 c16 hM hG hS
          rintro l2 X2 pre2 rest2 H2 W2 hx2 hS ⟨hT0, hX2, hbs2, hle2, c6, c12, c13, c16, hM⟩ _
          replace c10 := hle2 _ _ c10
          replace hl3 := hl3.mono hle2
          obtain ⟨hlt2, hy0⟩ := ent_here hx2
          obtain ⟨b2, o2, hA2, hr2⟩ := hl3.some hlt2
          have hyk : (ent (fromL k t.items) pre2.length).key = y.key := by rw [hy0]
          have hS2 := hS
          clear hA1 hr1
          (refine CW_block ?_; refine CW_seq ?_; refine CW_seq ?_; refine CW_region rfl ?_; refine S_op ?_; refine W_loadM (by first | rfl | assumption) (by assumption) (by rfl) ?_; refine S_op ?_; refine W_loadM (by first | rfl | assumption) (by assumption) (by rfl) ?_; refine S_op ?_; refine W_len (by first | rfl | assumption) ?_; refine S_op ?_; refine W_geqF (by first | rfl | assumption) (by first | rfl | assumption) (by first | omega | rfl) ?_; refine S_op ?_; refine W_moveBool (by first | rfl | assumption) ?_; refine S_want (by rfl) ?_; refine W_loadM (by first | rfl | assumption) (by assumption) (by rfl) ?_; refine S_want (by rfl) ?_; refine W_loadM (by first | rfl | assumption) (by assumption) (by rfl) ?_; refine S_want (by rfl) ?_; refine W_index (by first | rfl | assumption) (by first | rfl | assumption) (by first | assumption | omega | decide) (by first | rfl | assumption) ?_; refine S_want (by rfl) ?_; refine W_field (by first | rfl | assumption) ?_; refine S_want (by rfl) ?_; refine W_loadKey (by first | rfl | assumption) (by assumption) (by first | assumption | omega) (by assumption) ?_; refine S_want (by rfl) ?_; refine W_moveStr (by first | rfl | assumption) ?_; refine S_want (by rfl) ?_; refine W_sneqF (by first | rfl | assumption) (by first | rfl | assumption) (by first | assumption | rfl) ?_; refine S_op ?_; refine W_pickF (by first | rfl | assumption) (by first | rfl | assumption) ?_; refine S_nil ?_; refine CW_false (by first | rfl | assumption) ?_; refine CW_skip ?_; refine CW_region rfl ?_; refine S_op ?_; refine W_loadM (by first | rfl | assumption) (by assumption) (by rfl) ?_; refine S_op ?_; refine W_add1 (by first | rfl | assumption) (by omega) ?_)
          refine S_op0 (W_storeM (o := 0) (vs := [.int .i64 ((pre2.length + 1 : Nat) : Int)]) (by rfl) (by rfl) c16 (by rfl) (OneCells.of_all (by rfl)) (by rfl) (by simp) ?_)
          intro w hgb' hm'
          have hTc : Turn (fun k => k = c16b) H2 W2 H2 w := (Turn.refl hS2).grownBy hgb' (fun g h => by cases h; exact ⟨c16.out, .inr rfl⟩)
          replace hS := hTc.sub
          replace c6 := c6.turn hTc (fun e => by have := c16h; have := (hbs c6b (by simp)).2; omega)
          replace c12 := c12.turn hTc (fun e => by have := c16h; have := (hbs c12b (by simp)).2; omega)
          replace c13 := c13.turn hTc (fun e => by have := c16h; have := (hbs c13b (by simp)).2; omega)
          replace hM := hM.turn hTc (fun e => by have := c16h; have := (hbs D (by simp)).2; omega)
          replace c16 : Mut H2 w c16b [.int .i64 ((pre2.length + 1 : Nat) : Int)] := hm'
          (refine S_nil ?_)
          exact ⟨H2, hTc.wider (fun j _ e => by rw [e]; exact (hbs2 c16b (by simp)).1), hT0.after hTc (fun j e => .inl (by rw [e]; exact c16h)), fun j hj => ⟨(hX2 j hj).1, Nat.lt_of_lt_of_le (hX2 j hj).2 hTc.size⟩, fun b hb => ⟨(hbs2 b hb).1, Nat.lt_of_lt_of_le (hbs2 b hb).2 hTc.size⟩, hle2, c6, c12, c13, by rw [List.length_append]; exact c16, hM⟩
        · clear c6 c12 c13 c16 hM hG hS
          rintro X3 H3 w hS _ _ ⟨hT3, hX3, hbs3, hle3, c6, c12, c13, c16, hM⟩
          (refine CW_seq ?_; refine CW_seq ?_; refine CW_region rfl ?_; refine S_op ?_; refine W_loadM (by first | rfl | assumption) (by assumption) (by rfl) ?_; refine S_op ?_; refine W_loadM (by first | rfl | assumption) (by assumption) (by rfl) ?_; refine S_op ?_; refine W_len (by first | rfl | assumption) ?_; refine S_op ?_; refine W_neqF (by first | rfl | assumption) (by first | rfl | assumption) (by first | omega | rfl) ?_; refine S_nil ?_; refine CW_false (by first | rfl | assumption) ?_; refine CW_skip ?_; refine CW_region rfl ?_; refine S_op ?_; refine W_loadM (by first | rfl | assumption) (by assumption) (by rfl) ?_; refine S_op ?_; refine W_add1 (by first | rfl | assumption) (by omega) ?_)
          refine S_op0 (W_storeM (o := 0) (vs := [.int .i64 ((pre.length + 1 : Nat) : Int)]) (by rfl) (by rfl) c13 (by rfl) (OneCells.of_all (by rfl)) (by rfl) (by simp) ?_)
          intro w hgb' hm'
          replace hT3 := hT3.grownBy hgb' (fun g h => by cases h; exact ⟨c13.out, .inr ⟨(hbs c13b (by simp)).1, c13h⟩⟩)
          replace hS := hT3.sub
          replace c6 := c6.other hgb' (by intro e; cases e; exact n_c6_c13 rfl)
          replace c12 := c12.other hgb' (by intro e; cases e; exact n_c12_c13 rfl)
          replace hM := hM.other hgb' (fun e => by cases e; exact h13D rfl)
          replace c13 : Mut H3 w c13b [.int .i64 ((pre.length + 1 : Nat) : Int)] := hm'
          (refine S_nil ?_)
          exact ⟨H3, hT3.wider (fun k _ h => h.1), Turn.grow hGw hT3 (fun k h => h.2), fun j hj => ⟨(hXs j hj).1, Nat.lt_of_lt_of_le (hXs j hj).2 hT3.size⟩, fun b hb => ⟨(hbs b hb).1, Nat.lt_of_lt_of_le (hbs b hb).2 hT3.size⟩, hle.trans hT3.le, c6, c12, by rw [List.length_append]; exact c13, hM⟩
        · exact fun _ _ _ _ _ _ _ _ _ h => False.elim h
        · exact fun _ _ _ _ _ _ _ _ _ _ h => False.elim h
      · rintro E X H w hE hN hS hle' _ hXE ⟨hG, hXw, hbX, hle, c6, c12, c13, hM⟩
        have hne : E ≠ D := fun e => (hbX D (by simp)).1 (by rw [← e]; exact hXE)
        have hEw := (hXw E hXE).1
        have h6D := hM.ne c6
        have h6E := hN.ne c6
        (refine CWD_seq ?_; refine CWD_region rfl ?_; refine S_op ?_; refine W_loadM (by first | rfl | assumption) (by assumption) (by rfl) ?_; refine S_op ?_; refine W_loadM (by first | rfl | assumption) (by assumption) (by rfl) ?_; refine S_op ?_; refine W_len (by first | rfl | assumption) ?_; refine S_op ?_; refine W_eqlT (by first | rfl | assumption) (by first | rfl | assumption) (by first | omega | rfl) ?_)
        (refine S_op0 (W_storeM (o := 0) (vs := [.bool true]) (by rfl) (by rfl) c6 (by rfl) (OneCells.of_all (by rfl)) (by rfl) (Nat.le_of_ble_eq_true (by rfl)) ?_)); intro w hgb' hm'; replace hG := hG.grownBy hgb' (fun g h => by cases h; exact ⟨c6.out, c6h⟩); replace hS := hG.sub; replace c6 : Mut _ w c6b ([.bool true]) := hm'; clear hm'; skip
        replace hM := hM.other hgb' (fun e => by cases e; exact h6D rfl)
        replace hN := hN.other hgb' (fun e => by cases e; exact h6E rfl)
        (refine S_nil ?_; refine CWD_ret ?_)
        refine FinD_two hM hN hne hG.sub fun w' hT => ?_
        exact ⟨_, ResW_v1 (RV_one rfl (c6.turn hT (by rintro (rfl | rfl); exact h6D rfl; exact h6E rfl))), _, Turn.grow hG hT (by rintro b (rfl | rfl); exact hDw; exact hEw), rfl⟩
      · exact fun _ _ _ _ _ _ _ _ _ _ _ _ _ h => False.elim h
      · exact fun _ _ _ _ _ _ _ _ _ _ _ _ _ _ h => False.elim h
end Go.Proofs.Ytgaabmoknpifnaa
