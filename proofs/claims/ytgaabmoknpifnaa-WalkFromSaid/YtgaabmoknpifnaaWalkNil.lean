/- WalkNil, walked. Conditions: sizes. -/
import Derived.Test.YtgaabmoknpifnaaWalkB3
import Derived.Test.YtgaabmoknpifnaaWalk5
namespace Go.Proofs.Ytgaabmoknpifnaa
open Go.Proofs Go.RowKit
set_option linter.unusedVariables false
attribute [local irreducible] CW CWD SeqW OpW CallV
set_option maxHeartbeats 4000000
theorem FinD_list {P : Program} {rs : Array ResultVar} {R : Value → World → Prop} {f : Fr} {H : HF} {w : World} {ds : List Nat} (hM : ∀ D ∈ ds, MarkAt H w D) (hn : ds.Nodup) (hS : Sub H w)
    (h : ∀ w', Turn (fun k => k ∈ ds) H w H w' → Fin P rs R f w') : FinD P rs R ds f w :=
  ⟨⟨hn, fun D h' => (hM D h').at_⟩, h _ (closeM_turn ds hS fun D h' => (hM D h').out)⟩
/-- A loop over what gives nothing. -/
theorem CWD_rangeNil {P : Program} {α : Type} {n : Nat} {g : Operand} {ps : Array Tmp} {assign body : Code} {f : Fr} {ds : List Nat} {gf : Nat} {lb : List Value} [FnCall P gf] {enc : α → List Value} {H : HF} {w : World}
    {Qn Qr : List Nat → Fr → World → Prop} {Qx : Nat → List Nat → Fr → World → Prop}
    (hg : ev f g = .func (.func gf) #[] lb.toArray) (hS : Sub H w) (hps : ∀ x, (enc x).length = ps.size) (hpn : ∀ p ∈ ps.toList, p < n)
    (hIt : ∀ w1, Grow H w H w1 → IterAt P gf lb enc [] (fun _ => False) H w1)
    (hassign : ∀ l x W, CW P (some l) n assign (fun _ W1 => W1 = W) (fun _ _ => False) (fun _ _ _ => False) (puts ps.toList (enc x) f) W)
    (hk : ∀ D H' w', w.heap.size ≤ D → MarkAt H' w' D → Grow H w H' w' → Qn (D :: ds) f w') : CWD P none n (.rangeFunc g ps assign body) Qn Qr Qx ds f w := by
  refine CWD_range (S := fun _ => False) (Hold H w [] (fun _ _ _ => True)) neverI (Hold.good fun _ _ _ _ _ _ _ _ h => h) neverI.stable ⟨Grow.refl hS, fun _ h => h.elim, fun _ h => by (cases h), trivial⟩ hg hS hps hpn hIt (fun _ h => h.elim) ?_ ?_ ?_ ?_
  · intro l x W
    refine CW_mono (hassign l x W) ?_ (fun _ _ h => h) (fun _ _ _ h => h)
    rintro f1 W1 rfl
    refine ⟨rfl, fun l X pre rest H W hx => ?_⟩
    have := congrArg List.length hx
    simp at this
  · exact fun D X H' W' hD hM _ _ _ _ hI => hk D H' W' hD hM hI.1
  · exact fun _ _ _ _ _ _ _ _ _ _ _ _ _ h => False.elim h
  · exact fun _ _ _ _ _ _ _ _ _ _ _ _ _ _ h => False.elim h
theorem MarkAt.ne {H : HF} {w : World} {D b : Nat} {cs : List Value} (hM : MarkAt H w D) (hm : Mut H w b cs) : b ≠ D := by
  rintro rfl
  obtain ⟨T, h⟩ := hm.at_
  rw [hM.at_] at h; cases h
theorem walkNil_c (H : HF) (k k2 : ByteArray) (n : Int) : Fn Try.prog 8 [.string k, .string k2, .int .i64 n] H fun v _ => v = .bool true := by
  refine Fn_of_CWD Try.func8 rfl Try.ntmps8 Try.results8 rfl fun w0 hS => ?_; have hS0 := hS; have hG := Grow.refl hS
  (refine CWD_seq ?_; refine CWD_region rfl ?_)
  (refine S_op (W_alloc hS ?_)); intro w c6b hG' c6h c6; replace c6h := Nat.le_trans hG.below.size (Nat.le_of_eq c6h); replace hG := hG.trans hG'; replace hS := hG'.sub; clear hG'
  (refine S_nil ?_; refine CWD_seq ?_; refine CWD_seq ?_; refine CWD_region rfl ?_)
  (refine S_op ?_; refine W_call hS (by rfl) (awake11_c H) ?_); rintro v H w hG' rfl; replace hG := hG.trans hG'; replace hS := hG'.sub; replace c6 := c6.grow hG'; clear hG'
  (refine S_op ?_; refine W_not (by first | rfl | assumption) ?_; refine S_nil ?_; refine CWD_false (by first | rfl | assumption) ?_; refine CWD_skip ?_; refine CWD_seq ?_; refine CWD_seq ?_; refine CWD_region rfl ?_)
  (refine S_op ?_; refine W_call hS (by rfl) (all_c H none trivial) ?_); rintro v H w hG' hv; replace hG := hG.trans hG'; replace hS := hG'.sub; replace c6 := c6.grow hG'; clear hG'
  obtain ⟨gf, lb, hfc, rfl, hit⟩ := hv
  (refine S_nil ?_; refine CWD_block ?_)
  refine CWD_rangeNil rfl hS (fun _ => rfl) (by decide) (fun w1 _ => hit H w1 (HLe.refl _)) ?_ ?_
  · intro l x W
    (refine CW_skip ?_)
    first | done | rfl
  clear hit
  intro D1 H w hD1 hM1 hG'
  have y1 : w0.heap.size ≤ D1 := Nat.le_trans hG.below.size hD1
  replace hG := hG.trans hG'
  replace hS := hG'.sub
  replace c6 := c6.grow hG'
  have z1 := hM1.lt
  clear hG'
  (refine CWD_seq ?_; refine CWD_seq ?_; refine CWD_region rfl ?_; refine S_op ?_; refine W_moveStr (by first | rfl | assumption) ?_)
  (refine S_op ?_; refine W_call hS (by rfl) (from_c H none k trivial) ?_); rintro v H w hG' hv; replace hG := hG.trans hG'; replace hS := hG'.sub; replace c6 := c6.grow hG'; replace hM1 := hM1.grow hG'; clear hG'
  have z1 := hM1.lt
  obtain ⟨gf, lb, hfc, rfl, hit⟩ := hv
  (refine S_nil ?_; refine CWD_block ?_)
  refine CWD_rangeNil rfl hS (fun _ => rfl) (by decide) (fun w1 _ => hit H w1 (HLe.refl _)) ?_ ?_
  · intro l x W
    (refine CW_skip ?_)
    first | done | rfl
  clear hit
  intro D2 H w hD2 hM2 hG'
  replace hG := hG.trans hG'
  replace hS := hG'.sub
  replace c6 := c6.grow hG'
  replace hM1 := hM1.grow hG'
  have y2 : D1 < D2 := by omega
  clear hG'
  (refine CWD_seq ?_; refine CWD_seq ?_; refine CWD_region rfl ?_)
  (refine S_op ?_; refine W_call hS (by rfl) (back_c H none trivial) ?_); rintro v H w hG' hv; replace hG := hG.trans hG'; replace hS := hG'.sub; replace c6 := c6.grow hG'; replace hM1 := hM1.grow hG'; replace hM2 := hM2.grow hG'; clear hG'
  have z2 := hM2.lt
  obtain ⟨gf, lb, hfc, rfl, hit⟩ := hv
  (refine S_nil ?_; refine CWD_block ?_)
  refine CWD_rangeNil rfl hS (fun _ => rfl) (by decide) (fun w1 _ => hit H w1 (HLe.refl _)) ?_ ?_
  · intro l x W
    (refine CW_skip ?_)
    first | done | rfl
  clear hit
  intro D3 H w hD3 hM3 hG'
  replace hG := hG.trans hG'
  replace hS := hG'.sub
  replace c6 := c6.grow hG'
  replace hM1 := hM1.grow hG'
  replace hM2 := hM2.grow hG'
  have y3 : D2 < D3 := by omega
  clear hG'
  (refine CWD_seq ?_; refine CWD_seq ?_; refine CWD_region rfl ?_; refine S_op ?_; refine W_moveStr (by first | rfl | assumption) ?_)
  (refine S_op ?_; refine W_call hS (by rfl) (backFrom_c H none k trivial) ?_); rintro v H w hG' hv; replace hG := hG.trans hG'; replace hS := hG'.sub; replace c6 := c6.grow hG'; replace hM1 := hM1.grow hG'; replace hM2 := hM2.grow hG'; replace hM3 := hM3.grow hG'; clear hG'
  have z3 := hM3.lt
  obtain ⟨gf, lb, hfc, rfl, hit⟩ := hv
  (refine S_nil ?_; refine CWD_block ?_)
  refine CWD_rangeNil rfl hS (fun _ => rfl) (by decide) (fun w1 _ => hit H w1 (HLe.refl _)) ?_ ?_
  · intro l x W
    (refine CW_skip ?_)
    first | done | rfl
  clear hit
  intro D4 H w hD4 hM4 hG'
  replace hG := hG.trans hG'
  replace hS := hG'.sub
  replace c6 := c6.grow hG'
  replace hM1 := hM1.grow hG'
  replace hM2 := hM2.grow hG'
  replace hM3 := hM3.grow hG'
  have y4 : D3 < D4 := by omega
  clear hG'
  (refine CWD_seq ?_; refine CWD_region rfl ?_; refine S_op ?_; refine W_moveStr (by first | rfl | assumption) ?_; refine S_op ?_; refine W_moveStr (by first | rfl | assumption) ?_)
  (refine S_op ?_; refine W_call hS (by rfl) (count_c H none k k2 trivial (by simp [Tr.items])) ?_); rintro v H w hG' rfl; replace hG := hG.trans hG'; replace hS := hG'.sub; replace c6 := c6.grow hG'; replace hM1 := hM1.grow hG'; replace hM2 := hM2.grow hG'; replace hM3 := hM3.grow hG'; replace hM4 := hM4.grow hG'; clear hG'
  rw [show aheadOf k2 (fromL k (Tr.items none)) = 0 from rfl]
  (refine S_op ?_; refine W_eqlT (by first | rfl | assumption) (by first | rfl | assumption) (by first | omega | rfl) ?_; refine S_op ?_; refine W_moveBool (by first | rfl | assumption) ?_; refine S_want (by rfl) ?_; refine W_moveStr (by first | rfl | assumption) ?_; refine S_want (by rfl) ?_; refine W_moveInt (by first | rfl | assumption) ?_)
  (refine S_want (by rfl) ?_; refine W_call hS (by rfl) (take_c H none k n trivial (by simp [Tr.items])) ?_); rintro v H w hG' hv; replace hG := hG.trans hG'; replace hS := hG'.sub; replace c6 := c6.grow hG'; replace hM1 := hM1.grow hG'; replace hM2 := hM2.grow hG'; replace hM3 := hM3.grow hG'; replace hM4 := hM4.grow hG'; clear hG'
  rw [show fromL k (Tr.items none) = [] from rfl, List.take_nil] at hv
  obtain ⟨A, c, rfl, _, _, _⟩ := hv
  (refine S_want (by rfl) ?_; refine W_len (by first | rfl | assumption) ?_; refine S_want (by rfl) ?_; refine W_eqlT (by first | rfl | assumption) (by first | rfl | assumption) (by first | omega | rfl) ?_; refine S_op ?_; refine W_pickT (by first | rfl | assumption) (by first | rfl | assumption) ?_)
  refine S_op0 (W_storeM (o := 0) (vs := [.bool true]) (by rfl) (by rfl) c6 (by rfl) (OneCells.of_all (by rfl)) (by rfl) (Nat.le_of_ble_eq_true (by rfl)) ?_)
  intro w5 hgb c7
  replace hG := hG.grownBy hgb (fun g h => by cases h; exact ⟨c6.out, c6h⟩)
  replace hM1 := hM1.other hgb (fun e => hM1.ne c6 (Option.some.inj e))
  replace hM2 := hM2.other hgb (fun e => hM2.ne c6 (Option.some.inj e))
  replace hM3 := hM3.other hgb (fun e => hM3.ne c6 (Option.some.inj e))
  replace hM4 := hM4.other hgb (fun e => hM4.ne c6 (Option.some.inj e))
  (refine S_nil ?_; refine CWD_ret ?_)
  have hn1 := hM1.ne c7
  have hn2 := hM2.ne c7
  have hn3 := hM3.ne c7
  have hn4 := hM4.ne c7
  refine FinD_list (H := H) ?_ (by simp; omega) hG.sub fun w' hT => ?_
  · intro D hD
    simp at hD
    rcases hD with rfl | rfl | rfl | rfl <;> assumption
  · exact ⟨_, ResW_v1 (RV_cell1 rfl (c7.turn hT (by simp; omega))), H, Turn.grow hG hT (fun b hb => by simp at hb; omega), rfl⟩
end Go.Proofs.Ytgaabmoknpifnaa
