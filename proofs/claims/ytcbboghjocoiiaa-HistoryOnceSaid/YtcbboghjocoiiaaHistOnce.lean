/- HistoryOnce: it answers true. Conditions: sizes. -/
import Derived.Test.YtcbboghjocoiiaaLaw20
import Derived.Test.YtcbboghjocoiiaaNewOwn
import Derived.Test.YtcbboghjocoiiaaMemBase
namespace Go.Proofs.Ytcbboghjocoiiaa
open Go.Proofs Go.RowKit
set_option linter.unusedVariables false
attribute [local irreducible] CW SeqW OpW
set_option maxHeartbeats 8000000
section
variable {P : Program} {r : Option Nat} {f : Fr} {w : World} {K : Value → World → Prop} {d : Option Nat} {ty : TypeId} {pos : String} {af : Array Edge} {g : Option (Nat × Bool)} {T E : TypeId} {x y i : Operand}
theorem W_slice3 [TySlice P T E] {sz : Nat} [TySize P E sz] {A : Option Addr} {n c h m : Nat} {k k' : IntKind} (hx : ev f x = .slice A n c) (hy : ev f y = .int k (h : Int)) (hi : ev f i = .int k' (m : Int)) (hh : h ≤ m) (hm : m ≤ c) (hk : K (.slice A h m) w) :
    OpW P r ⟨d, .slice T x none (some y) (some i), ty, pos, af, g⟩ f w K :=
  OpW_val (by simp) (by
    have h1 : (0 : Int) ≤ h ∧ (h : Int) ≤ m := by omega
    have h2 : (0 : Int) ≤ m ∧ (m : Int) ≤ c := by omega
    cases A <;> simp [execOp, hx, hy, hi, Instr.sliceAt, Instr.slice, Instr.sliceBounds, Instr.sliceBound, asIntOf, run_underlying (TySlice.out (P := P) (T := T)), TySize.size (P := P) (T := E), hh, hm, Addr.add]) hk
end
theorem lin_one {l : List Ent} {d : Don} : Lin l [d] ↔ doesR l d.x = d.r := by
  constructor
  · rintro ⟨p, hp, hf⟩
    rw [List.perm_singleton.1 hp] at hf
    exact hf.2.1
  · intro h
    exact ⟨[d], List.Perm.refl _, (fun e he => by cases he), h, trivial⟩
def getC (x : Call) : Call := ⟨1, x.key, ⟨#[]⟩⟩
theorem doesL_get (l : List Ent) (x : Call) : doesL l (getC x) = l := by simp [doesL, putsB, takesB, getC]
theorem lin_seen {l : List Ent} (x : Call) {s : Rep4} (hs : s = doesR l (getC x) ∨ s = doesR (doesL l x) (getC x)) : Lin l [⟨x, doesR l x, 0, 5⟩, ⟨getC x, s, 1, 2⟩] := by
  rcases hs with rfl | rfl
  · refine ⟨[⟨getC x, doesR l (getC x), 1, 2⟩, ⟨x, doesR l x, 0, 5⟩], List.Perm.swap _ _ _, fun e he => ?_, rfl, (fun e he => by cases he), ?_, trivial⟩
    · rw [List.mem_singleton] at he; subst he; show ¬ (5 : Int) < 1; omega
    · show doesR (doesL l (getC x)) x = doesR l x
      rw [doesL_get]
  · refine ⟨_, List.Perm.refl _, fun e he => ?_, rfl, (fun e he => by cases he), rfl, trivial⟩
    rw [List.mem_singleton] at he; subst he; show ¬ (2 : Int) < 0; omega
theorem fill_reps (a b : Rep4) (z : Array Value) (hz : z.size = 8) : Instr.fill (fun i => some (i * 4, 4)) z [(0, .agg (repCells a).toArray), (1, .agg (repCells b).toArray)] = some (repCells a ++ repCells b).toArray := by
  obtain ⟨l⟩ := z
  match l, hz with
  | [z0, z1, z2, z3, z4, z5, z6, z7], _ => simp [Instr.fill, Value.cells, repCells]
theorem historyOnce_c (H0 : HF) (A : Option Addr) (c : Nat) (l : List Ent) (x : Call) (q : Rep4) (hl : EntsAt H0 A l) (hc : l.length ≤ c) (sl : SzE l) (sx : SzC x) (sq : q.val.size ≤ 1000000000000000) :
    Fn Try.prog 7 [.slice A l.length c, .agg (callCells x).toArray, .agg (repCells q).toArray] H0 fun v _ => v = .bool true := by
  obtain ⟨sx1, sx2⟩ := sx
  refine Fn_of_CW Try.func7 rfl Try.ntmps7 Try.results7 rfl fun w0 hS => ?_; have hG := Grow.refl hS
  (refine CW_seq ?_; refine CW_region rfl ?_)
  (refine S_op (W_boxAgg hS (by rfl) ?_)); intro H w _ hG' hx; replace hG := hG.trans hG'; replace hS := hG'.sub; replace hl := hl.mono hG'.le; clear hG'
  skip
  (refine S_op (W_boxAgg hS (by rfl) ?_)); intro H w _ hG' hq; replace hG := hG.trans hG'; replace hS := hG'.sub; replace hl := hl.mono hG'.le; replace hx := hG'.le _ _ hx; clear hG'
  (refine S_op ?_; refine W_assignBool (by first | rfl | assumption) ?_; refine S_nil ?_; refine CW_seq ?_; refine CW_seq ?_; refine CW_region rfl ?_)
  (refine S_op ?_; refine W_call hS (by rfl) (awake20_c H) ?_); rintro v H w hG' rfl; replace hG := hG.trans hG'; replace hS := hG'.sub; replace hl := hl.mono hG'.le; replace hx := hG'.le _ _ hx; replace hq := hG'.le _ _ hq; clear hG'
  (refine S_op ?_; refine W_not (by first | rfl | assumption) ?_; refine S_op ?_; refine W_moveBool (by first | rfl | assumption) ?_; refine S_want (by rfl) ?_; refine W_moveSl (by first | rfl | assumption) ?_)
  (refine S_want (by rfl) ?_; refine W_call hS (by rfl) (few20_c H A none c 0 l [] hl (.inl rfl) sl ⟨by simp, by intro d hd; cases hd⟩) ?_); rintro v H w hG' ⟨z, rfl, hz⟩; replace hG := hG.trans hG'; replace hS := hG'.sub; replace hl := hl.mono hG'.le; replace hx := hG'.le _ _ hx; replace hq := hG'.le _ _ hq; clear hG'
  cases z with
  | false =>
    skip
    (refine S_want (by rfl) ?_; refine W_not (by first | rfl | assumption) ?_; refine S_op ?_; refine W_pickF (by first | rfl | assumption) (by first | rfl | assumption) ?_; refine S_op ?_; refine W_moveBool (by first | rfl | assumption) ?_; refine S_pass (by rfl) ?_; refine S_pass (by rfl) ?_; refine S_pass (by rfl) ?_; refine S_pass (by rfl) ?_; refine S_pass (by rfl) ?_; refine S_pass (by rfl) ?_; refine S_pass (by rfl) ?_; refine S_pass (by rfl) ?_; refine S_pass (by rfl) ?_; refine S_pass (by rfl) ?_; refine S_pass (by rfl) ?_; refine S_pass (by rfl) ?_; refine S_op ?_; refine W_pickT (by first | rfl | assumption) (by first | rfl | assumption) ?_; refine S_nil ?_; refine CW_true (by first | rfl | assumption) ?_; refine CW_seq ?_; refine CW_region rfl ?_)
    (refine S_op ?_; refine W_call hS (by rfl) (awake20_c H) ?_); rintro v H w hG' rfl; replace hG := hG.trans hG'; replace hS := hG'.sub; clear hG'
    (refine S_op ?_; refine W_assignBool (by first | rfl | assumption) ?_; refine S_nil ?_; refine CW_ret ?_)
    exact ⟨_, ResW_one (v := .bool _) rfl, H, hG, rfl⟩
  | true =>
    obtain ⟨h40, h20, hr⟩ := hz rfl
    by_cases hbig : (1000 : Int) < ((x.key.size + x.val.size + q.val.size : Nat) : Int)
    · skip
      (refine S_want (by rfl) ?_; refine W_not (by first | rfl | assumption) ?_; refine S_op ?_; refine W_pickF (by first | rfl | assumption) (by first | rfl | assumption) ?_; refine S_op ?_; refine W_moveBool (by first | rfl | assumption) ?_; refine S_want (by rfl) ?_; refine W_field (by first | rfl | assumption) ?_; refine S_want (by rfl) ?_; refine W_loadHL (by first | rfl | assumption) (by assumption) (by rfl) (by assumption) ?_; refine S_want (by rfl) ?_; refine W_lenS (by first | rfl | assumption) ?_; refine S_want (by rfl) ?_; refine W_field (by first | rfl | assumption) ?_; refine S_want (by rfl) ?_; refine W_loadHL (by first | rfl | assumption) (by assumption) (by rfl) (by assumption) ?_; refine S_want (by rfl) ?_; refine W_lenS (by first | rfl | assumption) ?_; refine S_want (by rfl) ?_; refine W_addN (by first | rfl | assumption) (by first | rfl | assumption) (by omega) ?_; refine S_want (by rfl) ?_; refine W_field (by first | rfl | assumption) ?_; refine S_want (by rfl) ?_; refine W_loadHL (by first | rfl | assumption) (by assumption) (by rfl) (by assumption) ?_; refine S_want (by rfl) ?_; refine W_lenS (by first | rfl | assumption) ?_; refine S_want (by rfl) ?_; refine W_addN (by first | rfl | assumption) (by first | rfl | assumption) (by omega) ?_; refine S_want (by rfl) ?_; refine W_gtrT (by first | rfl | assumption) (by first | rfl | assumption) (by first | omega | rfl) ?_; refine S_op ?_; refine W_pickF (by first | rfl | assumption) (by first | rfl | assumption) ?_; refine S_nil ?_; refine CW_true (by first | rfl | assumption) ?_; refine CW_seq ?_; refine CW_region rfl ?_)
      (refine S_op ?_; refine W_call hS (by rfl) (awake20_c H) ?_); rintro v H w hG' rfl; replace hG := hG.trans hG'; replace hS := hG'.sub; clear hG'
      (refine S_op ?_; refine W_assignBool (by first | rfl | assumption) ?_; refine S_nil ?_; refine CW_ret ?_)
      exact ⟨_, ResW_one (v := .bool _) rfl, H, hG, rfl⟩
    (refine S_want (by rfl) ?_; refine W_not (by first | rfl | assumption) ?_; refine S_op ?_; refine W_pickF (by first | rfl | assumption) (by first | rfl | assumption) ?_; refine S_op ?_; refine W_moveBool (by first | rfl | assumption) ?_; refine S_want (by rfl) ?_; refine W_field (by first | rfl | assumption) ?_; refine S_want (by rfl) ?_; refine W_loadHL (by first | rfl | assumption) (by assumption) (by rfl) (by assumption) ?_; refine S_want (by rfl) ?_; refine W_lenS (by first | rfl | assumption) ?_; refine S_want (by rfl) ?_; refine W_field (by first | rfl | assumption) ?_; refine S_want (by rfl) ?_; refine W_loadHL (by first | rfl | assumption) (by assumption) (by rfl) (by assumption) ?_; refine S_want (by rfl) ?_; refine W_lenS (by first | rfl | assumption) ?_; refine S_want (by rfl) ?_; refine W_addN (by first | rfl | assumption) (by first | rfl | assumption) (by omega) ?_; refine S_want (by rfl) ?_; refine W_field (by first | rfl | assumption) ?_; refine S_want (by rfl) ?_; refine W_loadHL (by first | rfl | assumption) (by assumption) (by rfl) (by assumption) ?_; refine S_want (by rfl) ?_; refine W_lenS (by first | rfl | assumption) ?_; refine S_want (by rfl) ?_; refine W_addN (by first | rfl | assumption) (by first | rfl | assumption) (by omega) ?_; refine S_want (by rfl) ?_; refine W_gtrF (by first | rfl | assumption) (by first | rfl | assumption) (by first | omega | rfl) ?_; refine S_op ?_; refine W_pickF (by first | rfl | assumption) (by first | rfl | assumption) ?_; refine S_nil ?_; refine CW_false (by first | rfl | assumption) ?_; refine CW_skip ?_; refine CW_seq ?_; refine CW_region rfl ?_; refine S_op ?_; refine W_moveSl (by first | rfl | assumption) ?_; refine S_op ?_; refine W_loadWhole (by first | rfl | assumption) (by assumption) (by rfl) (by assumption) ?_)
    (refine S_op ?_; refine W_call hS (by rfl) (does_c H A c l x hl hc (by omega)) ?_); rintro v H w hG' ⟨s, rfl, hs⟩; replace hG := hG.trans hG'; replace hS := hG'.sub; replace hl := hl.mono hG'.le; replace hx := hG'.le _ _ hx; replace hq := hG'.le _ _ hq; clear hG'
    obtain ⟨A2, c2, rfl, hc2, hl2⟩ := hs
    have hn2 := doesL_len l x
    (refine S_op ?_; refine W_moveTup (by first | rfl | assumption) ?_; refine S_op ?_; refine W_extract (by first | rfl | assumption) (by rfl) ?_; refine S_op ?_; refine W_extract (by first | rfl | assumption) (by rfl) ?_)
    (refine S_op (W_alloc hS ?_)); intro w wab hG' wah wa; replace wah := Nat.le_trans hG.below.size (Nat.le_of_eq wah); replace hG := hG.trans hG'; replace hS := hG'.sub; clear hG'
    (refine S_op ?_; refine W_assignSl (by first | rfl | assumption) ?_)
    (refine S_op0 (W_storeM (o := 0) (vs := repCells (doesR l x)) (by rfl) (by rfl) wa (by rfl) (OneCells.of_all (by rfl)) (by rfl) (Nat.le_of_ble_eq_true (by rfl)) ?_)); intro w hgb' hm'; replace hG := hG.grownBy hgb' (fun g h => by cases h; exact ⟨wa.out, wah⟩); replace hS := hG.sub; replace wa : Mut _ w wab (repCells (doesR l x)) := hm'; clear hm'; clear hgb'
    (obtain ⟨H, _, hle', hG, hm', hoth'⟩ := wa.freeze hG wah); replace hS := hG.sub; clear wa; have wa := hm'; clear hm'; replace hl := hl.mono hle'; replace hl2 := hl2.mono hle'; replace hx := hle' _ _ hx; replace hq := hle' _ _ hq; clear hle' hoth'
    (refine S_nil ?_; refine CW_seq ?_; refine CW_region rfl ?_; refine S_op ?_; refine W_loadWhole (by first | rfl | assumption) (by assumption) (by rfl) (by assumption) ?_; refine S_op ?_; refine W_loadWhole (by first | rfl | assumption) (by assumption) (by rfl) (by assumption) ?_; refine S_op ?_; refine W_build (by rfl) ?_)
    refine S_op ?_
    refine W_buildO (sz := 9) (cs := (donCells ⟨x, q, 0, 5⟩).toArray) hG (by omega) (by decide) (fill_one (by simp) rfl) rfl ?_
    intro w b9 hG' hG9 hb9 ho
    replace hl := hl.mono hG'.le
    replace hl2 := hl2.mono hG'.le
    replace hx := hG'.le _ _ hx
    replace hq := hG'.le _ _ hq
    replace wa := hG'.le _ _ wa
    replace hG := hG9
    replace hS := hG'.sub
    clear hG' hG9 hb9
    (refine S_op ?_; refine W_assignSl (by first | rfl | assumption) ?_; refine S_nil ?_; refine CW_seq ?_; refine CW_region rfl ?_; refine S_op ?_; refine W_moveSl (by first | rfl | assumption) ?_; refine S_op ?_; refine W_moveSl (by first | rfl | assumption) ?_)
    refine S_op ?_
    refine W_callW (by rfl) ((CallW.lentOwn hS ho (fun H1 hle1 hat => linear_c H1 A (some ⟨b9, 0, none⟩) c 1 l [⟨x, q, 0, 5⟩] 1 rfl (hl.mono hle1) hc (by omega) hat (Nat.le_refl 1))).mono ?_)
    rintro v w ⟨H1, H3, H, hle1, hle2, hle3, hG', ⟨p7, _⟩ | ⟨_, u1, rfl, hu1⟩, hbb⟩
    · omega
    replace hG := hG.trans hG'
    replace hS := hG'.sub
    replace hl := hl.mono hG'.le
    replace hl2 := hl2.mono hG'.le
    replace hx := hG'.le _ _ hx
    replace hq := hG'.le _ _ hq
    replace wa := hG'.le _ _ wa
    replace ho := ho.grow hG'
    clear hG' hle1 hle2 hle3 hbb
    have hqw : (u1 = .bool true ∧ decide (q = doesR l x) = true) ∨ (u1 = .bool false ∧ decide (q = doesR l x) = false) := by
      rcases hu1 with ⟨rfl, h⟩ | ⟨rfl, h⟩
      · exact .inl ⟨rfl, decide_eq_true (lin_one.1 h).symm⟩
      · exact .inr ⟨rfl, decide_eq_false (fun e => h (lin_one.2 e.symm))⟩
    clear hu1
    rcases hqw with ⟨rfl, hqw⟩ | ⟨rfl, hqw⟩
    · (refine S_op ?_; refine W_moveTup (by first | rfl | assumption) ?_; refine S_op ?_; refine W_extract (by first | rfl | assumption) (by rfl) ?_; refine S_op ?_; refine W_extract (by first | rfl | assumption) (by rfl) ?_; refine S_op ?_; refine W_assignBool (by first | rfl | assumption) ?_; refine S_op ?_; refine W_assignInt (by first | rfl | assumption) ?_; refine S_nil ?_; refine CW_seq ?_; refine CW_seq ?_; refine CW_region rfl ?_; refine S_op ?_; refine W_moveBool (by first | rfl | assumption) ?_; refine S_op ?_; refine W_loadWhole (by first | rfl | assumption) (by assumption) (by rfl) (by assumption) ?_; refine S_op ?_; refine W_loadWhole (by first | rfl | assumption) (by assumption) (by rfl) (by assumption) ?_)
      refine S_op ?_
      refine W_repEqlB (a := q) (c := doesR l x) (q := true) hqw (by rfl) (by rfl) ?_
      (refine S_op ?_; refine W_bneqF (by first | rfl | assumption) (by first | rfl | assumption) (by first | rfl | assumption) ?_; refine S_op ?_; refine W_moveBool (by first | rfl | assumption) ?_; refine S_want (by rfl) ?_; refine W_moveInt (by first | rfl | assumption) ?_; refine S_want (by rfl) ?_; refine W_neqF (by first | rfl | assumption) (by first | rfl | assumption) (by first | omega | rfl) ?_; refine S_op ?_; refine W_pickF (by first | rfl | assumption) (by first | rfl | assumption) ?_; refine S_nil ?_; refine CW_false (by first | rfl | assumption) ?_; refine CW_skip ?_; refine CW_seq ?_; refine CW_region rfl ?_; refine S_op ?_; refine W_field (by first | rfl | assumption) ?_; refine S_op ?_; refine W_loadHL (by first | rfl | assumption) (by assumption) (by rfl) (by assumption) ?_; refine S_op ?_; refine W_build (by rfl) ?_)
      (refine S_op (W_alloc hS ?_)); intro w gab hG' gah ga; have n_ho_ga := fun (a : Addr) ha => Nat.ne_of_lt (Nat.lt_of_lt_of_eq (ho.block (a := a) ha).2 gah); replace gah := Nat.le_trans hG.below.size (Nat.le_of_eq gah); replace hG := hG.trans hG'; replace hS := hG'.sub; replace ho := ho.grow hG'; clear hG'
      skip
      (refine S_op0 (W_storeM (o := 0) (vs := callCells (getC x)) (by rfl) (by rfl) ga (by rfl) (OneCells.of_all (by rfl)) (by rfl) (Nat.le_of_ble_eq_true (by rfl)) ?_)); intro w hgb' hm'; replace hG := hG.grownBy hgb' (fun g h => by cases h; exact ⟨ga.out, gah⟩); replace hS := hG.sub; replace ga : Mut _ w gab (callCells (getC x)) := hm'; clear hm'; replace ho := ho.other hgb' (fun a ha e2 => n_ho_ga a ha (Option.some.inj e2)); clear hgb'
      (obtain ⟨H, _, hle', hG, hm', hoth'⟩ := ga.freeze hG gah); replace hS := hG.sub; clear ga; have ga := hm'; clear hm'; replace hl := hl.mono hle'; replace hl2 := hl2.mono hle'; replace hx := hle' _ _ hx; replace wa := hle' _ _ wa; replace ho := Own.mk ho.row (fun a ha => (hoth' _ (n_ho_ga a ha)).trans (ho.out a ha)); clear hle' hoth'
      (refine S_nil ?_; refine CW_seq ?_; refine CW_region rfl ?_; refine S_op ?_; refine W_moveSl (by first | rfl | assumption) ?_; refine S_op ?_; refine W_loadWhole (by first | rfl | assumption) (by assumption) (by rfl) (by assumption) ?_)
      (refine S_op ?_; refine W_call hS (by rfl) (does_c H A c l (getC x) hl hc (by omega)) ?_); rintro v H w hG' ⟨s3, rfl, hs3⟩; replace hG := hG.trans hG'; replace hS := hG'.sub; replace hl := hl.mono hG'.le; replace hl2 := hl2.mono hG'.le; replace hx := hG'.le _ _ hx; replace wa := hG'.le _ _ wa; replace ga := hG'.le _ _ ga; replace ho := ho.grow hG'; clear hG'
      obtain ⟨A3, c3, rfl, _, _⟩ := hs3
      (refine S_op ?_; refine W_moveTup (by first | rfl | assumption) ?_; refine S_op ?_; refine W_extract (by first | rfl | assumption) (by rfl) ?_; refine S_op ?_; refine W_extract (by first | rfl | assumption) (by rfl) ?_)
      (refine S_op (W_alloc hS ?_)); intro w bab hG' bah ba; have n_ho_ba := fun (a : Addr) ha => Nat.ne_of_lt (Nat.lt_of_lt_of_eq (ho.block (a := a) ha).2 bah); replace bah := Nat.le_trans hG.below.size (Nat.le_of_eq bah); replace hG := hG.trans hG'; replace hS := hG'.sub; replace ho := ho.grow hG'; clear hG'
      (refine S_op ?_; refine W_assignSl (by first | rfl | assumption) ?_)
      (refine S_op0 (W_storeM (o := 0) (vs := repCells (doesR l (getC x))) (by rfl) (by rfl) ba (by rfl) (OneCells.of_all (by rfl)) (by rfl) (Nat.le_of_ble_eq_true (by rfl)) ?_)); intro w hgb' hm'; replace hG := hG.grownBy hgb' (fun g h => by cases h; exact ⟨ba.out, bah⟩); replace hS := hG.sub; replace ba : Mut _ w bab (repCells (doesR l (getC x))) := hm'; clear hm'; replace ho := ho.other hgb' (fun a ha e2 => n_ho_ba a ha (Option.some.inj e2)); clear hgb'
      (obtain ⟨H, _, hle', hG, hm', hoth'⟩ := ba.freeze hG bah); replace hS := hG.sub; clear ba; have ba := hm'; clear hm'; replace hl := hl.mono hle'; replace hl2 := hl2.mono hle'; replace hx := hle' _ _ hx; replace wa := hle' _ _ wa; replace ga := hle' _ _ ga; replace ho := Own.mk ho.row (fun a ha => (hoth' _ (n_ho_ba a ha)).trans (ho.out a ha)); clear hle' hoth'
      (refine S_nil ?_; refine CW_seq ?_; refine CW_region rfl ?_; refine S_op ?_; refine W_moveSl (by first | rfl | assumption) ?_; refine S_op ?_; refine W_loadWhole (by first | rfl | assumption) (by assumption) (by rfl) (by assumption) ?_)
      (refine S_op ?_; refine W_call hS (by rfl) (does_c H A2 c2 (doesL l x) (getC x) hl2 hc2 (by omega)) ?_); rintro v H w hG' ⟨s4, rfl, hs4⟩; replace hG := hG.trans hG'; replace hS := hG'.sub; replace hl := hl.mono hG'.le; replace hx := hG'.le _ _ hx; replace wa := hG'.le _ _ wa; replace ga := hG'.le _ _ ga; replace ba := hG'.le _ _ ba; replace ho := ho.grow hG'; clear hG'
      obtain ⟨A4, c4, rfl, _, _⟩ := hs4
      (refine S_op ?_; refine W_moveTup (by first | rfl | assumption) ?_; refine S_op ?_; refine W_extract (by first | rfl | assumption) (by rfl) ?_; refine S_op ?_; refine W_extract (by first | rfl | assumption) (by rfl) ?_)
      (refine S_op (W_alloc hS ?_)); intro w fab hG' fah fa; have n_ho_fa := fun (a : Addr) ha => Nat.ne_of_lt (Nat.lt_of_lt_of_eq (ho.block (a := a) ha).2 fah); replace fah := Nat.le_trans hG.below.size (Nat.le_of_eq fah); replace hG := hG.trans hG'; replace hS := hG'.sub; replace ho := ho.grow hG'; clear hG'
      (refine S_op ?_; refine W_assignSl (by first | rfl | assumption) ?_)
      (refine S_op0 (W_storeM (o := 0) (vs := repCells (doesR (doesL l x) (getC x))) (by rfl) (by rfl) fa (by rfl) (OneCells.of_all (by rfl)) (by rfl) (Nat.le_of_ble_eq_true (by rfl)) ?_)); intro w hgb' hm'; replace hG := hG.grownBy hgb' (fun g h => by cases h; exact ⟨fa.out, fah⟩); replace hS := hG.sub; replace fa : Mut _ w fab (repCells (doesR (doesL l x) (getC x))) := hm'; clear hm'; replace ho := ho.other hgb' (fun a ha e2 => n_ho_fa a ha (Option.some.inj e2)); clear hgb'
      (obtain ⟨H, _, hle', hG, hm', hoth'⟩ := fa.freeze hG fah); replace hS := hG.sub; clear fa; have fa := hm'; clear hm'; replace hl := hl.mono hle'; replace hx := hle' _ _ hx; replace wa := hle' _ _ wa; replace ga := hle' _ _ ga; replace ba := hle' _ _ ba; replace ho := Own.mk ho.row (fun a ha => (hoth' _ (n_ho_fa a ha)).trans (ho.out a ha)); clear hle' hoth'
      obtain ⟨g1, cs, hA, hB, hmut, htake, hlen⟩ := ho.mutL (by omega)
      cases hA
      rw [List.take_of_length_le (by omega)] at htake
      have hcs : cs = donCells ⟨x, q, 0, 5⟩ := htake
      subst hcs
      clear htake hlen ho
      (refine S_nil ?_; refine CW_seq ?_; refine CW_region rfl ?_; refine S_op ?_; refine W_moveSl (by first | rfl | assumption) ?_; refine S_op ?_; refine W_loadWhole (by first | rfl | assumption) (by assumption) (by rfl) (by assumption) ?_; refine S_op ?_; refine W_index (by first | rfl | assumption) (by first | rfl | assumption) (by first | assumption | omega | decide) (by first | rfl | assumption) ?_; refine S_op ?_; refine W_field (by first | rfl | assumption) ?_)
      refine S_op0 (W_storeM (o := 0 + 0 * 9 + 3) (vs := repCells (doesR l x)) (by rfl) (by rfl) hmut (by rfl) (OneCells.of_all (by rfl)) (by rfl) (Nat.le_of_ble_eq_true (by rfl)) ?_)
      intro w hgb hmut2
      replace hG := hG.grownBy hgb (fun g h => by cases h; exact ⟨hmut.out, hB⟩)
      replace hS := hG.sub
      replace hmut2 : Mut H w b9 (donCells ⟨x, doesR l x, 0, 5⟩) := hmut2
      obtain ⟨H, T9, hle, hG, hb9, _⟩ := hmut2.freeze hG hB
      replace hS := hG.sub
      replace hl := hl.mono hle
      replace hx := hle _ _ hx
      replace wa := hle _ _ wa
      replace ga := hle _ _ ga
      replace ba := hle _ _ ba
      replace fa := hle _ _ fa
      clear hle hmut hmut2 hgb
      have hd9 : SlAt H (some ⟨b9, 0, none⟩) (donCells ⟨x, doesR l x, 0, 5⟩) := SlAt.of_row hb9
      (refine S_nil ?_; refine CW_seq ?_; refine CW_seq ?_; refine CW_region rfl ?_; refine S_op ?_; refine W_loadWhole (by first | rfl | assumption) (by assumption) (by rfl) (by assumption) ?_; refine S_op ?_; refine W_loadWhole (by first | rfl | assumption) (by assumption) (by rfl) (by assumption) ?_)
      refine S_op ?_
      refine W_buildSlice (sz := 4) (cs := (repCells (doesR l (getC x)) ++ repCells (doesR (doesL l x) (getC x))).toArray) hS (by omega) (fill_reps _ _ _ (by simp)) ?_
      intro H w b12 hG' hb12 _ _
      replace hG := hG.trans hG'
      replace hS := hG'.sub
      replace hl := hl.mono hG'.le
      replace hd9 := hd9.mono hG'.le
      replace ga := hG'.le _ _ ga
      clear hG' hx wa ba fa hb9
      (refine S_op ?_; refine W_len (by first | rfl | assumption) ?_; refine S_op ?_; refine W_moveInt (by first | rfl | assumption) ?_; refine S_nil ?_; refine CW_block ?_)
      refine CW_loopM [6, 18, 19, 20, 91, 92, 93, 94, 95, 96, 97, 98, 99, 100, 101, 102, 103, 104, 105, 106, 107, 108, 109, 110, 111, 112, 113]
        (fun m u w2 => ∃ (i : Nat) (H2 : HF), u 91 = .int .i64 (i : Int) ∧ Grow H0 w0 H2 w2 ∧ HLe H H2 ∧ i ≤ 2 ∧ 2 - i ≤ m)
        (m := 2) ⟨0, H, rfl, hG, HLe.refl _, by omega, by omega⟩ ?_
      clear hG hS
      rintro m u w ⟨i, H, h91, hG, hle, hi, hm⟩
      have hS := hG.sub
      have hle0 := hle
      replace hl := hl.mono hle
      replace hd9 := hd9.mono hle
      replace ga := hle _ _ ga
      replace hb12 := hle _ _ hb12
      clear hle
      by_cases hlt : i < 2
      · obtain ⟨s, hs, hrow⟩ : ∃ s : Rep4, (s = doesR l (getC x) ∨ s = doesR (doesL l x) (getC x)) ∧ ∀ j v, (repCells s)[j]? = some v → (repCells (doesR l (getC x)) ++ repCells (doesR (doesL l x) (getC x)))[i * 4 + j]? = some v := by
          rcases Nat.lt_or_ge i 1 with h1 | h1
          · refine ⟨_, .inl rfl, fun j v hj => ?_⟩
            rw [show i * 4 + j = j by omega, List.getElem?_append_left (by exact (List.getElem?_eq_some_iff.1 hj).1)]; exact hj
          · refine ⟨_, .inr rfl, fun j v hj => ?_⟩
            have hj4 : j < 4 := (List.getElem?_eq_some_iff.1 hj).1
            rw [List.getElem?_append_right (by simp [repCells]; omega), show i * 4 + j - (repCells (doesR l (getC x))).length = j by simp [repCells]; omega]; exact hj
        (refine CW_seq ?_; refine CW_region rfl ?_; refine S_op ?_; refine W_lssT (by first | rfl | assumption) (by first | rfl | assumption) (by first | omega | rfl) ?_; refine S_nil ?_; refine CW_seq ?_; refine CW_true (by first | rfl | assumption) ?_; refine CW_skip ?_; refine CW_seq ?_; refine CW_block ?_; refine CW_seq ?_; refine CW_region rfl ?_; refine S_op ?_; refine W_index (by first | rfl | assumption) (by first | rfl | assumption) (by first | assumption | omega | decide) (by first | rfl | assumption) ?_)
        refine S_op ?_
        refine row_agg (k := i * 4) (us := repCells s) (by rfl) ⟨_, _, _, hb12, fun j v hj => by simpa using hj⟩ rfl hrow hS ?_
        skip
        (refine S_op (W_alloc hS ?_)); intro w sab hG' sah sa; replace sah := Nat.le_trans hG.below.size (Nat.le_of_eq sah); replace hG := hG.trans hG'; replace hS := hG'.sub; clear hG'
        skip
        (refine S_op0 (W_storeM (o := 0) (vs := repCells s) (by rfl) (by rfl) sa (by rfl) (OneCells.of_all (by rfl)) (by rfl) (Nat.le_of_ble_eq_true (by rfl)) ?_)); intro w hgb' hm'; replace hG := hG.grownBy hgb' (fun g h => by cases h; exact ⟨sa.out, sah⟩); replace hS := hG.sub; replace sa : Mut _ w sab (repCells s) := hm'; clear hm'; skip
        clear hgb'
        obtain ⟨H, _, hle', hG, hm', _⟩ := sa.freeze hG sah
        replace hS := hG.sub
        replace hl := hl.mono hle'
        replace hd9 := hd9.mono hle'
        replace ga := hle' _ _ ga
        replace hle0 := hle0.trans hle'
        clear sa hle'
        (refine S_nil ?_; refine CW_seq ?_)
        apply CW_region_grow [_, _, _, _, _, _, _, _, _, _, _, _, _, _] [none, none, none, none, none, none, none, none, none, none, none, none, none, none] [some 96, some 97, some 98, some 99, some 100, some 101, some 102, some 103, some 104, some 95, some 105, some 106, some 19, some 20] [96, 97, 98, 99, 100, 101, 102, 103, 104, 95, 105, 106, 19, 20] mixed rfl rfl rfl rfl (by decide) rfl (by assumption)
        · ((apply steps_cons; case h1 => (apply A_pure; intro c u H' w' hG; have hS' := hG.sub; have hS2' := hG.subOld; (repeat (first | refine depGo_eq rfl rfl rfl ?_ | (refine depGo_fact rfl rfl rfl ?_; intro v hv) | refine depGo_skip rfl ?_ | refine depGo_none rfl ?_)); apply Pure1.mk; intro K hk; exact W_moveSl (by first | rfl | assumption) hk)); (apply steps_cons; case h1 => (apply A_pure; intro c u H' w' hG; have hS' := hG.sub; have hS2' := hG.subOld; (repeat (first | refine depGo_eq rfl rfl rfl ?_ | (refine depGo_fact rfl rfl rfl ?_; intro v hv) | refine depGo_skip rfl ?_ | refine depGo_none rfl ?_)); apply Pure1.mk; intro K hk; exact W_moveSl (by first | rfl | assumption) hk)))
          apply steps_cons; case h1 => (apply A_pure; intro c u H' w' hG'; (repeat (first | refine depGo_eq rfl rfl rfl ?_ | (refine depGo_fact rfl rfl rfl ?_; intro v hv) | refine depGo_skip rfl ?_ | refine depGo_none rfl ?_)); refine depGo_nil ?_; apply Pure1.mk; intro K hk; exact W_slice3 (h := 1) (m := 1) (by rfl) (by rfl) (by rfl) (by omega) (by omega) hk)
          ((apply steps_cons; case h1 => (apply A_pure; intro c u H' w' hG; have hS' := hG.sub; have hS2' := hG.subOld; (repeat (first | refine depGo_eq rfl rfl rfl ?_ | (refine depGo_fact rfl rfl rfl ?_; intro v hv) | refine depGo_skip rfl ?_ | refine depGo_none rfl ?_)); apply Pure1.mk; intro K hk; exact W_loadWhole (by first | rfl | assumption) (by assumption) (by rfl) (by assumption) hk)); (apply steps_cons; case h1 => (apply A_pure; intro c u H' w' hG; have hS' := hG.sub; have hS2' := hG.subOld; (repeat (first | refine depGo_eq rfl rfl rfl ?_ | (refine depGo_fact rfl rfl rfl ?_; intro v hv) | refine depGo_skip rfl ?_ | refine depGo_none rfl ?_)); apply Pure1.mk; intro K hk; exact W_loadWhole (by first | rfl | assumption) (by assumption) (by rfl) (by assumption) hk)))
          apply steps_cons; case h1 => (apply A_pure; intro c u H' w' hG'; (repeat (first | refine depGo_eq rfl rfl rfl ?_ | (refine depGo_fact rfl rfl rfl ?_; intro v hv) | refine depGo_skip rfl ?_ | refine depGo_none rfl ?_)); refine depGo_nil ?_; apply Pure1.mk; intro K hk; exact W_build (cs := donCells ⟨getC x, s, 1, 2⟩) (fill_don4 (getC x) s 1 2) hk)
          apply steps_cons
          · refine A_fact (φ := fun v H => ∃ b, v = .slice (some ⟨b, 0, none⟩) 1 1 ∧ SlAt H (some ⟨b, 0, none⟩) (donCells ⟨getC x, s, 1, 2⟩)) ?_
            intro c' u H' w' hG'
            have hS' := hG'.sub
            (repeat (first | refine depGo_eq rfl rfl rfl ?_ | (refine depGo_fact rfl rfl rfl ?_; intro v hv) | refine depGo_skip rfl ?_ | refine depGo_none rfl ?_))
            refine depGo_nil ?_
            refine W_build1 (sz := 9) (v := .agg (donCells ⟨getC x, s, 1, 2⟩).toArray) hS' (by omega) (by rfl) (by rfl) ?_
            intro H3 w3 b hG3 hb3 _ _
            exact ⟨H3, hG3.le, hG'.trans hG3, fun H'' hle => ⟨b, rfl, SlAt.of_row (hle _ _ hb3)⟩⟩
          apply steps_cons
          · refine A_fact (φ := fun v H => ∃ A c, v = .slice A 2 c ∧ 2 ≤ c ∧ DonsAt H A [⟨x, doesR l x, 0, 5⟩, ⟨getC x, s, 1, 2⟩]) ?_
            intro c' u H' w' hG'
            have hS' := hG'.sub
            (repeat (first | refine depGo_eq rfl rfl rfl ?_ | (refine depGo_fact rfl rfl rfl ?_; intro v hv) | refine depGo_skip rfl ?_ | refine depGo_none rfl ?_))
            obtain ⟨b2, rfl, hb2⟩ := hv
            refine depGo_nil ?_
            refine W_append_new (xs := donCells ⟨x, doesR l x, 0, 5⟩) (news := donCells ⟨getC x, s, 1, 2⟩) (m := 1) (by rfl) (by rfl) hG' (by simp) ((hd9.mono hG'.le).cells hS') (by rfl) (hb2.cells hS') (by rfl) (OneCells.of_all (by rfl)) (by omega) (by omega) (by decide) (by omega) (by omega) ?_
            intro A' c' w3 hg3 hg4 ho3 _
            have hc3 := ho3.cap
            obtain ⟨H4, hle4, hG4, hsl4, _⟩ := ho3.freeze hg3
            exact ⟨H4, hle4, hG4, fun H'' hle => ⟨A', c', rfl, hc3, SlAt.mono hsl4 hle⟩⟩
          apply steps_cons
          · refine A_fact (φ := fun v _ => v = .tuple #[.bool true, .int .i64 0]) ?_
            intro c' u H' w' hG'
            have hS' := hG'.sub
            (repeat (first | refine depGo_eq rfl rfl rfl ?_ | (refine depGo_fact rfl rfl rfl ?_; intro v hv) | refine depGo_skip rfl ?_ | refine depGo_none rfl ?_))
            obtain ⟨A5, c5, rfl, hc5, hd5⟩ := hv
            refine depGo_nil ?_
            refine W_call hS' (by rfl) (linear_c H' A A5 c c5 l [⟨x, doesR l x, 0, 5⟩, ⟨getC x, s, 1, 2⟩] 2 rfl (hl.mono hG'.le) hc (by omega) hd5 hc5) ?_
            rintro v H3 w3 hG3 (⟨p7, _⟩ | ⟨_, u2, rfl, ⟨rfl, _⟩ | ⟨_, hN⟩⟩)
            · omega
            · exact ⟨H3, hG3.le, hG'.trans hG3, fun H'' hle => rfl⟩
            · exact absurd (lin_seen x hs) hN
          ((apply steps_cons; case h1 => (apply A_pure; intro c u H' w' hG; have hS' := hG.sub; have hS2' := hG.subOld; (repeat (first | refine depGo_eq rfl rfl rfl ?_ | (refine depGo_fact rfl rfl rfl ?_; intro v hv) | refine depGo_skip rfl ?_ | refine depGo_none rfl ?_)); apply Pure1.mk; intro K hk; exact W_moveTup (by first | rfl | assumption) hk)); (apply steps_cons; case h1 => (apply A_pure; intro c u H' w' hG; have hS' := hG.sub; have hS2' := hG.subOld; (repeat (first | refine depGo_eq rfl rfl rfl ?_ | (refine depGo_fact rfl rfl rfl ?_; intro v hv) | refine depGo_skip rfl ?_ | refine depGo_none rfl ?_)); apply Pure1.mk; intro K hk; exact W_extract (by first | rfl | assumption) (by rfl) hk)); (apply steps_cons; case h1 => (apply A_pure; intro c u H' w' hG; have hS' := hG.sub; have hS2' := hG.subOld; (repeat (first | refine depGo_eq rfl rfl rfl ?_ | (refine depGo_fact rfl rfl rfl ?_; intro v hv) | refine depGo_skip rfl ?_ | refine depGo_none rfl ?_)); apply Pure1.mk; intro K hk; exact W_extract (by first | rfl | assumption) (by rfl) hk)); (apply steps_cons; case h1 => (apply A_pure; intro c u H' w' hG; have hS' := hG.sub; have hS2' := hG.subOld; (repeat (first | refine depGo_eq rfl rfl rfl ?_ | (refine depGo_fact rfl rfl rfl ?_; intro v hv) | refine depGo_skip rfl ?_ | refine depGo_none rfl ?_)); apply Pure1.mk; intro K hk; exact W_assignBool (by first | rfl | assumption) hk)); (apply steps_cons; case h1 => (apply A_pure; intro c u H' w' hG; have hS' := hG.sub; have hS2' := hG.subOld; (repeat (first | refine depGo_eq rfl rfl rfl ?_ | (refine depGo_fact rfl rfl rfl ?_; intro v hv) | refine depGo_skip rfl ?_ | refine depGo_none rfl ?_)); apply Pure1.mk; intro K hk; exact W_assignInt (by first | rfl | assumption) hk)); exact trivial)
        · intro H' w' hG'
          (repeat (first | refine fin_eq rfl rfl ?_ | (refine fin_fact rfl ?_; intro v hv) | refine fin_none rfl ?_)); refine fin_nil ?_
          (refine CW_seq ?_; refine CW_region rfl ?_; refine S_op ?_; refine W_moveBool (by first | rfl | assumption) ?_; refine S_op ?_; refine W_not (by first | rfl | assumption) ?_; refine S_op ?_; refine W_moveBool (by first | rfl | assumption) ?_; refine S_want (by rfl) ?_; refine W_moveInt (by first | rfl | assumption) ?_; refine S_want (by rfl) ?_; refine W_neqF (by first | rfl | assumption) (by first | rfl | assumption) (by first | omega | rfl) ?_; refine S_op ?_; refine W_pickF (by first | rfl | assumption) (by first | rfl | assumption) ?_; refine S_nil ?_; refine CW_false (by first | rfl | assumption) ?_; refine CW_skip ?_; refine CW_region rfl ?_; refine S_op ?_; refine W_add1 (by first | rfl | assumption) (by omega) ?_; refine S_op ?_; refine W_moveInt (by first | rfl | assumption) ?_; refine S_nil ?_)
          exact ⟨(by repeat (first | exact AgreeOff.over | refine AgreeOff.upd rfl ?_ | refine AgreeOff.over2 rfl ?_)), m - 1, by omega, i + 1, H', rfl, hG.trans hG', hle0.trans hG'.le, by omega, by omega⟩
      · have hin : i = 2 := by omega
        subst hin
        (refine CW_seq ?_; refine CW_region rfl ?_; refine S_op ?_; refine W_lssF (by first | rfl | assumption) (by first | rfl | assumption) (by first | omega | rfl) ?_; refine S_nil ?_; refine CW_seq ?_; refine CW_false (by first | rfl | assumption) ?_; refine CW_exit ?_; refine CW_seq ?_; refine CW_region rfl ?_; refine S_op ?_; refine W_assignBool (by first | rfl | assumption) ?_; refine S_nil ?_; refine CW_ret ?_)
        exact ⟨_, ResW_one (v := .bool _) rfl, H, hG, rfl⟩
    · (refine S_op ?_; refine W_moveTup (by first | rfl | assumption) ?_; refine S_op ?_; refine W_extract (by first | rfl | assumption) (by rfl) ?_; refine S_op ?_; refine W_extract (by first | rfl | assumption) (by rfl) ?_; refine S_op ?_; refine W_assignBool (by first | rfl | assumption) ?_; refine S_op ?_; refine W_assignInt (by first | rfl | assumption) ?_; refine S_nil ?_; refine CW_seq ?_; refine CW_seq ?_; refine CW_region rfl ?_; refine S_op ?_; refine W_moveBool (by first | rfl | assumption) ?_; refine S_op ?_; refine W_loadWhole (by first | rfl | assumption) (by assumption) (by rfl) (by assumption) ?_; refine S_op ?_; refine W_loadWhole (by first | rfl | assumption) (by assumption) (by rfl) (by assumption) ?_)
      refine S_op ?_
      refine W_repEqlB (a := q) (c := doesR l x) (q := false) hqw (by rfl) (by rfl) ?_
      (refine S_op ?_; refine W_bneqF (by first | rfl | assumption) (by first | rfl | assumption) (by first | rfl | assumption) ?_; refine S_op ?_; refine W_moveBool (by first | rfl | assumption) ?_; refine S_want (by rfl) ?_; refine W_moveInt (by first | rfl | assumption) ?_; refine S_want (by rfl) ?_; refine W_neqF (by first | rfl | assumption) (by first | rfl | assumption) (by first | omega | rfl) ?_; refine S_op ?_; refine W_pickF (by first | rfl | assumption) (by first | rfl | assumption) ?_; refine S_nil ?_; refine CW_false (by first | rfl | assumption) ?_; refine CW_skip ?_; refine CW_seq ?_; refine CW_region rfl ?_; refine S_op ?_; refine W_field (by first | rfl | assumption) ?_; refine S_op ?_; refine W_loadHL (by first | rfl | assumption) (by assumption) (by rfl) (by assumption) ?_; refine S_op ?_; refine W_build (by rfl) ?_)
      (refine S_op (W_alloc hS ?_)); intro w gab hG' gah ga; have n_ho_ga := fun (a : Addr) ha => Nat.ne_of_lt (Nat.lt_of_lt_of_eq (ho.block (a := a) ha).2 gah); replace gah := Nat.le_trans hG.below.size (Nat.le_of_eq gah); replace hG := hG.trans hG'; replace hS := hG'.sub; replace ho := ho.grow hG'; clear hG'
      skip
      (refine S_op0 (W_storeM (o := 0) (vs := callCells (getC x)) (by rfl) (by rfl) ga (by rfl) (OneCells.of_all (by rfl)) (by rfl) (Nat.le_of_ble_eq_true (by rfl)) ?_)); intro w hgb' hm'; replace hG := hG.grownBy hgb' (fun g h => by cases h; exact ⟨ga.out, gah⟩); replace hS := hG.sub; replace ga : Mut _ w gab (callCells (getC x)) := hm'; clear hm'; replace ho := ho.other hgb' (fun a ha e2 => n_ho_ga a ha (Option.some.inj e2)); clear hgb'
      (obtain ⟨H, _, hle', hG, hm', hoth'⟩ := ga.freeze hG gah); replace hS := hG.sub; clear ga; have ga := hm'; clear hm'; replace hl := hl.mono hle'; replace hl2 := hl2.mono hle'; replace hx := hle' _ _ hx; replace wa := hle' _ _ wa; replace ho := Own.mk ho.row (fun a ha => (hoth' _ (n_ho_ga a ha)).trans (ho.out a ha)); clear hle' hoth'
      (refine S_nil ?_; refine CW_seq ?_; refine CW_region rfl ?_; refine S_op ?_; refine W_moveSl (by first | rfl | assumption) ?_; refine S_op ?_; refine W_loadWhole (by first | rfl | assumption) (by assumption) (by rfl) (by assumption) ?_)
      (refine S_op ?_; refine W_call hS (by rfl) (does_c H A c l (getC x) hl hc (by omega)) ?_); rintro v H w hG' ⟨s3, rfl, hs3⟩; replace hG := hG.trans hG'; replace hS := hG'.sub; replace hl := hl.mono hG'.le; replace hl2 := hl2.mono hG'.le; replace hx := hG'.le _ _ hx; replace wa := hG'.le _ _ wa; replace ga := hG'.le _ _ ga; replace ho := ho.grow hG'; clear hG'
      obtain ⟨A3, c3, rfl, _, _⟩ := hs3
      (refine S_op ?_; refine W_moveTup (by first | rfl | assumption) ?_; refine S_op ?_; refine W_extract (by first | rfl | assumption) (by rfl) ?_; refine S_op ?_; refine W_extract (by first | rfl | assumption) (by rfl) ?_)
      (refine S_op (W_alloc hS ?_)); intro w bab hG' bah ba; have n_ho_ba := fun (a : Addr) ha => Nat.ne_of_lt (Nat.lt_of_lt_of_eq (ho.block (a := a) ha).2 bah); replace bah := Nat.le_trans hG.below.size (Nat.le_of_eq bah); replace hG := hG.trans hG'; replace hS := hG'.sub; replace ho := ho.grow hG'; clear hG'
      (refine S_op ?_; refine W_assignSl (by first | rfl | assumption) ?_)
      (refine S_op0 (W_storeM (o := 0) (vs := repCells (doesR l (getC x))) (by rfl) (by rfl) ba (by rfl) (OneCells.of_all (by rfl)) (by rfl) (Nat.le_of_ble_eq_true (by rfl)) ?_)); intro w hgb' hm'; replace hG := hG.grownBy hgb' (fun g h => by cases h; exact ⟨ba.out, bah⟩); replace hS := hG.sub; replace ba : Mut _ w bab (repCells (doesR l (getC x))) := hm'; clear hm'; replace ho := ho.other hgb' (fun a ha e2 => n_ho_ba a ha (Option.some.inj e2)); clear hgb'
      (obtain ⟨H, _, hle', hG, hm', hoth'⟩ := ba.freeze hG bah); replace hS := hG.sub; clear ba; have ba := hm'; clear hm'; replace hl := hl.mono hle'; replace hl2 := hl2.mono hle'; replace hx := hle' _ _ hx; replace wa := hle' _ _ wa; replace ga := hle' _ _ ga; replace ho := Own.mk ho.row (fun a ha => (hoth' _ (n_ho_ba a ha)).trans (ho.out a ha)); clear hle' hoth'
      (refine S_nil ?_; refine CW_seq ?_; refine CW_region rfl ?_; refine S_op ?_; refine W_moveSl (by first | rfl | assumption) ?_; refine S_op ?_; refine W_loadWhole (by first | rfl | assumption) (by assumption) (by rfl) (by assumption) ?_)
      (refine S_op ?_; refine W_call hS (by rfl) (does_c H A2 c2 (doesL l x) (getC x) hl2 hc2 (by omega)) ?_); rintro v H w hG' ⟨s4, rfl, hs4⟩; replace hG := hG.trans hG'; replace hS := hG'.sub; replace hl := hl.mono hG'.le; replace hx := hG'.le _ _ hx; replace wa := hG'.le _ _ wa; replace ga := hG'.le _ _ ga; replace ba := hG'.le _ _ ba; replace ho := ho.grow hG'; clear hG'
      obtain ⟨A4, c4, rfl, _, _⟩ := hs4
      (refine S_op ?_; refine W_moveTup (by first | rfl | assumption) ?_; refine S_op ?_; refine W_extract (by first | rfl | assumption) (by rfl) ?_; refine S_op ?_; refine W_extract (by first | rfl | assumption) (by rfl) ?_)
      (refine S_op (W_alloc hS ?_)); intro w fab hG' fah fa; have n_ho_fa := fun (a : Addr) ha => Nat.ne_of_lt (Nat.lt_of_lt_of_eq (ho.block (a := a) ha).2 fah); replace fah := Nat.le_trans hG.below.size (Nat.le_of_eq fah); replace hG := hG.trans hG'; replace hS := hG'.sub; replace ho := ho.grow hG'; clear hG'
      (refine S_op ?_; refine W_assignSl (by first | rfl | assumption) ?_)
      (refine S_op0 (W_storeM (o := 0) (vs := repCells (doesR (doesL l x) (getC x))) (by rfl) (by rfl) fa (by rfl) (OneCells.of_all (by rfl)) (by rfl) (Nat.le_of_ble_eq_true (by rfl)) ?_)); intro w hgb' hm'; replace hG := hG.grownBy hgb' (fun g h => by cases h; exact ⟨fa.out, fah⟩); replace hS := hG.sub; replace fa : Mut _ w fab (repCells (doesR (doesL l x) (getC x))) := hm'; clear hm'; replace ho := ho.other hgb' (fun a ha e2 => n_ho_fa a ha (Option.some.inj e2)); clear hgb'
      (obtain ⟨H, _, hle', hG, hm', hoth'⟩ := fa.freeze hG fah); replace hS := hG.sub; clear fa; have fa := hm'; clear hm'; replace hl := hl.mono hle'; replace hx := hle' _ _ hx; replace wa := hle' _ _ wa; replace ga := hle' _ _ ga; replace ba := hle' _ _ ba; replace ho := Own.mk ho.row (fun a ha => (hoth' _ (n_ho_fa a ha)).trans (ho.out a ha)); clear hle' hoth'
      obtain ⟨g1, cs, hA, hB, hmut, htake, hlen⟩ := ho.mutL (by omega)
      cases hA
      rw [List.take_of_length_le (by omega)] at htake
      have hcs : cs = donCells ⟨x, q, 0, 5⟩ := htake
      subst hcs
      clear htake hlen ho
      (refine S_nil ?_; refine CW_seq ?_; refine CW_region rfl ?_; refine S_op ?_; refine W_moveSl (by first | rfl | assumption) ?_; refine S_op ?_; refine W_loadWhole (by first | rfl | assumption) (by assumption) (by rfl) (by assumption) ?_; refine S_op ?_; refine W_index (by first | rfl | assumption) (by first | rfl | assumption) (by first | assumption | omega | decide) (by first | rfl | assumption) ?_; refine S_op ?_; refine W_field (by first | rfl | assumption) ?_)
      refine S_op0 (W_storeM (o := 0 + 0 * 9 + 3) (vs := repCells (doesR l x)) (by rfl) (by rfl) hmut (by rfl) (OneCells.of_all (by rfl)) (by rfl) (Nat.le_of_ble_eq_true (by rfl)) ?_)
      intro w hgb hmut2
      replace hG := hG.grownBy hgb (fun g h => by cases h; exact ⟨hmut.out, hB⟩)
      replace hS := hG.sub
      replace hmut2 : Mut H w b9 (donCells ⟨x, doesR l x, 0, 5⟩) := hmut2
      obtain ⟨H, T9, hle, hG, hb9, _⟩ := hmut2.freeze hG hB
      replace hS := hG.sub
      replace hl := hl.mono hle
      replace hx := hle _ _ hx
      replace wa := hle _ _ wa
      replace ga := hle _ _ ga
      replace ba := hle _ _ ba
      replace fa := hle _ _ fa
      clear hle hmut hmut2 hgb
      have hd9 : SlAt H (some ⟨b9, 0, none⟩) (donCells ⟨x, doesR l x, 0, 5⟩) := SlAt.of_row hb9
      (refine S_nil ?_; refine CW_seq ?_; refine CW_seq ?_; refine CW_region rfl ?_; refine S_op ?_; refine W_loadWhole (by first | rfl | assumption) (by assumption) (by rfl) (by assumption) ?_; refine S_op ?_; refine W_loadWhole (by first | rfl | assumption) (by assumption) (by rfl) (by assumption) ?_)
      refine S_op ?_
      refine W_buildSlice (sz := 4) (cs := (repCells (doesR l (getC x)) ++ repCells (doesR (doesL l x) (getC x))).toArray) hS (by omega) (fill_reps _ _ _ (by simp)) ?_
      intro H w b12 hG' hb12 _ _
      replace hG := hG.trans hG'
      replace hS := hG'.sub
      replace hl := hl.mono hG'.le
      replace hd9 := hd9.mono hG'.le
      replace ga := hG'.le _ _ ga
      clear hG' hx wa ba fa hb9
      (refine S_op ?_; refine W_len (by first | rfl | assumption) ?_; refine S_op ?_; refine W_moveInt (by first | rfl | assumption) ?_; refine S_nil ?_; refine CW_block ?_)
      refine CW_loopM [6, 18, 19, 20, 91, 92, 93, 94, 95, 96, 97, 98, 99, 100, 101, 102, 103, 104, 105, 106, 107, 108, 109, 110, 111, 112, 113]
        (fun m u w2 => ∃ (i : Nat) (H2 : HF), u 91 = .int .i64 (i : Int) ∧ Grow H0 w0 H2 w2 ∧ HLe H H2 ∧ i ≤ 2 ∧ 2 - i ≤ m)
        (m := 2) ⟨0, H, rfl, hG, HLe.refl _, by omega, by omega⟩ ?_
      clear hG hS
      rintro m u w ⟨i, H, h91, hG, hle, hi, hm⟩
      have hS := hG.sub
      have hle0 := hle
      replace hl := hl.mono hle
      replace hd9 := hd9.mono hle
      replace ga := hle _ _ ga
      replace hb12 := hle _ _ hb12
      clear hle
      by_cases hlt : i < 2
      · obtain ⟨s, hs, hrow⟩ : ∃ s : Rep4, (s = doesR l (getC x) ∨ s = doesR (doesL l x) (getC x)) ∧ ∀ j v, (repCells s)[j]? = some v → (repCells (doesR l (getC x)) ++ repCells (doesR (doesL l x) (getC x)))[i * 4 + j]? = some v := by
          rcases Nat.lt_or_ge i 1 with h1 | h1
          · refine ⟨_, .inl rfl, fun j v hj => ?_⟩
            rw [show i * 4 + j = j by omega, List.getElem?_append_left (by exact (List.getElem?_eq_some_iff.1 hj).1)]; exact hj
          · refine ⟨_, .inr rfl, fun j v hj => ?_⟩
            have hj4 : j < 4 := (List.getElem?_eq_some_iff.1 hj).1
            rw [List.getElem?_append_right (by simp [repCells]; omega), show i * 4 + j - (repCells (doesR l (getC x))).length = j by simp [repCells]; omega]; exact hj
        (refine CW_seq ?_; refine CW_region rfl ?_; refine S_op ?_; refine W_lssT (by first | rfl | assumption) (by first | rfl | assumption) (by first | omega | rfl) ?_; refine S_nil ?_; refine CW_seq ?_; refine CW_true (by first | rfl | assumption) ?_; refine CW_skip ?_; refine CW_seq ?_; refine CW_block ?_; refine CW_seq ?_; refine CW_region rfl ?_; refine S_op ?_; refine W_index (by first | rfl | assumption) (by first | rfl | assumption) (by first | assumption | omega | decide) (by first | rfl | assumption) ?_)
        refine S_op ?_
        refine row_agg (k := i * 4) (us := repCells s) (by rfl) ⟨_, _, _, hb12, fun j v hj => by simpa using hj⟩ rfl hrow hS ?_
        skip
        (refine S_op (W_alloc hS ?_)); intro w sab hG' sah sa; replace sah := Nat.le_trans hG.below.size (Nat.le_of_eq sah); replace hG := hG.trans hG'; replace hS := hG'.sub; clear hG'
        skip
        (refine S_op0 (W_storeM (o := 0) (vs := repCells s) (by rfl) (by rfl) sa (by rfl) (OneCells.of_all (by rfl)) (by rfl) (Nat.le_of_ble_eq_true (by rfl)) ?_)); intro w hgb' hm'; replace hG := hG.grownBy hgb' (fun g h => by cases h; exact ⟨sa.out, sah⟩); replace hS := hG.sub; replace sa : Mut _ w sab (repCells s) := hm'; clear hm'; skip
        clear hgb'
        obtain ⟨H, _, hle', hG, hm', _⟩ := sa.freeze hG sah
        replace hS := hG.sub
        replace hl := hl.mono hle'
        replace hd9 := hd9.mono hle'
        replace ga := hle' _ _ ga
        replace hle0 := hle0.trans hle'
        clear sa hle'
        (refine S_nil ?_; refine CW_seq ?_)
        apply CW_region_grow [_, _, _, _, _, _, _, _, _, _, _, _, _, _] [none, none, none, none, none, none, none, none, none, none, none, none, none, none] [some 96, some 97, some 98, some 99, some 100, some 101, some 102, some 103, some 104, some 95, some 105, some 106, some 19, some 20] [96, 97, 98, 99, 100, 101, 102, 103, 104, 95, 105, 106, 19, 20] mixed rfl rfl rfl rfl (by decide) rfl (by assumption)
        · ((apply steps_cons; case h1 => (apply A_pure; intro c u H' w' hG; have hS' := hG.sub; have hS2' := hG.subOld; (repeat (first | refine depGo_eq rfl rfl rfl ?_ | (refine depGo_fact rfl rfl rfl ?_; intro v hv) | refine depGo_skip rfl ?_ | refine depGo_none rfl ?_)); apply Pure1.mk; intro K hk; exact W_moveSl (by first | rfl | assumption) hk)); (apply steps_cons; case h1 => (apply A_pure; intro c u H' w' hG; have hS' := hG.sub; have hS2' := hG.subOld; (repeat (first | refine depGo_eq rfl rfl rfl ?_ | (refine depGo_fact rfl rfl rfl ?_; intro v hv) | refine depGo_skip rfl ?_ | refine depGo_none rfl ?_)); apply Pure1.mk; intro K hk; exact W_moveSl (by first | rfl | assumption) hk)))
          apply steps_cons; case h1 => (apply A_pure; intro c u H' w' hG'; (repeat (first | refine depGo_eq rfl rfl rfl ?_ | (refine depGo_fact rfl rfl rfl ?_; intro v hv) | refine depGo_skip rfl ?_ | refine depGo_none rfl ?_)); refine depGo_nil ?_; apply Pure1.mk; intro K hk; exact W_slice3 (h := 1) (m := 1) (by rfl) (by rfl) (by rfl) (by omega) (by omega) hk)
          ((apply steps_cons; case h1 => (apply A_pure; intro c u H' w' hG; have hS' := hG.sub; have hS2' := hG.subOld; (repeat (first | refine depGo_eq rfl rfl rfl ?_ | (refine depGo_fact rfl rfl rfl ?_; intro v hv) | refine depGo_skip rfl ?_ | refine depGo_none rfl ?_)); apply Pure1.mk; intro K hk; exact W_loadWhole (by first | rfl | assumption) (by assumption) (by rfl) (by assumption) hk)); (apply steps_cons; case h1 => (apply A_pure; intro c u H' w' hG; have hS' := hG.sub; have hS2' := hG.subOld; (repeat (first | refine depGo_eq rfl rfl rfl ?_ | (refine depGo_fact rfl rfl rfl ?_; intro v hv) | refine depGo_skip rfl ?_ | refine depGo_none rfl ?_)); apply Pure1.mk; intro K hk; exact W_loadWhole (by first | rfl | assumption) (by assumption) (by rfl) (by assumption) hk)))
          apply steps_cons; case h1 => (apply A_pure; intro c u H' w' hG'; (repeat (first | refine depGo_eq rfl rfl rfl ?_ | (refine depGo_fact rfl rfl rfl ?_; intro v hv) | refine depGo_skip rfl ?_ | refine depGo_none rfl ?_)); refine depGo_nil ?_; apply Pure1.mk; intro K hk; exact W_build (cs := donCells ⟨getC x, s, 1, 2⟩) (fill_don4 (getC x) s 1 2) hk)
          apply steps_cons
          · refine A_fact (φ := fun v H => ∃ b, v = .slice (some ⟨b, 0, none⟩) 1 1 ∧ SlAt H (some ⟨b, 0, none⟩) (donCells ⟨getC x, s, 1, 2⟩)) ?_
            intro c' u H' w' hG'
            have hS' := hG'.sub
            (repeat (first | refine depGo_eq rfl rfl rfl ?_ | (refine depGo_fact rfl rfl rfl ?_; intro v hv) | refine depGo_skip rfl ?_ | refine depGo_none rfl ?_))
            refine depGo_nil ?_
            refine W_build1 (sz := 9) (v := .agg (donCells ⟨getC x, s, 1, 2⟩).toArray) hS' (by omega) (by rfl) (by rfl) ?_
            intro H3 w3 b hG3 hb3 _ _
            exact ⟨H3, hG3.le, hG'.trans hG3, fun H'' hle => ⟨b, rfl, SlAt.of_row (hle _ _ hb3)⟩⟩
          apply steps_cons
          · refine A_fact (φ := fun v H => ∃ A c, v = .slice A 2 c ∧ 2 ≤ c ∧ DonsAt H A [⟨x, doesR l x, 0, 5⟩, ⟨getC x, s, 1, 2⟩]) ?_
            intro c' u H' w' hG'
            have hS' := hG'.sub
            (repeat (first | refine depGo_eq rfl rfl rfl ?_ | (refine depGo_fact rfl rfl rfl ?_; intro v hv) | refine depGo_skip rfl ?_ | refine depGo_none rfl ?_))
            obtain ⟨b2, rfl, hb2⟩ := hv
            refine depGo_nil ?_
            refine W_append_new (xs := donCells ⟨x, doesR l x, 0, 5⟩) (news := donCells ⟨getC x, s, 1, 2⟩) (m := 1) (by rfl) (by rfl) hG' (by simp) ((hd9.mono hG'.le).cells hS') (by rfl) (hb2.cells hS') (by rfl) (OneCells.of_all (by rfl)) (by omega) (by omega) (by decide) (by omega) (by omega) ?_
            intro A' c' w3 hg3 hg4 ho3 _
            have hc3 := ho3.cap
            obtain ⟨H4, hle4, hG4, hsl4, _⟩ := ho3.freeze hg3
            exact ⟨H4, hle4, hG4, fun H'' hle => ⟨A', c', rfl, hc3, SlAt.mono hsl4 hle⟩⟩
          apply steps_cons
          · refine A_fact (φ := fun v _ => v = .tuple #[.bool true, .int .i64 0]) ?_
            intro c' u H' w' hG'
            have hS' := hG'.sub
            (repeat (first | refine depGo_eq rfl rfl rfl ?_ | (refine depGo_fact rfl rfl rfl ?_; intro v hv) | refine depGo_skip rfl ?_ | refine depGo_none rfl ?_))
            obtain ⟨A5, c5, rfl, hc5, hd5⟩ := hv
            refine depGo_nil ?_
            refine W_call hS' (by rfl) (linear_c H' A A5 c c5 l [⟨x, doesR l x, 0, 5⟩, ⟨getC x, s, 1, 2⟩] 2 rfl (hl.mono hG'.le) hc (by omega) hd5 hc5) ?_
            rintro v H3 w3 hG3 (⟨p7, _⟩ | ⟨_, u2, rfl, ⟨rfl, _⟩ | ⟨_, hN⟩⟩)
            · omega
            · exact ⟨H3, hG3.le, hG'.trans hG3, fun H'' hle => rfl⟩
            · exact absurd (lin_seen x hs) hN
          ((apply steps_cons; case h1 => (apply A_pure; intro c u H' w' hG; have hS' := hG.sub; have hS2' := hG.subOld; (repeat (first | refine depGo_eq rfl rfl rfl ?_ | (refine depGo_fact rfl rfl rfl ?_; intro v hv) | refine depGo_skip rfl ?_ | refine depGo_none rfl ?_)); apply Pure1.mk; intro K hk; exact W_moveTup (by first | rfl | assumption) hk)); (apply steps_cons; case h1 => (apply A_pure; intro c u H' w' hG; have hS' := hG.sub; have hS2' := hG.subOld; (repeat (first | refine depGo_eq rfl rfl rfl ?_ | (refine depGo_fact rfl rfl rfl ?_; intro v hv) | refine depGo_skip rfl ?_ | refine depGo_none rfl ?_)); apply Pure1.mk; intro K hk; exact W_extract (by first | rfl | assumption) (by rfl) hk)); (apply steps_cons; case h1 => (apply A_pure; intro c u H' w' hG; have hS' := hG.sub; have hS2' := hG.subOld; (repeat (first | refine depGo_eq rfl rfl rfl ?_ | (refine depGo_fact rfl rfl rfl ?_; intro v hv) | refine depGo_skip rfl ?_ | refine depGo_none rfl ?_)); apply Pure1.mk; intro K hk; exact W_extract (by first | rfl | assumption) (by rfl) hk)); (apply steps_cons; case h1 => (apply A_pure; intro c u H' w' hG; have hS' := hG.sub; have hS2' := hG.subOld; (repeat (first | refine depGo_eq rfl rfl rfl ?_ | (refine depGo_fact rfl rfl rfl ?_; intro v hv) | refine depGo_skip rfl ?_ | refine depGo_none rfl ?_)); apply Pure1.mk; intro K hk; exact W_assignBool (by first | rfl | assumption) hk)); (apply steps_cons; case h1 => (apply A_pure; intro c u H' w' hG; have hS' := hG.sub; have hS2' := hG.subOld; (repeat (first | refine depGo_eq rfl rfl rfl ?_ | (refine depGo_fact rfl rfl rfl ?_; intro v hv) | refine depGo_skip rfl ?_ | refine depGo_none rfl ?_)); apply Pure1.mk; intro K hk; exact W_assignInt (by first | rfl | assumption) hk)); exact trivial)
        · intro H' w' hG'
          (repeat (first | refine fin_eq rfl rfl ?_ | (refine fin_fact rfl ?_; intro v hv) | refine fin_none rfl ?_)); refine fin_nil ?_
          (refine CW_seq ?_; refine CW_region rfl ?_; refine S_op ?_; refine W_moveBool (by first | rfl | assumption) ?_; refine S_op ?_; refine W_not (by first | rfl | assumption) ?_; refine S_op ?_; refine W_moveBool (by first | rfl | assumption) ?_; refine S_want (by rfl) ?_; refine W_moveInt (by first | rfl | assumption) ?_; refine S_want (by rfl) ?_; refine W_neqF (by first | rfl | assumption) (by first | rfl | assumption) (by first | omega | rfl) ?_; refine S_op ?_; refine W_pickF (by first | rfl | assumption) (by first | rfl | assumption) ?_; refine S_nil ?_; refine CW_false (by first | rfl | assumption) ?_; refine CW_skip ?_; refine CW_region rfl ?_; refine S_op ?_; refine W_add1 (by first | rfl | assumption) (by omega) ?_; refine S_op ?_; refine W_moveInt (by first | rfl | assumption) ?_; refine S_nil ?_)
          exact ⟨(by repeat (first | exact AgreeOff.over | refine AgreeOff.upd rfl ?_ | refine AgreeOff.over2 rfl ?_)), m - 1, by omega, i + 1, H', rfl, hG.trans hG', hle0.trans hG'.le, by omega, by omega⟩
      · have hin : i = 2 := by omega
        subst hin
        (refine CW_seq ?_; refine CW_region rfl ?_; refine S_op ?_; refine W_lssF (by first | rfl | assumption) (by first | rfl | assumption) (by first | omega | rfl) ?_; refine S_nil ?_; refine CW_seq ?_; refine CW_false (by first | rfl | assumption) ?_; refine CW_exit ?_; refine CW_seq ?_; refine CW_region rfl ?_; refine S_op ?_; refine W_assignBool (by first | rfl | assumption) ?_; refine S_nil ?_; refine CW_ret ?_)
        exact ⟨_, ResW_one (v := .bool _) rfl, H, hG, rfl⟩
end Go.Proofs.Ytcbboghjocoiiaa
