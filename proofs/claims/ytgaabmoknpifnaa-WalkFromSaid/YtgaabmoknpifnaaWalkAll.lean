/- WalkAll, walked. Conditions: sizes. -/
import Derived.Test.YtgaabmoknpifnaaGather
import Derived.Test.YtgaabmoknpifnaaSame
namespace Go.Proofs.Ytgaabmoknpifnaa
open Go.Proofs Go.RowKit
set_option linter.unusedVariables false
attribute [local irreducible] CW CWD SeqW OpW CallV
set_option maxHeartbeats 4000000
theorem ent_rev {l : List Ent} {i : Nat} (h : i < l.length) : l.reverse.take (i + 1) = l.reverse.take i ++ [ent l (l.length - 1 - i)] := by
  rw [take_succ' (by simpa using h)]
  congr 1
  simp [ent, show l.length - 1 - i < l.length by omega]
theorem rBack_c (H0 : HF) (A : Option Addr) (c : Nat) (l : List Ent) (hl : EntsAt H0 A l) (hb : l.length ≤ 1000000) :
    Fn Try.prog 28 [.slice A l.length c] H0 fun v H' => IsEnts v l.reverse H' := by
  refine Fn_of_CW Try.func28 rfl Try.ntmps28 Try.results28 rfl fun w0 hS => ?_; have hG := Grow.refl hS
  (refine CW_seq ?_; refine CW_region rfl ?_; refine S_op ?_; refine W_assignSl (by first | rfl | assumption) ?_; refine S_nil ?_; refine CW_seq ?_; refine CW_region rfl ?_; refine S_op ?_; refine W_assignSl (by first | rfl | assumption) ?_; refine S_nil ?_; refine CW_seq ?_; refine CW_seq ?_; refine CW_region rfl ?_; refine S_op ?_; refine W_moveSl (by first | rfl | assumption) ?_; refine S_op ?_; refine W_len (by first | rfl | assumption) ?_; refine S_op ?_; refine W_moveInt (by first | rfl | assumption) ?_; refine S_nil ?_; refine CW_block ?_)
  refine CW_loopM [3, 4, 7, 8, 9, 10, 11, 12, 13, 14, 15, 16, 17, 18, 19, 20, 21]
    (fun m u w2 => ∃ (i : Nat) (A2 : Option Addr) (c2 : Nat) (H2 : HF), u 7 = .int .i64 (i : Int) ∧ u 3 = .slice A2 i c2 ∧ Grow H0 w0 H2 w2 ∧ Own H2 w2 w0.heap.size 32 2 A2 i c2 (entCells (l.reverse.take i)) ∧ i ≤ l.length ∧ l.length - i ≤ m)
    (m := l.length) ⟨0, none, 0, H0, rfl, rfl, hG, Own.nil _ _ _ _ _, by omega, by omega⟩ ?_
  rintro m u w ⟨i, A2, c2, H, h7, h3, hG, hown, hi, hm⟩
  have hS := hG.sub
  replace hl := hl.mono hG.le
  by_cases hlt : i < l.length
  · have hq : l.length - 1 - i < l.length := by omega
    obtain ⟨b, off, hA, hrow⟩ := hl.some hq
    have e := ent_rev hlt
    (refine CW_seq ?_; refine CW_region rfl ?_; refine S_op ?_; refine W_lssT (by first | rfl | assumption) (by first | rfl | assumption) (by first | omega | rfl) ?_; refine S_nil ?_; refine CW_seq ?_; refine CW_true (by first | rfl | assumption) ?_; refine CW_skip ?_; refine CW_seq ?_; refine CW_block ?_; refine CW_seq ?_; refine CW_region rfl ?_; refine S_op ?_; refine W_moveInt (by first | rfl | assumption) ?_; refine S_op ?_; refine W_assignInt (by first | rfl | assumption) ?_; refine S_nil ?_; refine CW_region rfl ?_; refine S_op ?_; refine W_moveSl (by first | rfl | assumption) ?_; refine S_op ?_; refine W_moveSl (by first | rfl | assumption) ?_; refine S_op ?_; refine W_moveSl (by first | rfl | assumption) ?_; refine S_op ?_; refine W_len (by first | rfl | assumption) ?_; refine S_op ?_; refine W_sub1 (by first | rfl | assumption) (by omega) (by omega) ?_; refine S_op ?_; refine W_moveInt (by first | rfl | assumption) ?_; refine S_op ?_; refine W_subN (by first | rfl | assumption) (by first | rfl | assumption) (by omega) (by omega) ?_; refine S_op ?_; refine W_index (by first | rfl | assumption) (by first | rfl | assumption) (by first | assumption | omega | decide) (by first | rfl | assumption) ?_; refine S_op ?_; refine W_loadEnt (by first | rfl | assumption) (by assumption) (by first | assumption | omega) (by assumption) ?_)
    refine S_op ?_
    refine W_build1 (sz := 2) (v := .agg #[.string (ent l (l.length - 1 - i)).key, .string (ent l (l.length - 1 - i)).val]) hS (by omega) (by rfl) (by rfl) ?_
    intro H w b hG' hb' _ _
    replace hG := hG.trans hG'
    replace hS := hG'.sub
    replace hl := hl.mono hG'.le
    replace hown := hown.grow hG'
    clear hG'
    refine S_op ?_
    refine W_append (news := entCells [ent l (l.length - 1 - i)]) (by rfl) (by rfl) hG hown ((SlAt.of_row hb').cells hS) (by rfl) (entCells_one _) (by decide) (by omega) (by omega) ?_
    intro A2 c2 w hG hown _ hA3
    clear hA3
    rw [← entCells_append] at hown
    replace hS := hG.sub
    rw [← e] at hown
    (refine S_op ?_; refine W_assignSl (by first | rfl | assumption) ?_; refine S_nil ?_; refine CW_region rfl ?_; refine S_op ?_; refine W_add1 (by first | rfl | assumption) (by omega) ?_; refine S_op ?_; refine W_moveInt (by first | rfl | assumption) ?_; refine S_nil ?_)
    exact ⟨(by repeat (first | exact AgreeOff.over | refine AgreeOff.upd rfl ?_ | refine AgreeOff.over2 rfl ?_)), m - 1, by omega, i + 1, A2, c2, H, rfl, rfl, hG, hown, by omega, by omega⟩
  · have hin : i = l.length := by omega
    subst hin
    rw [List.take_of_length_le (by simp)] at hown
    (refine CW_seq ?_; refine CW_region rfl ?_; refine S_op ?_; refine W_lssF (by first | rfl | assumption) (by first | rfl | assumption) (by first | omega | rfl) ?_; refine S_nil ?_; refine CW_seq ?_; refine CW_false (by first | rfl | assumption) ?_; refine CW_exit ?_; refine CW_seq ?_; refine CW_region rfl ?_; refine S_op ?_; refine W_moveSl (by first | rfl | assumption) ?_; refine S_op ?_; refine W_assignSl (by first | rfl | assumption) ?_; refine S_nil ?_; refine CW_ret ?_)
    obtain ⟨H3, hle3, hG3, hsl3, _⟩ := hown.freeze hG
    exact ⟨_, ResW_one (v := .slice _ _ _) rfl, H3, hG3, A2, c2, by simp, by simpa using hown.cap, hsl3⟩
/- gath(variable ;; others behind a call ;; others behind the append ;; others behind the store): the round's three operations -/
theorem walkAll_c (H : HF) (A : Option Addr) (c : Nat) (l : List Ent) (n : Int) (hl : EntsAt H A l) (hb : l.length ≤ 100000000000000) (hs : ∀ e ∈ l, e.key.size ≤ 150000000000000 ∧ e.val.size ≤ 150000000000000) :
    Fn Try.prog 7 [.slice A l.length c, .int .i64 n] H fun v _ => v = .bool true := by
  obtain ⟨H0, rfl⟩ : ∃ H0, H0 = H := ⟨_, rfl⟩
  refine Fn_of_CWD Try.func7 rfl Try.ntmps7 Try.results7 rfl fun w0 hS => ?_; have hS0 := hS; have hG := Grow.refl hS
  (refine CWD_seq ?_; refine CWD_region rfl ?_)
  (refine S_op (W_box1 hS (by rfl) (by first | rfl | assumption) ?_)); intro H w _ hG' h3; replace hG := hG.trans hG'; replace hS := hG'.sub; replace hl := hl.mono hG'.le; clear hG'
  (refine S_op ?_; refine W_assignBool (by first | rfl | assumption) ?_; refine S_nil ?_; refine CWD_seq ?_; refine CWD_seq ?_; refine CWD_region rfl ?_)
  (refine S_op ?_; refine W_call hS (by rfl) (awake11_c _) ?_); rintro v H w hG' rfl; replace hG := hG.trans hG'; replace hS := hG'.sub; replace hl := hl.mono hG'.le; replace h3 := hG'.le _ _ h3; clear hG'
  (refine S_op ?_; refine W_not (by first | rfl | assumption) ?_; refine S_nil ?_; refine CWD_false (by first | rfl | assumption) ?_; refine CWD_skip ?_; refine CWD_seq ?_; refine CWD_region rfl ?_; refine S_op ?_; refine W_moveSl (by first | rfl | assumption) ?_)
  (refine S_op ?_; refine W_call hS (by rfl) (built11_c _ A c l hl hb hs) ?_); rintro v H w hG' ⟨t, s, z, rfl, hz, hz0⟩; replace hG := hG.trans hG'; replace hS := hG'.sub; replace hl := hl.mono hG'.le; replace h3 := hG'.le _ _ h3; clear hG'
  cases z with
  | false =>
    obtain ⟨rfl, rfl⟩ := hz0 rfl
    (refine S_op ?_; refine W_moveTup (by first | rfl | assumption) ?_; refine S_op ?_; refine W_extract (by first | rfl | assumption) (by rfl) ?_; refine S_op ?_; refine W_extract (by first | rfl | assumption) (by rfl) ?_; refine S_op ?_; refine W_extract (by first | rfl | assumption) (by rfl) ?_; refine S_op ?_; refine W_assignPtr (by first | rfl | assumption) ?_; refine S_op ?_; refine W_assignSl (by first | rfl | assumption) ?_; refine S_op ?_; refine W_assignBool (by first | rfl | assumption) ?_; refine S_nil ?_; refine CWD_seq ?_; refine CWD_seq ?_; refine CWD_region rfl ?_; refine S_op ?_; refine W_moveBool (by first | rfl | assumption) ?_; refine S_op ?_; refine W_not (by first | rfl | assumption) ?_; refine S_op ?_; refine W_moveBool (by first | rfl | assumption) ?_; refine S_pass (by rfl) ?_; refine S_pass (by rfl) ?_; refine S_op ?_; refine W_pickT (by first | rfl | assumption) (by first | rfl | assumption) ?_; refine S_nil ?_; refine CWD_true (by first | rfl | assumption) ?_; refine CWD_seq ?_; refine CWD_region rfl ?_; refine S_op ?_; refine W_assignBool (by first | rfl | assumption) ?_; refine S_nil ?_; refine CWD_ret ?_)
    exact FinD_nil ⟨_, ResW_one (v := .bool _) rfl, H, hG, rfl⟩
  | true =>
    obtain ⟨ht, ⟨A2, c2, rfl, hc2, hl2⟩, h150⟩ := hz rfl
    clear hz hz0 hl
    by_cases hn : n < 1
    · (refine S_op ?_; refine W_moveTup (by first | rfl | assumption) ?_; refine S_op ?_; refine W_extract (by first | rfl | assumption) (by rfl) ?_; refine S_op ?_; refine W_extract (by first | rfl | assumption) (by rfl) ?_; refine S_op ?_; refine W_extract (by first | rfl | assumption) (by rfl) ?_; refine S_op ?_; refine W_assignPtr (by first | rfl | assumption) ?_; refine S_op ?_; refine W_assignSl (by first | rfl | assumption) ?_; refine S_op ?_; refine W_assignBool (by first | rfl | assumption) ?_; refine S_nil ?_; refine CWD_seq ?_; refine CWD_seq ?_; refine CWD_region rfl ?_; refine S_op ?_; refine W_moveBool (by first | rfl | assumption) ?_; refine S_op ?_; refine W_not (by first | rfl | assumption) ?_; refine S_op ?_; refine W_moveBool (by first | rfl | assumption) ?_; refine S_want (by rfl) ?_; refine W_loadHL (by first | rfl | assumption) (by assumption) (by rfl) (by assumption) ?_; refine S_want (by rfl) ?_; refine W_lssT (by first | rfl | assumption) (by first | rfl | assumption) (by first | omega | rfl) ?_; refine S_op ?_; refine W_pickF (by first | rfl | assumption) (by first | rfl | assumption) ?_; refine S_nil ?_; refine CWD_true (by first | rfl | assumption) ?_; refine CWD_seq ?_; refine CWD_region rfl ?_; refine S_op ?_; refine W_assignBool (by first | rfl | assumption) ?_; refine S_nil ?_; refine CWD_ret ?_)
      exact FinD_nil ⟨_, ResW_one (v := .bool _) rfl, H, hG, rfl⟩
    (refine S_op ?_; refine W_moveTup (by first | rfl | assumption) ?_; refine S_op ?_; refine W_extract (by first | rfl | assumption) (by rfl) ?_; refine S_op ?_; refine W_extract (by first | rfl | assumption) (by rfl) ?_; refine S_op ?_; refine W_extract (by first | rfl | assumption) (by rfl) ?_; refine S_op ?_; refine W_assignPtr (by first | rfl | assumption) ?_; refine S_op ?_; refine W_assignSl (by first | rfl | assumption) ?_; refine S_op ?_; refine W_assignBool (by first | rfl | assumption) ?_; refine S_nil ?_; refine CWD_seq ?_; refine CWD_seq ?_; refine CWD_region rfl ?_; refine S_op ?_; refine W_moveBool (by first | rfl | assumption) ?_; refine S_op ?_; refine W_not (by first | rfl | assumption) ?_; refine S_op ?_; refine W_moveBool (by first | rfl | assumption) ?_; refine S_want (by rfl) ?_; refine W_loadHL (by first | rfl | assumption) (by assumption) (by rfl) (by assumption) ?_; refine S_want (by rfl) ?_; refine W_lssF (by first | rfl | assumption) (by first | rfl | assumption) (by first | omega | rfl) ?_; refine S_op ?_; refine W_pickF (by first | rfl | assumption) (by first | rfl | assumption) ?_; refine S_nil ?_; refine CWD_false (by first | rfl | assumption) ?_; refine CWD_skip ?_; refine CWD_seq ?_; refine CWD_region rfl ?_)
    (refine S_op (W_alloc hS ?_)); intro w c8b hG' c8h c8; replace c8h := Nat.le_trans hG.below.size (Nat.le_of_eq c8h); replace hG := hG.trans hG'; replace hS := hG'.sub; clear hG'
    skip
    (refine S_op (W_alloc hS ?_)); intro w c9b hG' c9h c9; have n_c8_c9 : c8b ≠ c9b := (by have h1 := c8.lt; omega); replace c9h := Nat.le_trans hG.below.size (Nat.le_of_eq c9h); replace hG := hG.trans hG'; replace hS := hG'.sub; replace c8 := c8.grow hG'; clear hG'
    (refine S_nil ?_; refine CWD_seq ?_; refine CWD_seq ?_; refine CWD_region rfl ?_; refine S_op ?_; refine W_movePtr (by first | rfl | assumption) ?_)
    (refine S_op ?_; refine W_call hS (by rfl) (all_c H t ht.at_) ?_); rintro v H w hG' hv; replace hG := hG.trans hG'; replace hS := hG'.sub; replace ht := ht.mono hG'.le; replace hl2 := hl2.mono hG'.le; replace h3 := hG'.le _ _ h3; replace c8 := c8.grow hG'; replace c9 := c9.grow hG'; clear hG'
    obtain ⟨gf, lb, hfc, rfl, hit⟩ := hv
    (refine S_nil ?_; refine CWD_block ?_)
    refine CWD_rangeExit (S := fun _ => False) (Gath H0 w0 H 32 c8b [c9b] n False (fun H2 w2 => Mut H2 w2 c9b [.slice none 0 0])) (Gath H0 w0 H 32 c8b [c9b] n True (fun H2 w2 => Mut H2 w2 c9b [.slice none 0 0]))
      (Gath.good ?_) (Gath.good ?_).stable ⟨hG, fun _ h => h.elim, ?_, none, 0, 0, Own.nil _ _ _ _ _, (fun _ h => by cases h), HLe.refl _, c8, rfl, (fun _ h => by cases h), by simp; omega, by simp; omega, c9⟩ rfl hS (fun _ => rfl) (by decide) (fun w1 _ => hit H w1 (HLe.refl _)) (fun _ h => h.elim) ?_ ?_
    · exact fun S _ H w H' w' hs hT h => h.turn hT (hs _ (by simp))
    · exact fun S _ H w H' w' hs hT h => h.turn hT (hs _ (by simp))
    · intro b hb
      simp at hb
      rcases hb with rfl | rfl
      · exact ⟨fun h => h, c8.lt⟩
      · exact ⟨fun h => h, c9.lt⟩
    · intro l x W
      (refine CW_seq ?_; refine CW_region rfl ?_; refine S_op ?_; refine W_assignStr (by first | rfl | assumption) ?_; refine S_nil ?_; refine CW_region rfl ?_; refine S_op ?_; refine W_assignStr (by first | rfl | assumption) ?_; refine S_nil ?_)
      refine ⟨rfl, ?_⟩
      clear c8 c9 hG hS
      rintro l X pre rest H W hx hS ⟨hGw, hXs, hbs, A, m, c, hown, hXA, hle, c8, rfl, hA8, hpm, hpf, c9⟩ _
      obtain ⟨bs, hbsd⟩ : ∃ bs, bs = [c8b, c9b] := ⟨_, rfl⟩
      rw [← hbsd] at hbs hA8
      skip
      replace h3 := hle _ _ h3
      have hpl : pre.length < 1000000 := by have := congrArg List.length hx; simp at this; omega
      have hpn : (pre.length : Int) < n := by
        rcases Int.lt_or_eq_of_le hpm with h | h
        · exact h
        · exact (hpf.1 h).elim
      have hG := hGw
      have hrow : ∀ b' ∈ bs, (Value.slice A pre.length c).ownBlock ≠ some b' := by
        intro b' hb' e
        cases A with
        | none => simp [Value.ownBlock] at e
        | some a => simp [Value.ownBlock] at e; exact hA8 a rfl (by rw [e]; exact hb')
      (refine CW_block ?_; refine CW_seq ?_; refine CW_region rfl ?_; refine S_op ?_; refine W_loadM (by first | rfl | assumption) (by assumption) (by rfl) ?_; refine S_op ?_; refine W_moveStr (by first | rfl | assumption) ?_; refine S_op ?_; refine W_moveStr (by first | rfl | assumption) ?_; refine S_op ?_; refine W_build (by rfl) ?_)
      refine S_op ?_
      refine W_build1 (sz := 2) (v := .agg #[.string x.key, .string x.val]) hS (by omega) (by rfl) (by rfl) ?_
      intro H2 w2 b hG' hb' _ _
      have hT := hG'.turn (S := notIn X)
      have hsz2 := hG'.below.size
      replace hG := hG.trans hG'
      replace hS := hG'.sub
      replace hown := hown.grow hG'
      replace hle := hle.trans hG'.le
      replace h3 := hG'.le _ _ h3
      replace c8 := c8.grow hG'
      replace c9 := c9.grow hG'
      clear hG'
      refine S_op ?_
      refine W_append (news := entCells [x]) (by rfl) (by rfl) hG hown ((SlAt.of_row hb').cells hS) (by rfl) (entCells_one _) (by decide) (by omega) (by omega) ?_
      intro A2 c2 w3 hG2 hown2 hgb hA2
      rw [← entCells_append] at hown2
      replace c8 := c8.other hgb (hrow _ (by simp [hbsd]))
      replace c9 := c9.other hgb (hrow _ (by simp [hbsd]))
      replace hT := hT.grownBy hgb (fun g h => by
        cases A with
        | none => simp [Value.ownBlock] at h
        | some a => simp [Value.ownBlock] at h; subst h; exact ⟨hown.out a rfl, .inr (hXA a rfl)⟩)
      have hn2 : ∀ a, A2 = some a → a.block ∉ bs := by
        intro a ha
        rcases hA2 with ⟨rfl, _⟩ | ⟨g, rfl, hg⟩
        · exact hA8 a ha
        · cases ha
          intro hin
          have := (hbs g hin).2
          omega
      have hX2 : ∀ a, A2 = some a → ¬ X a.block := by
        intro a ha h
        rcases hA2 with ⟨rfl, _⟩ | ⟨g, rfl, hg⟩
        · exact hXA a ha h
        · cases ha; have := (hXs g h).2; omega
      replace hG := hG2
      replace hS := hG2.sub
      skip
      (refine S_op0 (W_storeM (o := 0) (vs := [.slice A2 (pre.length + 1) c2]) (by rfl) (by rfl) c8 (by rfl) (OneCells.of_all (by rfl)) (by rfl) (Nat.le_of_ble_eq_true (by rfl)) ?_)); intro w hgb' hm'; replace hG := hG.grownBy hgb' (fun g h => by cases h; exact ⟨c8.out, c8h⟩); replace hS := hG.sub; replace c8 : Mut _ w c8b ([.slice A2 (pre.length + 1) c2]) := hm'; clear hm'; skip
      replace hT := hT.grownBy hgb' (fun g h => by cases h; exact ⟨c8.out, .inr (hbs _ (by simp [hbsd])).1⟩)
      replace hown2 := hown2.other hgb' (fun a ha e => hn2 a ha (by rw [Option.some.inj e]; simp [hbsd]))
      replace c9 := c9.other hgb' (by intro e2; cases e2; exact n_c8_c9 rfl)
      have hl1 : (pre ++ [x]).length = pre.length + 1 := by simp
      rw [← hl1] at hown2
      have hXs5 : ∀ j, X j → w0.heap.size ≤ j ∧ j < w.heap.size := fun j hj => ⟨(hXs j hj).1, Nat.lt_of_lt_of_le (hXs j hj).2 hT.size⟩
      have hbs5 : ∀ b ∈ bs, ¬ X b ∧ b < w.heap.size := fun b hb => ⟨(hbs b hb).1, Nat.lt_of_lt_of_le (hbs b hb).2 hT.size⟩
      rw [hbsd] at hbs5 hn2
      by_cases hend : ((pre.length + 1 : Nat) : Int) = n
      · (refine S_nil ?_; refine CW_seq ?_; refine CW_region rfl ?_; refine S_op ?_; refine W_loadM (by first | rfl | assumption) (by assumption) (by rfl) ?_; refine S_op ?_; refine W_len (by first | rfl | assumption) ?_; refine S_op ?_; refine W_loadHL (by first | rfl | assumption) (by assumption) (by rfl) (by assumption) ?_; refine S_op ?_; refine W_eqlT (by first | rfl | assumption) (by first | rfl | assumption) (by first | omega | rfl) ?_; refine S_nil ?_; refine CW_true (by first | rfl | assumption) ?_; refine CW_exit ?_; refine xblk_miss rfl ?_)
        exact ⟨H2, hT, rfl, hG, hXs5, hbs5, A2, _, c2, hown2, hX2, hle, by rw [hl1]; exact c8, rfl, hn2, by rw [hl1]; omega, ⟨fun _ => trivial, fun _ => by rw [hl1]; exact hend⟩, c9⟩
      · (refine S_nil ?_; refine CW_seq ?_; refine CW_region rfl ?_; refine S_op ?_; refine W_loadM (by first | rfl | assumption) (by assumption) (by rfl) ?_; refine S_op ?_; refine W_len (by first | rfl | assumption) ?_; refine S_op ?_; refine W_loadHL (by first | rfl | assumption) (by assumption) (by rfl) (by assumption) ?_; refine S_op ?_; refine W_eqlF (by first | rfl | assumption) (by first | rfl | assumption) (by first | omega | rfl) ?_; refine S_nil ?_; refine CW_false (by first | rfl | assumption) ?_; refine CW_skip ?_)
        exact ⟨H2, hT, hG, hXs5, hbs5, A2, _, c2, hown2, hX2, hle, by rw [hl1]; exact c8, rfl, hn2, by rw [hl1]; omega, ⟨fun h => hend (by rw [← hl1]; exact h), False.elim⟩, c9⟩
    · clear c8 c9 hG hS
      rintro D X H w hD hM hS hle' hXD hend
      obtain ⟨A1, c1, hG, hXw, hbX, hown, hle, c8, hA1, c9⟩ := Gath.end_ (by omega) hend
      have hDw := hXw D hXD
      obtain ⟨H1, hle1, hG1, hsl1, hoth⟩ := hown.freeze hG
      replace c8 : Mut H1 w c8b _ := ⟨(hoth c8b (fun a ha e => (hA1 a ha).1 (by rw [← e]; simp))).trans c8.out, c8.at_⟩
      replace c9 : Mut H1 w c9b _ := ⟨(hoth c9b (fun a ha e => (hA1 a ha).1 (by rw [← e]; simp))).trans c9.out, c9.at_⟩
      replace hM : MarkAt H1 w D := ⟨(hoth D (fun a ha e => (hA1 a ha).2 (by rw [← e]; exact hXD))).trans hM.out, hM.at_⟩
      replace hle := hle.trans hle1
      replace ht := ht.mono hle
      replace hl2 := hl2.mono hle
      replace h3 := hle _ _ h3
      replace hG := hG1
      replace hS := hG.sub
      have hcap := hown.cap
      have h8D := hM.ne c8
      have h9D := hM.ne c9
      clear hown hit hle hle' hle1 hoth hend hA1 hbX hG1
      (refine CWD_seq ?_; refine CWD_seq ?_; refine CWD_region rfl ?_; refine S_op ?_; refine W_movePtr (by first | rfl | assumption) ?_)
      (refine S_op ?_; refine W_call hS (by rfl) (back_c H1 t ht.at_) ?_); rintro v H w hG' hv; replace hG := hG.trans hG'; replace hS := hG'.sub; replace ht := ht.mono hG'.le; replace hl2 := hl2.mono hG'.le; replace hsl1 := hsl1.mono hG'.le; replace h3 := hG'.le _ _ h3; replace c8 := c8.grow hG'; replace c9 := c9.grow hG'; replace hM := hM.grow hG'; clear hG'
      obtain ⟨gf2, lb2, hfc2, rfl, hit2⟩ := hv
      (refine S_nil ?_; refine CWD_block ?_)
      refine CWD_rangeExit (S := fun _ => False) (Gath H0 w0 H 32 c9b [c8b, D] n False (fun H2 w2 => Mut H2 w2 c8b [.slice A1 (t.items.take n.toNat).length c1] ∧ MarkAt H2 w2 D)) (Gath H0 w0 H 32 c9b [c8b, D] n True (fun H2 w2 => Mut H2 w2 c8b [.slice A1 (t.items.take n.toNat).length c1] ∧ MarkAt H2 w2 D))
        (Gath.good ?_) (Gath.good ?_).stable ⟨hG, fun _ h => h.elim, ?_, none, 0, 0, Own.nil _ _ _ _ _, (fun _ h => by cases h), HLe.refl _, c9, rfl, (fun _ h => by cases h), by simp; omega, by simp; omega, c8, hM⟩ rfl hS (fun _ => rfl) (by decide) (fun w1 _ => hit2 H w1 (HLe.refl _)) (fun _ h => h.elim) ?_ ?_
      · exact fun S _ H w H' w' hs hT h => ⟨h.1.turn hT (hs _ (by simp)), h.2.turn hT (hs _ (by simp))⟩
      · exact fun S _ H w H' w' hs hT h => ⟨h.1.turn hT (hs _ (by simp)), h.2.turn hT (hs _ (by simp))⟩
      · intro b hb
        simp at hb
        rcases hb with rfl | rfl | rfl
        · exact ⟨fun h => h, c9.lt⟩
        · exact ⟨fun h => h, c8.lt⟩
        · exact ⟨fun h => h, hM.lt⟩
      · intro l x W
        (refine CW_seq ?_; refine CW_region rfl ?_; refine S_op ?_; refine W_assignStr (by first | rfl | assumption) ?_; refine S_nil ?_; refine CW_region rfl ?_; refine S_op ?_; refine W_assignStr (by first | rfl | assumption) ?_; refine S_nil ?_)
        refine ⟨rfl, ?_⟩
        clear c8 c9 hM hG hS
        rintro l X pre rest H W hx hS ⟨hGw, hXs, hbs, A, m, c, hown, hXA, hle, c9, rfl, hA8, hpm, hpf, c8, hM⟩ _
        obtain ⟨bs, hbsd⟩ : ∃ bs, bs = [c9b, c8b, D] := ⟨_, rfl⟩
        rw [← hbsd] at hbs hA8
        skip
        replace h3 := hle _ _ h3
        have hpl : pre.length < 1000000 := by have := congrArg List.length hx; simp at this; omega
        have hpn : (pre.length : Int) < n := by
          rcases Int.lt_or_eq_of_le hpm with h | h
          · exact h
          · exact (hpf.1 h).elim
        have hG := hGw
        have hrow : ∀ b' ∈ bs, (Value.slice A pre.length c).ownBlock ≠ some b' := by
          intro b' hb' e
          cases A with
          | none => simp [Value.ownBlock] at e
          | some a => simp [Value.ownBlock] at e; exact hA8 a rfl (by rw [e]; exact hb')
        (refine CW_block ?_; refine CW_seq ?_; refine CW_region rfl ?_; refine S_op ?_; refine W_loadM (by first | rfl | assumption) (by assumption) (by rfl) ?_; refine S_op ?_; refine W_moveStr (by first | rfl | assumption) ?_; refine S_op ?_; refine W_moveStr (by first | rfl | assumption) ?_; refine S_op ?_; refine W_build (by rfl) ?_)
        refine S_op ?_
        refine W_build1 (sz := 2) (v := .agg #[.string x.key, .string x.val]) hS (by omega) (by rfl) (by rfl) ?_
        intro H2 w2 b hG' hb' _ _
        have hT := hG'.turn (S := notIn X)
        have hsz2 := hG'.below.size
        replace hG := hG.trans hG'
        replace hS := hG'.sub
        replace hown := hown.grow hG'
        replace hle := hle.trans hG'.le
        replace h3 := hG'.le _ _ h3
        replace c9 := c9.grow hG'
        (replace c8 := c8.grow hG'; replace hM := hM.grow hG')
        clear hG'
        refine S_op ?_
        refine W_append (news := entCells [x]) (by rfl) (by rfl) hG hown ((SlAt.of_row hb').cells hS) (by rfl) (entCells_one _) (by decide) (by omega) (by omega) ?_
        intro A2 c2 w3 hG2 hown2 hgb hA2
        rw [← entCells_append] at hown2
        replace c9 := c9.other hgb (hrow _ (by simp [hbsd]))
        (replace c8 := c8.other hgb (hrow _ (by simp [hbsd])); replace hM := hM.other hgb (hrow _ (by simp [hbsd])))
        replace hT := hT.grownBy hgb (fun g h => by
          cases A with
          | none => simp [Value.ownBlock] at h
          | some a => simp [Value.ownBlock] at h; subst h; exact ⟨hown.out a rfl, .inr (hXA a rfl)⟩)
        have hn2 : ∀ a, A2 = some a → a.block ∉ bs := by
          intro a ha
          rcases hA2 with ⟨rfl, _⟩ | ⟨g, rfl, hg⟩
          · exact hA8 a ha
          · cases ha
            intro hin
            have := (hbs g hin).2
            omega
        have hX2 : ∀ a, A2 = some a → ¬ X a.block := by
          intro a ha h
          rcases hA2 with ⟨rfl, _⟩ | ⟨g, rfl, hg⟩
          · exact hXA a ha h
          · cases ha; have := (hXs g h).2; omega
        replace hG := hG2
        replace hS := hG2.sub
        skip
        (refine S_op0 (W_storeM (o := 0) (vs := [.slice A2 (pre.length + 1) c2]) (by rfl) (by rfl) c9 (by rfl) (OneCells.of_all (by rfl)) (by rfl) (Nat.le_of_ble_eq_true (by rfl)) ?_)); intro w hgb' hm'; replace hG := hG.grownBy hgb' (fun g h => by cases h; exact ⟨c9.out, c9h⟩); replace hS := hG.sub; replace c9 : Mut _ w c9b ([.slice A2 (pre.length + 1) c2]) := hm'; clear hm'; skip
        replace hT := hT.grownBy hgb' (fun g h => by cases h; exact ⟨c9.out, .inr (hbs _ (by simp [hbsd])).1⟩)
        replace hown2 := hown2.other hgb' (fun a ha e => hn2 a ha (by rw [Option.some.inj e]; simp [hbsd]))
        (replace c8 := c8.other hgb' (by intro e2; cases e2; exact n_c8_c9 rfl); replace hM := hM.other hgb' (fun e => h9D (Option.some.inj e)))
        have hl1 : (pre ++ [x]).length = pre.length + 1 := by simp
        rw [← hl1] at hown2
        have hXs5 : ∀ j, X j → w0.heap.size ≤ j ∧ j < w.heap.size := fun j hj => ⟨(hXs j hj).1, Nat.lt_of_lt_of_le (hXs j hj).2 hT.size⟩
        have hbs5 : ∀ b ∈ bs, ¬ X b ∧ b < w.heap.size := fun b hb => ⟨(hbs b hb).1, Nat.lt_of_lt_of_le (hbs b hb).2 hT.size⟩
        rw [hbsd] at hbs5 hn2
        by_cases hend : ((pre.length + 1 : Nat) : Int) = n
        · (refine S_nil ?_; refine CW_seq ?_; refine CW_region rfl ?_; refine S_op ?_; refine W_loadM (by first | rfl | assumption) (by assumption) (by rfl) ?_; refine S_op ?_; refine W_len (by first | rfl | assumption) ?_; refine S_op ?_; refine W_loadHL (by first | rfl | assumption) (by assumption) (by rfl) (by assumption) ?_; refine S_op ?_; refine W_eqlT (by first | rfl | assumption) (by first | rfl | assumption) (by first | omega | rfl) ?_; refine S_nil ?_; refine CW_true (by first | rfl | assumption) ?_; refine CW_exit ?_; refine xblk_miss rfl ?_)
          exact ⟨H2, hT, rfl, hG, hXs5, hbs5, A2, _, c2, hown2, hX2, hle, by rw [hl1]; exact c9, rfl, hn2, by rw [hl1]; omega, ⟨fun _ => trivial, fun _ => by rw [hl1]; exact hend⟩, c8, hM⟩
        · (refine S_nil ?_; refine CW_seq ?_; refine CW_region rfl ?_; refine S_op ?_; refine W_loadM (by first | rfl | assumption) (by assumption) (by rfl) ?_; refine S_op ?_; refine W_len (by first | rfl | assumption) ?_; refine S_op ?_; refine W_loadHL (by first | rfl | assumption) (by assumption) (by rfl) (by assumption) ?_; refine S_op ?_; refine W_eqlF (by first | rfl | assumption) (by first | rfl | assumption) (by first | omega | rfl) ?_; refine S_nil ?_; refine CW_false (by first | rfl | assumption) ?_; refine CW_skip ?_)
          exact ⟨H2, hT, hG, hXs5, hbs5, A2, _, c2, hown2, hX2, hle, by rw [hl1]; exact c9, rfl, hn2, by rw [hl1]; omega, ⟨fun h => hend (by rw [← hl1]; exact h), False.elim⟩, c8, hM⟩
      · clear c8 c9 hM hG hS
        rintro E X H w hE hN hS hle' hXE hend
        obtain ⟨A3, c3, hG, hXw, hbX, hown, hle, c9, hA1, c8, hM⟩ := Gath.end_ (by omega) hend
        have hEw := hXw E hXE
        have hne : E ≠ D := fun e => hbX D (by simp) (by rw [← e]; exact hXE)
        obtain ⟨H1, hle1, hG1, hsl3, hoth⟩ := hown.freeze hG
        replace c8 : Mut H1 w c8b _ := ⟨(hoth c8b (fun a ha e => (hA1 a ha).1 (by rw [← e]; simp))).trans c8.out, c8.at_⟩
        replace c9 : Mut H1 w c9b _ := ⟨(hoth c9b (fun a ha e => (hA1 a ha).1 (by rw [← e]; simp))).trans c9.out, c9.at_⟩
        replace hM : MarkAt H1 w D := ⟨(hoth D (fun a ha e => (hA1 a ha).1 (by rw [← e]; simp))).trans hM.out, hM.at_⟩
        replace hN : MarkAt H1 w E := ⟨(hoth E (fun a ha e => (hA1 a ha).2 (by rw [← e]; exact hXE))).trans hN.out, hN.at_⟩
        replace hle := hle.trans hle1
        replace ht := ht.mono hle
        replace hl2 := hl2.mono hle
        replace hsl1 := hsl1.mono hle
        replace h3 := hle _ _ h3
        replace hG := hG1
        replace hS := hG.sub
        have hcap3 := hown.cap
        clear hown hit2 hle hle' hle1 hoth hend hA1 hbX hG1
        (refine CWD_seq ?_)
        have hG0 := hG
        apply CWD_region_grow [_, _, _, _, _, _, _, _, _, _, _, _, _, _] [none, none, none, none, none, none, none, none, none, none, none, none, none, none] [some 56, some 57, some 58, some 59, some 60, some 61, some 62, some 63, some 64, some 65, some 66, some 67, some 68, some 4] [56, 57, 58, 59, 60, 61, 62, 63, 64, 65, 66, 67, 68, 4] mixed rfl rfl rfl rfl (by decide) rfl (by assumption)
        · ((apply steps_cons; case h1 => (apply A_pure; intro c u H' w' hG; have hS' := hG.sub; have hS2' := hG.subOld; have hM0 := (c8).grow hG; have hM1 := (c9).grow hG; (repeat (first | refine depGo_eq rfl rfl rfl ?_ | (refine depGo_fact rfl rfl rfl ?_; intro v hv) | refine depGo_skip rfl ?_ | refine depGo_none rfl ?_)); apply Pure1.mk; intro K hk; exact W_loadM (by first | rfl | assumption) (by assumption) (by rfl) hk)); (apply steps_cons; case h1 => (apply A_pure; intro c u H' w' hG; have hS' := hG.sub; have hS2' := hG.subOld; have hM0 := (c8).grow hG; have hM1 := (c9).grow hG; (repeat (first | refine depGo_eq rfl rfl rfl ?_ | (refine depGo_fact rfl rfl rfl ?_; intro v hv) | refine depGo_skip rfl ?_ | refine depGo_none rfl ?_)); apply Pure1.mk; intro K hk; exact W_moveSl (by first | rfl | assumption) hk)); (apply steps_cons; case h1 => (apply A_pure; intro c u H' w' hG; have hS' := hG.sub; have hS2' := hG.subOld; have hM0 := (c8).grow hG; have hM1 := (c9).grow hG; (repeat (first | refine depGo_eq rfl rfl rfl ?_ | (refine depGo_fact rfl rfl rfl ?_; intro v hv) | refine depGo_skip rfl ?_ | refine depGo_none rfl ?_)); apply Pure1.mk; intro K hk; exact W_loadHL (by first | rfl | assumption) (by assumption) (by rfl) (by assumption) hk)))
          (apply steps_cons; case h1 => (refine A_fact (φ := (fun v _ => v = .slice A2 (t.items.take n.toNat).length c2)) ?_; intro c' u H' w' hG; have hS' := hG.sub; (repeat (first | refine depGo_eq rfl rfl rfl ?_ | (refine depGo_fact rfl rfl rfl ?_; intro v hv) | refine depGo_skip rfl ?_ | refine depGo_none rfl ?_)); refine depGo_nil ?_; refine W_call hS' (by rfl) (first_c _ A2 c2 t.items n hc2 (by omega)) ?_; intro v H3 w3 hG3 hr; exact ⟨H3, hG3.le, hG.trans hG3, fun H'' hle => hr⟩))
          (apply steps_cons; case h1 => (refine A_fact (φ := (fun v _ => v = .bool true)) ?_; intro c' u H' w' hG; have hS' := hG.sub; (repeat (first | refine depGo_eq rfl rfl rfl ?_ | (refine depGo_fact rfl rfl rfl ?_; intro v hv) | refine depGo_skip rfl ?_ | refine depGo_none rfl ?_)); refine depGo_nil ?_; refine W_call hS' (by rfl) (same_c H' A1 A2 c1 c2 (t.items.take n.toNat) (t.items.take n.toNat) (SlAt.mono hsl1 hG.le) (EntsAt.take (hl2.mono hG.le) _) (by simp; omega)) ?_; intro v H3 w3 hG3 hr; exact ⟨H3, hG3.le, hG.trans hG3, fun H'' hle => (by rw [hr]; simp)⟩))
          ((apply steps_cons; case h1 => (apply A_pure; intro c u H' w' hG; have hS' := hG.sub; have hS2' := hG.subOld; have hM0 := (c8).grow hG; have hM1 := (c9).grow hG; (repeat (first | refine depGo_eq rfl rfl rfl ?_ | (refine depGo_fact rfl rfl rfl ?_; intro v hv) | refine depGo_skip rfl ?_ | refine depGo_none rfl ?_)); apply Pure1.mk; intro K hk; exact W_moveBool (by first | rfl | assumption) hk)); (apply steps_cons; case h1 => (apply A_want; intro c u H' w' hG; have hS' := hG.sub; have hS2' := hG.subOld; have hM0 := (c8).grow hG; have hM1 := (c9).grow hG; (repeat (first | refine depGo_eq rfl rfl rfl ?_ | (refine depGo_fact rfl rfl rfl ?_; intro v hv) | refine depGo_skip rfl ?_ | refine depGo_none rfl ?_)); apply Pure2.mk; (case want => rfl); intro K hk; exact W_loadM (by first | rfl | assumption) (by assumption) (by rfl) hk)); (apply steps_cons; case h1 => (apply A_want; intro c u H' w' hG; have hS' := hG.sub; have hS2' := hG.subOld; have hM0 := (c8).grow hG; have hM1 := (c9).grow hG; (repeat (first | refine depGo_eq rfl rfl rfl ?_ | (refine depGo_fact rfl rfl rfl ?_; intro v hv) | refine depGo_skip rfl ?_ | refine depGo_none rfl ?_)); apply Pure2.mk; (case want => rfl); intro K hk; exact W_moveSl (by first | rfl | assumption) hk)))
          (apply steps_cons; case h1 => (refine A_factG (φ := (fun v H => IsEnts v t.items.reverse H)) ?_; intro c' u H' w' hG; have hS' := hG.sub; (repeat (first | refine depGo_eq rfl rfl rfl ?_ | (refine depGo_fact rfl rfl rfl ?_; intro v hv) | refine depGo_skip rfl ?_ | refine depGo_none rfl ?_)); refine depGo_nil ⟨rfl, ?_⟩; refine W_call hS' (by rfl) (rBack_c H' A2 c2 t.items (hl2.mono hG.le) (by omega)) ?_; intro v H3 w3 hG3 hr; exact ⟨H3, hG3.le, hG.trans hG3, fun H'' hle => hr.mono hle⟩))
          ((apply steps_cons; case h1 => (apply A_want; intro c u H' w' hG; have hS' := hG.sub; have hS2' := hG.subOld; have hM0 := (c8).grow hG; have hM1 := (c9).grow hG; (repeat (first | refine depGo_eq rfl rfl rfl ?_ | (refine depGo_fact rfl rfl rfl ?_; intro v hv) | refine depGo_skip rfl ?_ | refine depGo_none rfl ?_)); apply Pure2.mk; (case want => rfl); intro K hk; exact W_loadHL (by first | rfl | assumption) (by assumption) (by rfl) (by assumption) hk)))
          (apply steps_cons; case h1 => (refine A_factG (φ := (fun v H => IsEnts v (t.items.reverse.take n.toNat) H)) ?_; intro c' u H' w' hG'; have hS' := hG'.sub; (repeat (first | refine depGo_eq rfl rfl rfl ?_ | (refine depGo_fact rfl rfl rfl ?_; intro v hv) | refine depGo_skip rfl ?_ | refine depGo_none rfl ?_)); obtain ⟨A5, c5, rfl, hc5, hl5⟩ := hv; refine depGo_nil ⟨rfl, ?_⟩; refine W_call hS' (by rfl) (first_c H' A5 c5 t.items.reverse n hc5 (by simp; omega)) ?_; intro v H3 w3 hG3 hr; exact ⟨H3, hG3.le, hG'.trans hG3, fun H'' hle => ⟨A5, c5, hr, Nat.le_trans (by simp; omega) hc5, ((EntsAt.take hl5 _).mono hG3.le).mono hle⟩⟩))
          (apply steps_cons; case h1 => (refine A_factG (φ := (fun v _ => v = .bool true)) ?_; intro c' u H' w' hG'; have hS' := hG'.sub; (repeat (first | refine depGo_eq rfl rfl rfl ?_ | (refine depGo_fact rfl rfl rfl ?_; intro v hv) | refine depGo_skip rfl ?_ | refine depGo_none rfl ?_)); obtain ⟨A6, c6, rfl, hc6, hl6⟩ := hv; refine depGo_nil ⟨rfl, ?_⟩; refine W_call hS' (by rfl) (same_c H' A3 A6 c3 c6 (t.items.reverse.take n.toNat) (t.items.reverse.take n.toNat) (SlAt.mono hsl3 hG'.le) hl6 (by simp; omega)) ?_; intro v H3 w3 hG3 hr; exact ⟨H3, hG3.le, hG'.trans hG3, fun H'' hle => (by rw [hr]; simp)⟩))
          ((apply steps_cons; case h1 => (apply A_pure; intro c u H' w' hG; have hS' := hG.sub; have hS2' := hG.subOld; have hM0 := (c8).grow hG; have hM1 := (c9).grow hG; (repeat (first | refine depGo_eq rfl rfl rfl ?_ | (refine depGo_fact rfl rfl rfl ?_; intro v hv) | refine depGo_skip rfl ?_ | refine depGo_none rfl ?_)); apply Pure1.mk; intro K hk; exact W_pickT (by first | rfl | assumption) (by first | rfl | assumption) hk)); (apply steps_cons; case h1 => (apply A_pure; intro c u H' w' hG; have hS' := hG.sub; have hS2' := hG.subOld; have hM0 := (c8).grow hG; have hM1 := (c9).grow hG; (repeat (first | refine depGo_eq rfl rfl rfl ?_ | (refine depGo_fact rfl rfl rfl ?_; intro v hv) | refine depGo_skip rfl ?_ | refine depGo_none rfl ?_)); apply Pure1.mk; intro K hk; exact W_assignBool (by first | rfl | assumption) hk)); exact trivial)
        · (intro H' w' hG; (repeat (first | refine fin_eq rfl rfl ?_ | (refine fin_fact rfl ?_; intro v hv) | refine fin_none rfl ?_)); refine fin_nil ?_)
          (refine CWD_ret ?_)
          replace hM := hM.grow hG
          replace hN := hN.grow hG
          refine FinD_two hM hN hne hG.sub fun w' hT => ?_
          exact ⟨_, ResW_one (v := .bool _) rfl, _, Turn.grow (hG0.trans hG) hT (by rintro b (rfl | rfl); exact hDw; exact hEw), rfl⟩
end Go.Proofs.Ytgaabmoknpifnaa
