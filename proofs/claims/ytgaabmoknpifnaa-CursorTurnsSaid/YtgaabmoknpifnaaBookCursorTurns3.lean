/- Texts of this proof in one file, each with its conditions ahead of it. First: WalkAll, walked. Conditions: sizes. -/
import Derived.Test.YtgaabmoknpifnaaBookCursorTurns2
import Derived.Test.YtgaabmoknpifnaaSame
import Derived.Test.YtgaabmoknpifnaaMut
import Derived.Test.YtgaabmoknpifnaaBookCursorTurns1
namespace Go.Proofs.Ytgaabmoknpifnaa
open Go.Proofs Go.RowKit
set_option linter.unusedVariables false
attribute [local irreducible] CW CWD SeqW OpW CallV
set_option maxHeartbeats 4000000
theorem ent_rev {l : List Ent} {i : Nat} (h : i < l.length) : l.reverse.take (i + 1) = l.reverse.take i ++ [ent l (l.length - 1 - i)] := by
  rw [take_succ' (by simpa using h)]
  congr 1
  simp [ent, show l.length - 1 - i < l.length by omega]
theorem rBack_c (H0 : HF) (A : Option Addr) (c : Nat) (l : List Ent) (hl : EntsAt H0 A l) (hb : l.length ≤ 1000000) :
    Fn Try.prog 28 [.slice A l.length c] H0 fun v H' => IsEnts v l.reverse H' := by
  refine Fn_of_CW Try.func28 rfl Try.ntmps28 Try.results28 rfl fun w0 hS => ?_; have hG := Grow.refl hS
  (refine CW_seq ?_; refine CW_region rfl ?_; refine S_op ?_; refine W_assignSl (by first | rfl | assumption) ?_; refine S_nil ?_; refine CW_seq ?_; refine CW_region rfl ?_; refine S_op ?_; refine W_assignSl (by first | rfl | assumption) ?_; refine S_nil ?_; refine CW_seq ?_; refine CW_seq ?_; refine CW_region rfl ?_; refine S_op ?_; refine W_moveSl (by first | rfl | assumption) ?_; refine S_op ?_; refine W_len (by first | rfl | assumption) ?_; refine S_op ?_; refine W_moveInt (by first | rfl | assumption) ?_; refine S_nil ?_; refine CW_block ?_)
  refine CW_loopM [3, 4, 7, 8, 9, 10, 11, 12, 13, 14, 15, 16, 17, 18, 19, 20, 21]
    (fun m u w2 => ∃ (i : Nat) (A2 : Option Addr) (c2 : Nat) (H2 : HF), u 7 = .int .i64 (i : Int) ∧ u 3 = .slice A2 i c2 ∧ Grow H0 w0 H2 w2 ∧ Own H2 w2 w0.heap.size 32 2 A2 i c2 (entCells (l.reverse.take i)) ∧ i ≤ l.length ∧ l.length - i ≤ m)
    (m := l.length) ⟨0, none, 0, H0, rfl, rfl, hG, Own.nil _ _ _ _ _, by omega, by omega⟩ ?_
  rintro m u w ⟨i, A2, c2, H, h7, h3, hG, hown, hi, hm⟩
  have hS := hG.sub
  replace hl := hl.mono hG.le
  by_cases hlt : i < l.length
  · have hq : l.length - 1 - i < l.length := by omega
    obtain ⟨b, off, hA, hrow⟩ := hl.some hq
    have e := ent_rev hlt
    (refine CW_seq ?_; refine CW_region rfl ?_; refine S_op ?_; refine W_lssT (by first | rfl | assumption) (by first | rfl | assumption) (by first | omega | rfl) ?_; refine S_nil ?_; refine CW_seq ?_; refine CW_true (by first | rfl | assumption) ?_; refine CW_skip ?_; refine CW_seq ?_; refine CW_block ?_; refine CW_seq ?_; refine CW_region rfl ?_; refine S_op ?_; refine W_moveInt (by first | rfl | assumption) ?_; refine S_op ?_; refine W_assignInt (by first | rfl | assumption) ?_; refine S_nil ?_; refine CW_region rfl ?_; refine S_op ?_; refine W_moveSl (by first | rfl | assumption) ?_; refine S_op ?_; refine W_moveSl (by first | rfl | assumption) ?_; refine S_op ?_; refine W_moveSl (by first | rfl | assumption) ?_; refine S_op ?_; refine W_len (by first | rfl | assumption) ?_; refine S_op ?_; refine W_sub1 (by first | rfl | assumption) (by omega) (by omega) ?_; refine S_op ?_; refine W_moveInt (by first | rfl | assumption) ?_; refine S_op ?_; refine W_subN (by first | rfl | assumption) (by first | rfl | assumption) (by omega) (by omega) ?_; refine S_op ?_; refine W_index (by first | rfl | assumption) (by first | rfl | assumption) (by first | assumption | omega | decide) (by first | rfl | assumption) ?_; refine S_op ?_; refine W_loadEnt (by first | rfl | assumption) (by assumption) (by first | assumption | omega) (by assumption) ?_)
    refine S_op ?_
    refine W_build1 (sz := 2) (v := .agg #[.string (ent l (l.length - 1 - i)).key, .string (ent l (l.length - 1 - i)).val]) hS (by omega) (by rfl) (by rfl) ?_
    intro H w b hG' hb' _ _
    replace hG := hG.trans hG'
    replace hS := hG'.sub
    replace hl := hl.mono hG'.le
    replace hown := hown.grow hG'
    clear hG'
    refine S_op ?_
    refine W_append (news := entCells [ent l (l.length - 1 - i)]) (by rfl) (by rfl) hG hown ((SlAt.of_row hb').cells hS) (by rfl) (entCells_one _) (by decide) (by omega) (by omega) ?_
    intro A2 c2 w hG hown _ hA3
    clear hA3
    rw [← entCells_append] at hown
    replace hS := hG.sub
    rw [← e] at hown
    (refine S_op ?_; refine W_assignSl (by first | rfl | assumption) ?_; refine S_nil ?_; refine CW_region rfl ?_; refine S_op ?_; refine W_add1 (by first | rfl | assumption) (by omega) ?_; refine S_op ?_; refine W_moveInt (by first | rfl | assumption) ?_; refine S_nil ?_)
    exact ⟨(by repeat (first | exact AgreeOff.over | refine AgreeOff.upd rfl ?_ | refine AgreeOff.over2 rfl ?_)), m - 1, by omega, i + 1, A2, c2, H, rfl, rfl, hG, hown, by omega, by omega⟩
  · have hin : i = l.length := by omega
    subst hin
    rw [List.take_of_length_le (by simp)] at hown
    (refine CW_seq ?_; refine CW_region rfl ?_; refine S_op ?_; refine W_lssF (by first | rfl | assumption) (by first | rfl | assumption) (by first | omega | rfl) ?_; refine S_nil ?_; refine CW_seq ?_; refine CW_false (by first | rfl | assumption) ?_; refine CW_exit ?_; refine CW_seq ?_; refine CW_region rfl ?_; refine S_op ?_; refine W_moveSl (by first | rfl | assumption) ?_; refine S_op ?_; refine W_assignSl (by first | rfl | assumption) ?_; refine S_nil ?_; refine CW_ret ?_)
    obtain ⟨H3, hle3, hG3, hsl3, _⟩ := hown.freeze hG
    exact ⟨_, ResW_one (v := .slice _ _ _) rfl, H3, hG3, A2, c2, by simp, by simpa using hown.cap, hsl3⟩
/- gath(variable ;; others behind a call ;; others behind the append ;; others behind the store): the round's three operations -/
theorem walkAll_c (H : HF) (A : Option Addr) (c : Nat) (l : List Ent) (n : Int) (hl : EntsAt H A l) (hb : l.length ≤ 100000000000000) (hs : ∀ e ∈ l, e.key.size ≤ 150000000000000 ∧ e.val.size ≤ 150000000000000) :
    Fn Try.prog 7 [.slice A l.length c, .int .i64 n] H fun v _ => v = .bool true := by
  obtain ⟨H0, rfl⟩ : ∃ H0, H0 = H := ⟨_, rfl⟩
  refine Fn_of_CWD Try.func7 rfl Try.ntmps7 Try.results7 rfl fun w0 hS => ?_; have hS0 := hS; have hG := Grow.refl hS
  (refine CWD_seq ?_; refine CWD_region rfl ?_)
  (refine S_op (W_box1 hS (by rfl) (by first | rfl | assumption) ?_)); intro H w _ hG' h3; replace hG := hG.trans hG'; replace hS := hG'.sub; replace hl := hl.mono hG'.le; clear hG'
  (refine S_op ?_; refine W_assignBool (by first | rfl | assumption) ?_; refine S_nil ?_; refine CWD_seq ?_; refine CWD_seq ?_; refine CWD_region rfl ?_)
  (refine S_op ?_; refine W_call hS (by rfl) (awake11_c _) ?_); rintro v H w hG' rfl; replace hG := hG.trans hG'; replace hS := hG'.sub; replace hl := hl.mono hG'.le; replace h3 := hG'.le _ _ h3; clear hG'
  (refine S_op ?_; refine W_not (by first | rfl | assumption) ?_; refine S_nil ?_; refine CWD_false (by first | rfl | assumption) ?_; refine CWD_skip ?_; refine CWD_seq ?_; refine CWD_region rfl ?_; refine S_op ?_; refine W_moveSl (by first | rfl | assumption) ?_)
  (refine S_op ?_; refine W_call hS (by rfl) (built11_c _ A c l hl hb hs) ?_); rintro v H w hG' ⟨t, s, z, rfl, hz, hz0⟩; replace hG := hG.trans hG'; replace hS := hG'.sub; replace hl := hl.mono hG'.le; replace h3 := hG'.le _ _ h3; clear hG'
  cases z with
  | false =>
    obtain ⟨rfl, rfl⟩ := hz0 rfl
    (refine S_op ?_; refine W_moveTup (by first | rfl | assumption) ?_; refine S_op ?_; refine W_extract (by first | rfl | assumption) (by rfl) ?_; refine S_op ?_; refine W_extract (by first | rfl | assumption) (by rfl) ?_; refine S_op ?_; refine W_extract (by first | rfl | assumption) (by rfl) ?_; refine S_op ?_; refine W_assignPtr (by first | rfl | assumption) ?_; refine S_op ?_; refine W_assignSl (by first | rfl | assumption) ?_; refine S_op ?_; refine W_assignBool (by first | rfl | assumption) ?_; refine S_nil ?_; refine CWD_seq ?_; refine CWD_seq ?_; refine CWD_region rfl ?_; refine S_op ?_; refine W_moveBool (by first | rfl | assumption) ?_; refine S_op ?_; refine W_not (by first | rfl | assumption) ?_; refine S_op ?_; refine W_moveBool (by first | rfl | assumption) ?_; refine S_pass (by rfl) ?_; refine S_pass (by rfl) ?_; refine S_op ?_; refine W_pickT (by first | rfl | assumption) (by first | rfl | assumption) ?_; refine S_nil ?_; refine CWD_true (by first | rfl | assumption) ?_; refine CWD_seq ?_; refine CWD_region rfl ?_; refine S_op ?_; refine W_assignBool (by first | rfl | assumption) ?_; refine S_nil ?_; refine CWD_ret ?_)
    exact FinD_nil ⟨_, ResW_one (v := .bool _) rfl, H, hG, rfl⟩
  | true =>
    obtain ⟨ht, ⟨A2, c2, rfl, hc2, hl2⟩, h150⟩ := hz rfl
    clear hz hz0 hl
    by_cases hn : n < 1
    · (refine S_op ?_; refine W_moveTup (by first | rfl | assumption) ?_; refine S_op ?_; refine W_extract (by first | rfl | assumption) (by rfl) ?_; refine S_op ?_; refine W_extract (by first | rfl | assumption) (by rfl) ?_; refine S_op ?_; refine W_extract (by first | rfl | assumption) (by rfl) ?_; refine S_op ?_; refine W_assignPtr (by first | rfl | assumption) ?_; refine S_op ?_; refine W_assignSl (by first | rfl | assumption) ?_; refine S_op ?_; refine W_assignBool (by first | rfl | assumption) ?_; refine S_nil ?_; refine CWD_seq ?_; refine CWD_seq ?_; refine CWD_region rfl ?_; refine S_op ?_; refine W_moveBool (by first | rfl | assumption) ?_; refine S_op ?_; refine W_not (by first | rfl | assumption) ?_; refine S_op ?_; refine W_moveBool (by first | rfl | assumption) ?_; refine S_want (by rfl) ?_; refine W_loadHL (by first | rfl | assumption) (by assumption) (by rfl) (by assumption) ?_; refine S_want (by rfl) ?_; refine W_lssT (by first | rfl | assumption) (by first | rfl | assumption) (by first | omega | rfl) ?_; refine S_op ?_; refine W_pickF (by first | rfl | assumption) (by first | rfl | assumption) ?_; refine S_nil ?_; refine CWD_true (by first | rfl | assumption) ?_; refine CWD_seq ?_; refine CWD_region rfl ?_; refine S_op ?_; refine W_assignBool (by first | rfl | assumption) ?_; refine S_nil ?_; refine CWD_ret ?_)
      exact FinD_nil ⟨_, ResW_one (v := .bool _) rfl, H, hG, rfl⟩
    (refine S_op ?_; refine W_moveTup (by first | rfl | assumption) ?_; refine S_op ?_; refine W_extract (by first | rfl | assumption) (by rfl) ?_; refine S_op ?_; refine W_extract (by first | rfl | assumption) (by rfl) ?_; refine S_op ?_; refine W_extract (by first | rfl | assumption) (by rfl) ?_; refine S_op ?_; refine W_assignPtr (by first | rfl | assumption) ?_; refine S_op ?_; refine W_assignSl (by first | rfl | assumption) ?_; refine S_op ?_; refine W_assignBool (by first | rfl | assumption) ?_; refine S_nil ?_; refine CWD_seq ?_; refine CWD_seq ?_; refine CWD_region rfl ?_; refine S_op ?_; refine W_moveBool (by first | rfl | assumption) ?_; refine S_op ?_; refine W_not (by first | rfl | assumption) ?_; refine S_op ?_; refine W_moveBool (by first | rfl | assumption) ?_; refine S_want (by rfl) ?_; refine W_loadHL (by first | rfl | assumption) (by assumption) (by rfl) (by assumption) ?_; refine S_want (by rfl) ?_; refine W_lssF (by first | rfl | assumption) (by first | rfl | assumption) (by first | omega | rfl) ?_; refine S_op ?_; refine W_pickF (by first | rfl | assumption) (by first | rfl | assumption) ?_; refine S_nil ?_; refine CWD_false (by first | rfl | assumption) ?_; refine CWD_skip ?_; refine CWD_seq ?_; refine CWD_region rfl ?_)
    (refine S_op (W_alloc hS ?_)); intro w c8b hG' c8h c8; replace c8h := Nat.le_trans hG.below.size (Nat.le_of_eq c8h); replace hG := hG.trans hG'; replace hS := hG'.sub; clear hG'
    skip
    (refine S_op (W_alloc hS ?_)); intro w c9b hG' c9h c9; have n_c8_c9 : c8b ≠ c9b := (by have h1 := c8.lt; omega); replace c9h := Nat.le_trans hG.below.size (Nat.le_of_eq c9h); replace hG := hG.trans hG'; replace hS := hG'.sub; replace c8 := c8.grow hG'; clear hG'
    (refine S_nil ?_; refine CWD_seq ?_; refine CWD_seq ?_; refine CWD_region rfl ?_; refine S_op ?_; refine W_movePtr (by first | rfl | assumption) ?_)
    (refine S_op ?_; refine W_call hS (by rfl) (all_c H t ht.at_) ?_); rintro v H w hG' hv; replace hG := hG.trans hG'; replace hS := hG'.sub; replace ht := ht.mono hG'.le; replace hl2 := hl2.mono hG'.le; replace h3 := hG'.le _ _ h3; replace c8 := c8.grow hG'; replace c9 := c9.grow hG'; clear hG'
    obtain ⟨gf, lb, hfc, rfl, hit⟩ := hv
    (refine S_nil ?_; refine CWD_block ?_)
    refine CWD_rangeExit (S := fun _ => False) (Gath H0 w0 H 32 c8b [c9b] n False (fun H2 w2 => Mut H2 w2 c9b [.slice none 0 0])) (Gath H0 w0 H 32 c8b [c9b] n True (fun H2 w2 => Mut H2 w2 c9b [.slice none 0 0]))
      (Gath.good ?_) (Gath.good ?_).stable ⟨hG, fun _ h => h.elim, ?_, none, 0, 0, Own.nil _ _ _ _ _, (fun _ h => by cases h), HLe.refl _, c8, rfl, (fun _ h => by cases h), by simp; omega, by simp; omega, c9⟩ rfl hS (fun _ => rfl) (by decide) (fun w1 _ => hit H w1 (HLe.refl _)) (fun _ h => h.elim) ?_ ?_
    · exact fun S _ H w H' w' hs hT h => h.turn hT (hs _ (by simp))
    · exact fun S _ H w H' w' hs hT h => h.turn hT (hs _ (by simp))
    · intro b hb
      simp at hb
      rcases hb with rfl | rfl
      · exact ⟨fun h => h, c8.lt⟩
      · exact ⟨fun h => h, c9.lt⟩
    · intro l x W
      (refine CW_seq ?_; refine CW_region rfl ?_; refine S_op ?_; refine W_assignStr (by first | rfl | assumption) ?_; refine S_nil ?_; refine CW_region rfl ?_; refine S_op ?_; refine W_assignStr (by first | rfl | assumption) ?_; refine S_nil ?_)
      refine ⟨rfl, ?_⟩
      clear c8 c9 hG hS
      rintro l X pre rest H W hx hS ⟨hGw, hXs, hbs, A, m, c, hown, hXA, hle, c8, rfl, hA8, hpm, hpf, c9⟩ _
      obtain ⟨bs, hbsd⟩ : ∃ bs, bs = [c8b, c9b] := ⟨_, rfl⟩
      rw [← hbsd] at hbs hA8
      skip
      replace h3 := hle _ _ h3
      have hpl : pre.length < 1000000 := by have := congrArg List.length hx; simp at this; omega
      have hpn : (pre.length : Int) < n := by
        rcases Int.lt_or_eq_of_le hpm with h | h
        · exact h
        · exact (hpf.1 h).elim
      have hG := hGw
      have hrow : ∀ b' ∈ bs, (Value.slice A pre.length c).ownBlock ≠ some b' := by
        intro b' hb' e
        cases A with
        | none => simp [Value.ownBlock] at e
        | some a => simp [Value.ownBlock] at e; exact hA8 a rfl (by rw [e]; exact hb')
      (refine CW_block ?_; refine CW_seq ?_; refine CW_region rfl ?_; refine S_op ?_; refine W_loadM (by first | rfl | assumption) (by assumption) (by rfl) ?_; refine S_op ?_; refine W_moveStr (by first | rfl | assumption) ?_; refine S_op ?_; refine W_moveStr (by first | rfl | assumption) ?_; refine S_op ?_; refine W_build (by rfl) ?_)
      refine S_op ?_
      refine W_build1 (sz := 2) (v := .agg #[.string x.key, .string x.val]) hS (by omega) (by rfl) (by rfl) ?_
      intro H2 w2 b hG' hb' _ _
      have hT := hG'.turn (S := notIn X)
      have hsz2 := hG'.below.size
      replace hG := hG.trans hG'
      replace hS := hG'.sub
      replace hown := hown.grow hG'
      replace hle := hle.trans hG'.le
      replace h3 := hG'.le _ _ h3
      replace c8 := c8.grow hG'
      replace c9 := c9.grow hG'
      clear hG'
      refine S_op ?_
      refine W_append (news := entCells [x]) (by rfl) (by rfl) hG hown ((SlAt.of_row hb').cells hS) (by rfl) (entCells_one _) (by decide) (by omega) (by omega) ?_
      intro A2 c2 w3 hG2 hown2 hgb hA2
      rw [← entCells_append] at hown2
      replace c8 := c8.other hgb (hrow _ (by simp [hbsd]))
      replace c9 := c9.other hgb (hrow _ (by simp [hbsd]))
      replace hT := hT.grownBy hgb (fun g h => by
        cases A with
        | none => simp [Value.ownBlock] at h
        | some a => simp [Value.ownBlock] at h; subst h; exact ⟨hown.out a rfl, .inr (hXA a rfl)⟩)
      have hn2 : ∀ a, A2 = some a → a.block ∉ bs := by
        intro a ha
        rcases hA2 with ⟨rfl, _⟩ | ⟨g, rfl, hg⟩
        · exact hA8 a ha
        · cases ha
          intro hin
          have := (hbs g hin).2
          omega
      have hX2 : ∀ a, A2 = some a → ¬ X a.block := by
        intro a ha h
        rcases hA2 with ⟨rfl, _⟩ | ⟨g, rfl, hg⟩
        · exact hXA a ha h
        · cases ha; have := (hXs g h).2; omega
      replace hG := hG2
      replace hS := hG2.sub
      skip
      (refine S_op0 (W_storeM (o := 0) (vs := [.slice A2 (pre.length + 1) c2]) (by rfl) (by rfl) c8 (by rfl) (OneCells.of_all (by rfl)) (by rfl) (Nat.le_of_ble_eq_true (by rfl)) ?_)); intro w hgb' hm'; replace hG := hG.grownBy hgb' (fun g h => by cases h; exact ⟨c8.out, c8h⟩); replace hS := hG.sub; replace c8 : Mut _ w c8b ([.slice A2 (pre.length + 1) c2]) := hm'; clear hm'; skip
      replace hT := hT.grownBy hgb' (fun g h => by cases h; exact ⟨c8.out, .inr (hbs _ (by simp [hbsd])).1⟩)
      replace hown2 := hown2.other hgb' (fun a ha e => hn2 a ha (by rw [Option.some.inj e]; simp [hbsd]))
      replace c9 := c9.other hgb' (by intro e2; cases e2; exact n_c8_c9 rfl)
      have hl1 : (pre ++ [x]).length = pre.length + 1 := by simp
      rw [← hl1] at hown2
      have hXs5 : ∀ j, X j → w0.heap.size ≤ j ∧ j < w.heap.size := fun j hj => ⟨(hXs j hj).1, Nat.lt_of_lt_of_le (hXs j hj).2 hT.size⟩
      have hbs5 : ∀ b ∈ bs, ¬ X b ∧ b < w.heap.size := fun b hb => ⟨(hbs b hb).1, Nat.lt_of_lt_of_le (hbs b hb).2 hT.size⟩
      rw [hbsd] at hbs5 hn2
      by_cases hend : ((pre.length + 1 : Nat) : Int) = n
      · (refine S_nil ?_; refine CW_seq ?_; refine CW_region rfl ?_; refine S_op ?_; refine W_loadM (by first | rfl | assumption) (by assumption) (by rfl) ?_; refine S_op ?_; refine W_len (by first | rfl | assumption) ?_; refine S_op ?_; refine W_loadHL (by first | rfl | assumption) (by assumption) (by rfl) (by assumption) ?_; refine S_op ?_; refine W_eqlT (by first | rfl | assumption) (by first | rfl | assumption) (by first | omega | rfl) ?_; refine S_nil ?_; refine CW_true (by first | rfl | assumption) ?_; refine CW_exit ?_; refine xblk_miss rfl ?_)
        exact ⟨H2, hT, rfl, hG, hXs5, hbs5, A2, _, c2, hown2, hX2, hle, by rw [hl1]; exact c8, rfl, hn2, by rw [hl1]; omega, ⟨fun _ => trivial, fun _ => by rw [hl1]; exact hend⟩, c9⟩
      · (refine S_nil ?_; refine CW_seq ?_; refine CW_region rfl ?_; refine S_op ?_; refine W_loadM (by first | rfl | assumption) (by assumption) (by rfl) ?_; refine S_op ?_; refine W_len (by first | rfl | assumption) ?_; refine S_op ?_; refine W_loadHL (by first | rfl | assumption) (by assumption) (by rfl) (by assumption) ?_; refine S_op ?_; refine W_eqlF (by first | rfl | assumption) (by first | rfl | assumption) (by first | omega | rfl) ?_; refine S_nil ?_; refine CW_false (by first | rfl | assumption) ?_; refine CW_skip ?_)
        exact ⟨H2, hT, hG, hXs5, hbs5, A2, _, c2, hown2, hX2, hle, by rw [hl1]; exact c8, rfl, hn2, by rw [hl1]; omega, ⟨fun h => hend (by rw [← hl1]; exact h), False.elim⟩, c9⟩
    · clear c8 c9 hG hS
      rintro D X H w hD hM hS hle' hXD hend
      obtain ⟨A1, c1, hG, hXw, hbX, hown, hle, c8, hA1, c9⟩ := Gath.end_ (by omega) hend
      have hDw := hXw D hXD
      obtain ⟨H1, hle1, hG1, hsl1, hoth⟩ := hown.freeze hG
      replace c8 : Mut H1 w c8b _ := ⟨(hoth c8b (fun a ha e => (hA1 a ha).1 (by rw [← e]; simp))).trans c8.out, c8.at_⟩
      replace c9 : Mut H1 w c9b _ := ⟨(hoth c9b (fun a ha e => (hA1 a ha).1 (by rw [← e]; simp))).trans c9.out, c9.at_⟩
      replace hM : MarkAt H1 w D := ⟨(hoth D (fun a ha e => (hA1 a ha).2 (by rw [← e]; exact hXD))).trans hM.out, hM.at_⟩
      replace hle := hle.trans hle1
      replace ht := ht.mono hle
      replace hl2 := hl2.mono hle
      replace h3 := hle _ _ h3
      replace hG := hG1
      replace hS := hG.sub
      have hcap := hown.cap
      have h8D := hM.ne c8
      have h9D := hM.ne c9
      clear hown hit hle hle' hle1 hoth hend hA1 hbX hG1
      (refine CWD_seq ?_; refine CWD_seq ?_; refine CWD_region rfl ?_; refine S_op ?_; refine W_movePtr (by first | rfl | assumption) ?_)
      (refine S_op ?_; refine W_call hS (by rfl) (back_c H1 t ht.at_) ?_); rintro v H w hG' hv; replace hG := hG.trans hG'; replace hS := hG'.sub; replace ht := ht.mono hG'.le; replace hl2 := hl2.mono hG'.le; replace hsl1 := hsl1.mono hG'.le; replace h3 := hG'.le _ _ h3; replace c8 := c8.grow hG'; replace c9 := c9.grow hG'; replace hM := hM.grow hG'; clear hG'
      obtain ⟨gf2, lb2, hfc2, rfl, hit2⟩ := hv
      (refine S_nil ?_; refine CWD_block ?_)
      refine CWD_rangeExit (S := fun _ => False) (Gath H0 w0 H 32 c9b [c8b, D] n False (fun H2 w2 => Mut H2 w2 c8b [.slice A1 (t.items.take n.toNat).length c1] ∧ MarkAt H2 w2 D)) (Gath H0 w0 H 32 c9b [c8b, D] n True (fun H2 w2 => Mut H2 w2 c8b [.slice A1 (t.items.take n.toNat).length c1] ∧ MarkAt H2 w2 D))
        (Gath.good ?_) (Gath.good ?_).stable ⟨hG, fun _ h => h.elim, ?_, none, 0, 0, Own.nil _ _ _ _ _, (fun _ h => by cases h), HLe.refl _, c9, rfl, (fun _ h => by cases h), by simp; omega, by simp; omega, c8, hM⟩ rfl hS (fun _ => rfl) (by decide) (fun w1 _ => hit2 H w1 (HLe.refl _)) (fun _ h => h.elim) ?_ ?_
      · exact fun S _ H w H' w' hs hT h => ⟨h.1.turn hT (hs _ (by simp)), h.2.turn hT (hs _ (by simp))⟩
      · exact fun S _ H w H' w' hs hT h => ⟨h.1.turn hT (hs _ (by simp)), h.2.turn hT (hs _ (by simp))⟩
      · intro b hb
        simp at hb
        rcases hb with rfl | rfl | rfl
        · exact ⟨fun h => h, c9.lt⟩
        · exact ⟨fun h => h, c8.lt⟩
        · exact ⟨fun h => h, hM.lt⟩
      · intro l x W
        (refine CW_seq ?_; refine CW_region rfl ?_; refine S_op ?_; refine W_assignStr (by first | rfl | assumption) ?_; refine S_nil ?_; refine CW_region rfl ?_; refine S_op ?_; refine W_assignStr (by first | rfl | assumption) ?_; refine S_nil ?_)
        refine ⟨rfl, ?_⟩
        clear c8 c9 hM hG hS
        rintro l X pre rest H W hx hS ⟨hGw, hXs, hbs, A, m, c, hown, hXA, hle, c9, rfl, hA8, hpm, hpf, c8, hM⟩ _
        obtain ⟨bs, hbsd⟩ : ∃ bs, bs = [c9b, c8b, D] := ⟨_, rfl⟩
        rw [← hbsd] at hbs hA8
        skip
        replace h3 := hle _ _ h3
        have hpl : pre.length < 1000000 := by have := congrArg List.length hx; simp at this; omega
        have hpn : (pre.length : Int) < n := by
          rcases Int.lt_or_eq_of_le hpm with h | h
          · exact h
          · exact (hpf.1 h).elim
        have hG := hGw
        have hrow : ∀ b' ∈ bs, (Value.slice A pre.length c).ownBlock ≠ some b' := by
          intro b' hb' e
          cases A with
          | none => simp [Value.ownBlock] at e
          | some a => simp [Value.ownBlock] at e; exact hA8 a rfl (by rw [e]; exact hb')
        (refine CW_block ?_; refine CW_seq ?_; refine CW_region rfl ?_; refine S_op ?_; refine W_loadM (by first | rfl | assumption) (by assumption) (by rfl) ?_; refine S_op ?_; refine W_moveStr (by first | rfl | assumption) ?_; refine S_op ?_; refine W_moveStr (by first | rfl | assumption) ?_; refine S_op ?_; refine W_build (by rfl) ?_)
        refine S_op ?_
        refine W_build1 (sz := 2) (v := .agg #[.string x.key, .string x.val]) hS (by omega) (by rfl) (by rfl) ?_
        intro H2 w2 b hG' hb' _ _
        have hT := hG'.turn (S := notIn X)
        have hsz2 := hG'.below.size
        replace hG := hG.trans hG'
        replace hS := hG'.sub
        replace hown := hown.grow hG'
        replace hle := hle.trans hG'.le
        replace h3 := hG'.le _ _ h3
        replace c9 := c9.grow hG'
        (replace c8 := c8.grow hG'; replace hM := hM.grow hG')
        clear hG'
        refine S_op ?_
        refine W_append (news := entCells [x]) (by rfl) (by rfl) hG hown ((SlAt.of_row hb').cells hS) (by rfl) (entCells_one _) (by decide) (by omega) (by omega) ?_
        intro A2 c2 w3 hG2 hown2 hgb hA2
        rw [← entCells_append] at hown2
        replace c9 := c9.other hgb (hrow _ (by simp [hbsd]))
        (replace c8 := c8.other hgb (hrow _ (by simp [hbsd])); replace hM := hM.other hgb (hrow _ (by simp [hbsd])))
        replace hT := hT.grownBy hgb (fun g h => by
          cases A with
          | none => simp [Value.ownBlock] at h
          | some a => simp [Value.ownBlock] at h; subst h; exact ⟨hown.out a rfl, .inr (hXA a rfl)⟩)
        have hn2 : ∀ a, A2 = some a → a.block ∉ bs := by
          intro a ha
          rcases hA2 with ⟨rfl, _⟩ | ⟨g, rfl, hg⟩
          · exact hA8 a ha
          · cases ha
            intro hin
            have := (hbs g hin).2
            omega
        have hX2 : ∀ a, A2 = some a → ¬ X a.block := by
          intro a ha h
          rcases hA2 with ⟨rfl, _⟩ | ⟨g, rfl, hg⟩
          · exact hXA a ha h
          · cases ha; have := (hXs g h).2; omega
        replace hG := hG2
        replace hS := hG2.sub
        skip
        (refine S_op0 (W_storeM (o := 0) (vs := [.slice A2 (pre.length + 1) c2]) (by rfl) (by rfl) c9 (by rfl) (OneCells.of_all (by rfl)) (by rfl) (Nat.le_of_ble_eq_true (by rfl)) ?_)); intro w hgb' hm'; replace hG := hG.grownBy hgb' (fun g h => by cases h; exact ⟨c9.out, c9h⟩); replace hS := hG.sub; replace c9 : Mut _ w c9b ([.slice A2 (pre.length + 1) c2]) := hm'; clear hm'; skip
        replace hT := hT.grownBy hgb' (fun g h => by cases h; exact ⟨c9.out, .inr (hbs _ (by simp [hbsd])).1⟩)
        replace hown2 := hown2.other hgb' (fun a ha e => hn2 a ha (by rw [Option.some.inj e]; simp [hbsd]))
        (replace c8 := c8.other hgb' (by intro e2; cases e2; exact n_c8_c9 rfl); replace hM := hM.other hgb' (fun e => h9D (Option.some.inj e)))
        have hl1 : (pre ++ [x]).length = pre.length + 1 := by simp
        rw [← hl1] at hown2
        have hXs5 : ∀ j, X j → w0.heap.size ≤ j ∧ j < w.heap.size := fun j hj => ⟨(hXs j hj).1, Nat.lt_of_lt_of_le (hXs j hj).2 hT.size⟩
        have hbs5 : ∀ b ∈ bs, ¬ X b ∧ b < w.heap.size := fun b hb => ⟨(hbs b hb).1, Nat.lt_of_lt_of_le (hbs b hb).2 hT.size⟩
        rw [hbsd] at hbs5 hn2
        by_cases hend : ((pre.length + 1 : Nat) : Int) = n
        · (refine S_nil ?_; refine CW_seq ?_; refine CW_region rfl ?_; refine S_op ?_; refine W_loadM (by first | rfl | assumption) (by assumption) (by rfl) ?_; refine S_op ?_; refine W_len (by first | rfl | assumption) ?_; refine S_op ?_; refine W_loadHL (by first | rfl | assumption) (by assumption) (by rfl) (by assumption) ?_; refine S_op ?_; refine W_eqlT (by first | rfl | assumption) (by first | rfl | assumption) (by first | omega | rfl) ?_; refine S_nil ?_; refine CW_true (by first | rfl | assumption) ?_; refine CW_exit ?_; refine xblk_miss rfl ?_)
          exact ⟨H2, hT, rfl, hG, hXs5, hbs5, A2, _, c2, hown2, hX2, hle, by rw [hl1]; exact c9, rfl, hn2, by rw [hl1]; omega, ⟨fun _ => trivial, fun _ => by rw [hl1]; exact hend⟩, c8, hM⟩
        · (refine S_nil ?_; refine CW_seq ?_; refine CW_region rfl ?_; refine S_op ?_; refine W_loadM (by first | rfl | assumption) (by assumption) (by rfl) ?_; refine S_op ?_; refine W_len (by first | rfl | assumption) ?_; refine S_op ?_; refine W_loadHL (by first | rfl | assumption) (by assumption) (by rfl) (by assumption) ?_; refine S_op ?_; refine W_eqlF (by first | rfl | assumption) (by first | rfl | assumption) (by first | omega | rfl) ?_; refine S_nil ?_; refine CW_false (by first | rfl | assumption) ?_; refine CW_skip ?_)
          exact ⟨H2, hT, hG, hXs5, hbs5, A2, _, c2, hown2, hX2, hle, by rw [hl1]; exact c9, rfl, hn2, by rw [hl1]; omega, ⟨fun h => hend (by rw [← hl1]; exact h), False.elim⟩, c8, hM⟩
      · clear c8 c9 hM hG hS
        rintro E X H w hE hN hS hle' hXE hend
        obtain ⟨A3, c3, hG, hXw, hbX, hown, hle, c9, hA1, c8, hM⟩ := Gath.end_ (by omega) hend
        have hEw := hXw E hXE
        have hne : E ≠ D := fun e => hbX D (by simp) (by rw [← e]; exact hXE)
        obtain ⟨H1, hle1, hG1, hsl3, hoth⟩ := hown.freeze hG
        replace c8 : Mut H1 w c8b _ := ⟨(hoth c8b (fun a ha e => (hA1 a ha).1 (by rw [← e]; simp))).trans c8.out, c8.at_⟩
        replace c9 : Mut H1 w c9b _ := ⟨(hoth c9b (fun a ha e => (hA1 a ha).1 (by rw [← e]; simp))).trans c9.out, c9.at_⟩
        replace hM : MarkAt H1 w D := ⟨(hoth D (fun a ha e => (hA1 a ha).1 (by rw [← e]; simp))).trans hM.out, hM.at_⟩
        replace hN : MarkAt H1 w E := ⟨(hoth E (fun a ha e => (hA1 a ha).2 (by rw [← e]; exact hXE))).trans hN.out, hN.at_⟩
        replace hle := hle.trans hle1
        replace ht := ht.mono hle
        replace hl2 := hl2.mono hle
        replace hsl1 := hsl1.mono hle
        replace h3 := hle _ _ h3
        replace hG := hG1
        replace hS := hG.sub
        have hcap3 := hown.cap
        clear hown hit2 hle hle' hle1 hoth hend hA1 hbX hG1
        (refine CWD_seq ?_)
        have hG0 := hG
        apply CWD_region_grow [_, _, _, _, _, _, _, _, _, _, _, _, _, _] [none, none, none, none, none, none, none, none, none, none, none, none, none, none] [some 56, some 57, some 58, some 59, some 60, some 61, some 62, some 63, some 64, some 65, some 66, some 67, some 68, some 4] [56, 57, 58, 59, 60, 61, 62, 63, 64, 65, 66, 67, 68, 4] mixed rfl rfl rfl rfl (by decide) rfl (by assumption)
        · ((apply steps_cons; case h1 => (apply A_pure; intro c u H' w' hG; have hS' := hG.sub; have hS2' := hG.subOld; have hM0 := (c8).grow hG; have hM1 := (c9).grow hG; (repeat (first | refine depGo_eq rfl rfl rfl ?_ | (refine depGo_fact rfl rfl rfl ?_; intro v hv) | refine depGo_skip rfl ?_ | refine depGo_none rfl ?_)); apply Pure1.mk; intro K hk; exact W_loadM (by first | rfl | assumption) (by assumption) (by rfl) hk)); (apply steps_cons; case h1 => (apply A_pure; intro c u H' w' hG; have hS' := hG.sub; have hS2' := hG.subOld; have hM0 := (c8).grow hG; have hM1 := (c9).grow hG; (repeat (first | refine depGo_eq rfl rfl rfl ?_ | (refine depGo_fact rfl rfl rfl ?_; intro v hv) | refine depGo_skip rfl ?_ | refine depGo_none rfl ?_)); apply Pure1.mk; intro K hk; exact W_moveSl (by first | rfl | assumption) hk)); (apply steps_cons; case h1 => (apply A_pure; intro c u H' w' hG; have hS' := hG.sub; have hS2' := hG.subOld; have hM0 := (c8).grow hG; have hM1 := (c9).grow hG; (repeat (first | refine depGo_eq rfl rfl rfl ?_ | (refine depGo_fact rfl rfl rfl ?_; intro v hv) | refine depGo_skip rfl ?_ | refine depGo_none rfl ?_)); apply Pure1.mk; intro K hk; exact W_loadHL (by first | rfl | assumption) (by assumption) (by rfl) (by assumption) hk)))
          (apply steps_cons; case h1 => (refine A_fact (φ := (fun v _ => v = .slice A2 (t.items.take n.toNat).length c2)) ?_; intro c' u H' w' hG; have hS' := hG.sub; (repeat (first | refine depGo_eq rfl rfl rfl ?_ | (refine depGo_fact rfl rfl rfl ?_; intro v hv) | refine depGo_skip rfl ?_ | refine depGo_none rfl ?_)); refine depGo_nil ?_; refine W_call hS' (by rfl) (first_c _ A2 c2 t.items n hc2 (by omega)) ?_; intro v H3 w3 hG3 hr; exact ⟨H3, hG3.le, hG.trans hG3, fun H'' hle => hr⟩))
          (apply steps_cons; case h1 => (refine A_fact (φ := (fun v _ => v = .bool true)) ?_; intro c' u H' w' hG; have hS' := hG.sub; (repeat (first | refine depGo_eq rfl rfl rfl ?_ | (refine depGo_fact rfl rfl rfl ?_; intro v hv) | refine depGo_skip rfl ?_ | refine depGo_none rfl ?_)); refine depGo_nil ?_; refine W_call hS' (by rfl) (same_c H' A1 A2 c1 c2 (t.items.take n.toNat) (t.items.take n.toNat) (SlAt.mono hsl1 hG.le) (EntsAt.take (hl2.mono hG.le) _) (by simp; omega)) ?_; intro v H3 w3 hG3 hr; exact ⟨H3, hG3.le, hG.trans hG3, fun H'' hle => (by rw [hr]; simp)⟩))
          ((apply steps_cons; case h1 => (apply A_pure; intro c u H' w' hG; have hS' := hG.sub; have hS2' := hG.subOld; have hM0 := (c8).grow hG; have hM1 := (c9).grow hG; (repeat (first | refine depGo_eq rfl rfl rfl ?_ | (refine depGo_fact rfl rfl rfl ?_; intro v hv) | refine depGo_skip rfl ?_ | refine depGo_none rfl ?_)); apply Pure1.mk; intro K hk; exact W_moveBool (by first | rfl | assumption) hk)); (apply steps_cons; case h1 => (apply A_want; intro c u H' w' hG; have hS' := hG.sub; have hS2' := hG.subOld; have hM0 := (c8).grow hG; have hM1 := (c9).grow hG; (repeat (first | refine depGo_eq rfl rfl rfl ?_ | (refine depGo_fact rfl rfl rfl ?_; intro v hv) | refine depGo_skip rfl ?_ | refine depGo_none rfl ?_)); apply Pure2.mk; (case want => rfl); intro K hk; exact W_loadM (by first | rfl | assumption) (by assumption) (by rfl) hk)); (apply steps_cons; case h1 => (apply A_want; intro c u H' w' hG; have hS' := hG.sub; have hS2' := hG.subOld; have hM0 := (c8).grow hG; have hM1 := (c9).grow hG; (repeat (first | refine depGo_eq rfl rfl rfl ?_ | (refine depGo_fact rfl rfl rfl ?_; intro v hv) | refine depGo_skip rfl ?_ | refine depGo_none rfl ?_)); apply Pure2.mk; (case want => rfl); intro K hk; exact W_moveSl (by first | rfl | assumption) hk)))
          (apply steps_cons; case h1 => (refine A_factG (φ := (fun v H => IsEnts v t.items.reverse H)) ?_; intro c' u H' w' hG; have hS' := hG.sub; (repeat (first | refine depGo_eq rfl rfl rfl ?_ | (refine depGo_fact rfl rfl rfl ?_; intro v hv) | refine depGo_skip rfl ?_ | refine depGo_none rfl ?_)); refine depGo_nil ⟨rfl, ?_⟩; refine W_call hS' (by rfl) (rBack_c H' A2 c2 t.items (hl2.mono hG.le) (by omega)) ?_; intro v H3 w3 hG3 hr; exact ⟨H3, hG3.le, hG.trans hG3, fun H'' hle => hr.mono hle⟩))
          ((apply steps_cons; case h1 => (apply A_want; intro c u H' w' hG; have hS' := hG.sub; have hS2' := hG.subOld; have hM0 := (c8).grow hG; have hM1 := (c9).grow hG; (repeat (first | refine depGo_eq rfl rfl rfl ?_ | (refine depGo_fact rfl rfl rfl ?_; intro v hv) | refine depGo_skip rfl ?_ | refine depGo_none rfl ?_)); apply Pure2.mk; (case want => rfl); intro K hk; exact W_loadHL (by first | rfl | assumption) (by assumption) (by rfl) (by assumption) hk)))
          (apply steps_cons; case h1 => (refine A_factG (φ := (fun v H => IsEnts v (t.items.reverse.take n.toNat) H)) ?_; intro c' u H' w' hG'; have hS' := hG'.sub; (repeat (first | refine depGo_eq rfl rfl rfl ?_ | (refine depGo_fact rfl rfl rfl ?_; intro v hv) | refine depGo_skip rfl ?_ | refine depGo_none rfl ?_)); obtain ⟨A5, c5, rfl, hc5, hl5⟩ := hv; refine depGo_nil ⟨rfl, ?_⟩; refine W_call hS' (by rfl) (first_c H' A5 c5 t.items.reverse n hc5 (by simp; omega)) ?_; intro v H3 w3 hG3 hr; exact ⟨H3, hG3.le, hG'.trans hG3, fun H'' hle => ⟨A5, c5, hr, Nat.le_trans (by simp; omega) hc5, ((EntsAt.take hl5 _).mono hG3.le).mono hle⟩⟩))
          (apply steps_cons; case h1 => (refine A_factG (φ := (fun v _ => v = .bool true)) ?_; intro c' u H' w' hG'; have hS' := hG'.sub; (repeat (first | refine depGo_eq rfl rfl rfl ?_ | (refine depGo_fact rfl rfl rfl ?_; intro v hv) | refine depGo_skip rfl ?_ | refine depGo_none rfl ?_)); obtain ⟨A6, c6, rfl, hc6, hl6⟩ := hv; refine depGo_nil ⟨rfl, ?_⟩; refine W_call hS' (by rfl) (same_c H' A3 A6 c3 c6 (t.items.reverse.take n.toNat) (t.items.reverse.take n.toNat) (SlAt.mono hsl3 hG'.le) hl6 (by simp; omega)) ?_; intro v H3 w3 hG3 hr; exact ⟨H3, hG3.le, hG'.trans hG3, fun H'' hle => (by rw [hr]; simp)⟩))
          ((apply steps_cons; case h1 => (apply A_pure; intro c u H' w' hG; have hS' := hG.sub; have hS2' := hG.subOld; have hM0 := (c8).grow hG; have hM1 := (c9).grow hG; (repeat (first | refine depGo_eq rfl rfl rfl ?_ | (refine depGo_fact rfl rfl rfl ?_; intro v hv) | refine depGo_skip rfl ?_ | refine depGo_none rfl ?_)); apply Pure1.mk; intro K hk; exact W_pickT (by first | rfl | assumption) (by first | rfl | assumption) hk)); (apply steps_cons; case h1 => (apply A_pure; intro c u H' w' hG; have hS' := hG.sub; have hS2' := hG.subOld; have hM0 := (c8).grow hG; have hM1 := (c9).grow hG; (repeat (first | refine depGo_eq rfl rfl rfl ?_ | (refine depGo_fact rfl rfl rfl ?_; intro v hv) | refine depGo_skip rfl ?_ | refine depGo_none rfl ?_)); apply Pure1.mk; intro K hk; exact W_assignBool (by first | rfl | assumption) hk)); exact trivial)
        · (intro H' w' hG; (repeat (first | refine fin_eq rfl rfl ?_ | (refine fin_fact rfl ?_; intro v hv) | refine fin_none rfl ?_)); refine fin_nil ?_)
          (refine CWD_ret ?_)
          replace hM := hM.grow hG
          replace hN := hN.grow hG
          refine FinD_two hM hN hne hG.sub fun w' hT => ?_
          exact ⟨_, ResW_one (v := .bool _) rfl, _, Turn.grow (hG0.trans hG) hT (by rintro b (rfl | rfl); exact hDw; exact hEw), rfl⟩
end Go.Proofs.Ytgaabmoknpifnaa
/- WalkFrom, walked. Conditions: sizes. -/
namespace Go.Proofs.Ytgaabmoknpifnaa
open Go.Proofs Go.RowKit
set_option linter.unusedVariables false
attribute [local irreducible] CW CWD SeqW OpW CallV
set_option maxHeartbeats 4000000
def upTo (k : ByteArray) (l : List Ent) : List Ent := l.filter fun e => !slt k e.key
theorem toL_eq (k : ByteArray) (l : List Ent) : toL k l = (upTo k l).reverse := rfl
theorem upTo_take {k : ByteArray} {l : List Ent} {i : Nat} (h : i < l.length) : upTo k (l.take (i + 1)) = upTo k (l.take i) ++ (if slt k (ent l i).key then [] else [ent l i]) := by
  have e : l[i] = ent l i := by simp [ent, h]
  rw [take_succ' h, upTo, List.filter_append, e]
  congr 1
  cases hs : slt k (ent l i).key <;> simp [hs]
theorem upTo_len (k : ByteArray) (l : List Ent) : (upTo k l).length ≤ l.length := List.length_filter_le _ _
theorem rBackFrom_c (H0 : HF) (A : Option Addr) (c : Nat) (l : List Ent) (k : ByteArray) (hl : EntsAt H0 A l) (hb : l.length ≤ 1000000) :
    Fn Try.prog 24 [.slice A l.length c, .string k] H0 fun v H' => IsEnts v (toL k l) H' := by
  refine Fn_of_CW Try.func24 rfl Try.ntmps24 Try.results24 rfl fun w0 hS => ?_; have hG := Grow.refl hS
  (refine CW_seq ?_; refine CW_region rfl ?_; refine S_op ?_; refine W_assignSl (by first | rfl | assumption) ?_; refine S_nil ?_; refine CW_seq ?_; refine CW_region rfl ?_; refine S_op ?_; refine W_assignSl (by first | rfl | assumption) ?_; refine S_nil ?_; refine CW_seq ?_; refine CW_seq ?_; refine CW_region rfl ?_; refine S_op ?_; refine W_moveSl (by first | rfl | assumption) ?_; refine S_op ?_; refine W_len (by first | rfl | assumption) ?_; refine S_op ?_; refine W_moveInt (by first | rfl | assumption) ?_; refine S_nil ?_; refine CW_block ?_)
  refine CW_loopM [5, 6, 9, 10, 11, 12, 13, 14, 15, 16, 17, 18, 19, 20, 21, 22, 23, 24, 25, 26]
    (fun m u w2 => ∃ (i : Nat) (A2 : Option Addr) (c2 : Nat) (H2 : HF), u 9 = .int .i64 (i : Int) ∧ u 5 = .slice A2 (upTo k (l.take i)).length c2 ∧ Grow H0 w0 H2 w2 ∧ Own H2 w2 w0.heap.size 32 2 A2 (upTo k (l.take i)).length c2 (entCells (upTo k (l.take i))) ∧ i ≤ l.length ∧ l.length - i ≤ m)
    (m := l.length) ⟨0, none, 0, H0, rfl, rfl, hG, Own.nil _ _ _ _ _, by omega, by omega⟩ ?_
  rintro m u w ⟨i, A2, c2, H, h9, h5, hG, hown, hi, hm⟩
  have hS := hG.sub
  replace hl := hl.mono hG.le
  have hfl : (upTo k (l.take i)).length ≤ 1000000 := Nat.le_trans (List.length_filter_le _ _) (by simp; omega)
  by_cases hlt : i < l.length
  · obtain ⟨b, off, hA, hrow⟩ := hl.some hlt
    have hft := upTo_take (k := k) hlt
    cases hk : slt k (ent l i).key with
    | true =>
      rw [hk] at hft
      have hle : (slt (ent l i).key k || decide ((ent l i).key = k)) = false := by rw [sle_eq, hk]; rfl
      have e : upTo k (l.take (i + 1)) = upTo k (l.take i) := by rw [hft]; simp
      (refine CW_seq ?_; refine CW_region rfl ?_; refine S_op ?_; refine W_lssT (by first | rfl | assumption) (by first | rfl | assumption) (by first | omega | rfl) ?_; refine S_nil ?_; refine CW_seq ?_; refine CW_true (by first | rfl | assumption) ?_; refine CW_skip ?_; refine CW_seq ?_; refine CW_block ?_; refine CW_seq ?_; refine CW_region rfl ?_; refine S_op ?_; refine W_moveInt (by first | rfl | assumption) ?_; refine S_op ?_; refine W_assignInt (by first | rfl | assumption) ?_; refine S_nil ?_; refine CW_seq ?_; refine CW_region rfl ?_; refine S_op ?_; refine W_moveSl (by first | rfl | assumption) ?_; refine S_op ?_; refine W_moveInt (by first | rfl | assumption) ?_; refine S_op ?_; refine W_index (by first | rfl | assumption) (by first | rfl | assumption) (by first | assumption | omega | decide) (by first | rfl | assumption) ?_; refine S_op ?_; refine W_field (by first | rfl | assumption) ?_; refine S_op ?_; refine W_loadKey (by first | rfl | assumption) (by assumption) (by first | assumption | omega) (by assumption) ?_; refine S_op ?_; refine W_moveStr (by first | rfl | assumption) ?_; refine S_op ?_; refine W_sleqB (by first | rfl | assumption) (by first | rfl | assumption) (by assumption) ?_; refine S_nil ?_; refine CW_false (by first | rfl | assumption) ?_; refine CW_skip ?_; refine CW_region rfl ?_; refine S_op ?_; refine W_add1 (by first | rfl | assumption) (by omega) ?_; refine S_op ?_; refine W_moveInt (by first | rfl | assumption) ?_; refine S_nil ?_)
      exact ⟨(by repeat (first | exact AgreeOff.over | refine AgreeOff.upd rfl ?_ | refine AgreeOff.over2 rfl ?_)), m - 1, by omega, i + 1, A2, c2, H, rfl, by rw [e]; exact h5, hG, by rw [e]; exact hown, by omega, by omega⟩
    | false =>
      rw [hk] at hft
      have hle : (slt (ent l i).key k || decide ((ent l i).key = k)) = true := by rw [sle_eq, hk]; rfl
      have e : upTo k (l.take (i + 1)) = upTo k (l.take i) ++ [ent l i] := by rw [hft]; simp
      have e2 : (upTo k (l.take (i + 1))).length = (upTo k (l.take i)).length + 1 := by rw [e]; simp
      (refine CW_seq ?_; refine CW_region rfl ?_; refine S_op ?_; refine W_lssT (by first | rfl | assumption) (by first | rfl | assumption) (by first | omega | rfl) ?_; refine S_nil ?_; refine CW_seq ?_; refine CW_true (by first | rfl | assumption) ?_; refine CW_skip ?_; refine CW_seq ?_; refine CW_block ?_; refine CW_seq ?_; refine CW_region rfl ?_; refine S_op ?_; refine W_moveInt (by first | rfl | assumption) ?_; refine S_op ?_; refine W_assignInt (by first | rfl | assumption) ?_; refine S_nil ?_; refine CW_seq ?_; refine CW_region rfl ?_; refine S_op ?_; refine W_moveSl (by first | rfl | assumption) ?_; refine S_op ?_; refine W_moveInt (by first | rfl | assumption) ?_; refine S_op ?_; refine W_index (by first | rfl | assumption) (by first | rfl | assumption) (by first | assumption | omega | decide) (by first | rfl | assumption) ?_; refine S_op ?_; refine W_field (by first | rfl | assumption) ?_; refine S_op ?_; refine W_loadKey (by first | rfl | assumption) (by assumption) (by first | assumption | omega) (by assumption) ?_; refine S_op ?_; refine W_moveStr (by first | rfl | assumption) ?_; refine S_op ?_; refine W_sleqB (by first | rfl | assumption) (by first | rfl | assumption) (by assumption) ?_; refine S_nil ?_; refine CW_true (by first | rfl | assumption) ?_; refine CW_region rfl ?_; refine S_op ?_; refine W_moveSl (by first | rfl | assumption) ?_; refine S_op ?_; refine W_moveSl (by first | rfl | assumption) ?_; refine S_op ?_; refine W_moveInt (by first | rfl | assumption) ?_; refine S_op ?_; refine W_index (by first | rfl | assumption) (by first | rfl | assumption) (by first | assumption | omega | decide) (by first | rfl | assumption) ?_; refine S_op ?_; refine W_loadEnt (by first | rfl | assumption) (by assumption) (by first | assumption | omega) (by assumption) ?_)
      refine S_op ?_
      refine W_build1 (sz := 2) (v := .agg #[.string (ent l i).key, .string (ent l i).val]) hS (by omega) (by rfl) (by rfl) ?_
      intro H w b hG' hb' _ _
      replace hG := hG.trans hG'
      replace hS := hG'.sub
      replace hl := hl.mono hG'.le
      replace hown := hown.grow hG'
      clear hG'
      refine S_op ?_
      refine W_append (news := entCells [ent l i]) (by rfl) (by rfl) hG hown ((SlAt.of_row hb').cells hS) (by rfl) (entCells_one _) (by decide) (by omega) (by omega) ?_
      intro A2 c2 w hG hown _ hA3
      clear hA3
      rw [← entCells_append] at hown
      replace hS := hG.sub
      rw [← e] at hown
      (refine S_op ?_; refine W_assignSl (by first | rfl | assumption) ?_; refine S_nil ?_; refine CW_region rfl ?_; refine S_op ?_; refine W_add1 (by first | rfl | assumption) (by omega) ?_; refine S_op ?_; refine W_moveInt (by first | rfl | assumption) ?_; refine S_nil ?_)
      exact ⟨(by repeat (first | exact AgreeOff.over | refine AgreeOff.upd rfl ?_ | refine AgreeOff.over2 rfl ?_)), m - 1, by omega, i + 1, A2, c2, H, rfl, by rw [e2]; rfl, hG, by rw [e2]; exact hown, by omega, by omega⟩
  · have hin : i = l.length := by omega
    subst hin
    rw [List.take_length] at h5 hown
    obtain ⟨H3, hle3, hG3, hsl3, _⟩ := hown.freeze hG
    have hcap := hown.cap
    have hS := hG3.sub
    (refine CW_seq ?_; refine CW_region rfl ?_; refine S_op ?_; refine W_lssF (by first | rfl | assumption) (by first | rfl | assumption) (by first | omega | rfl) ?_; refine S_nil ?_; refine CW_seq ?_; refine CW_false (by first | rfl | assumption) ?_; refine CW_exit ?_; refine CW_seq ?_; refine CW_region rfl ?_; refine S_op ?_; refine W_moveSl (by first | rfl | assumption) ?_)
    refine S_op ?_
    refine W_call hS (by rfl) (rBack_c H3 A2 c2 (upTo k l) hsl3 (by have := upTo_len k l; omega)) ?_
    rintro v H4 w4 hG4 ⟨A5, c5, rfl, hc5, hl5⟩
    replace hG := hG3.trans hG4
    (refine S_op ?_; refine W_assignSl (by first | rfl | assumption) ?_; refine S_nil ?_; refine CW_ret ?_)
    exact ⟨_, ResW_one (v := .slice _ _ _) rfl, H4, hG, A5, c5, by rw [toL_eq], hc5, by rw [toL_eq]; exact hl5⟩
/- gath(variable ;; others behind a call ;; others behind the append ;; others behind the store): the round's three operations -/
theorem walkFrom_c (H : HF) (A : Option Addr) (c : Nat) (l : List Ent) (k : ByteArray) (n : Int) (hl : EntsAt H A l) (hb : l.length ≤ 100000000000000) (hs : ∀ e ∈ l, e.key.size ≤ 150000000000000 ∧ e.val.size ≤ 150000000000000) (hk : k.size ≤ 150000000000000) :
    Fn Try.prog 5 [.slice A l.length c, .string k, .int .i64 n] H fun v _ => v = .bool true := by
  obtain ⟨H0, rfl⟩ : ∃ H0, H0 = H := ⟨_, rfl⟩
  refine Fn_of_CWD Try.func5 rfl Try.ntmps5 Try.results5 rfl fun w0 hS => ?_; have hS0 := hS; have hG := Grow.refl hS
  (refine CWD_seq ?_; refine CWD_region rfl ?_)
  (refine S_op (W_box1 hS (by rfl) (by first | rfl | assumption) ?_)); intro H w _ hG' h5b; replace hG := hG.trans hG'; replace hS := hG'.sub; replace hl := hl.mono hG'.le; clear hG'
  (refine S_op ?_; refine W_assignBool (by first | rfl | assumption) ?_; refine S_nil ?_; refine CWD_seq ?_; refine CWD_seq ?_; refine CWD_region rfl ?_)
  (refine S_op ?_; refine W_call hS (by rfl) (awake11_c _) ?_); rintro v H w hG' rfl; replace hG := hG.trans hG'; replace hS := hG'.sub; replace hl := hl.mono hG'.le; replace h5b := hG'.le _ _ h5b; clear hG'
  (refine S_op ?_; refine W_not (by first | rfl | assumption) ?_; refine S_nil ?_; refine CWD_false (by first | rfl | assumption) ?_; refine CWD_skip ?_; refine CWD_seq ?_; refine CWD_region rfl ?_; refine S_op ?_; refine W_moveSl (by first | rfl | assumption) ?_)
  (refine S_op ?_; refine W_call hS (by rfl) (built11_c _ A c l hl hb hs) ?_); rintro v H w hG' ⟨t, s, z, rfl, hz, hz0⟩; replace hG := hG.trans hG'; replace hS := hG'.sub; replace hl := hl.mono hG'.le; replace h5b := hG'.le _ _ h5b; clear hG'
  cases z with
  | false =>
    obtain ⟨rfl, rfl⟩ := hz0 rfl
    (refine S_op ?_; refine W_moveTup (by first | rfl | assumption) ?_; refine S_op ?_; refine W_extract (by first | rfl | assumption) (by rfl) ?_; refine S_op ?_; refine W_extract (by first | rfl | assumption) (by rfl) ?_; refine S_op ?_; refine W_extract (by first | rfl | assumption) (by rfl) ?_; refine S_op ?_; refine W_assignPtr (by first | rfl | assumption) ?_; refine S_op ?_; refine W_assignSl (by first | rfl | assumption) ?_; refine S_op ?_; refine W_assignBool (by first | rfl | assumption) ?_; refine S_nil ?_; refine CWD_seq ?_; refine CWD_seq ?_; refine CWD_region rfl ?_; refine S_op ?_; refine W_moveBool (by first | rfl | assumption) ?_; refine S_op ?_; refine W_not (by first | rfl | assumption) ?_; refine S_op ?_; refine W_moveBool (by first | rfl | assumption) ?_; refine S_pass (by rfl) ?_; refine S_pass (by rfl) ?_; refine S_op ?_; refine W_pickT (by first | rfl | assumption) (by first | rfl | assumption) ?_; refine S_op ?_; refine W_moveBool (by first | rfl | assumption) ?_; refine S_pass (by rfl) ?_; refine S_pass (by rfl) ?_; refine S_pass (by rfl) ?_; refine S_op ?_; refine W_pickT (by first | rfl | assumption) (by first | rfl | assumption) ?_; refine S_nil ?_; refine CWD_true (by first | rfl | assumption) ?_; refine CWD_seq ?_; refine CWD_region rfl ?_; refine S_op ?_; refine W_assignBool (by first | rfl | assumption) ?_; refine S_nil ?_; refine CWD_ret ?_)
    exact FinD_nil ⟨_, ResW_one (v := .bool _) rfl, H, hG, rfl⟩
  | true =>
    obtain ⟨ht, ⟨A2, c2, rfl, hc2, hl2⟩, h150⟩ := hz rfl
    clear hz hz0 hl
    by_cases hn : n < 1
    · (refine S_op ?_; refine W_moveTup (by first | rfl | assumption) ?_; refine S_op ?_; refine W_extract (by first | rfl | assumption) (by rfl) ?_; refine S_op ?_; refine W_extract (by first | rfl | assumption) (by rfl) ?_; refine S_op ?_; refine W_extract (by first | rfl | assumption) (by rfl) ?_; refine S_op ?_; refine W_assignPtr (by first | rfl | assumption) ?_; refine S_op ?_; refine W_assignSl (by first | rfl | assumption) ?_; refine S_op ?_; refine W_assignBool (by first | rfl | assumption) ?_; refine S_nil ?_; refine CWD_seq ?_; refine CWD_seq ?_; refine CWD_region rfl ?_; refine S_op ?_; refine W_moveBool (by first | rfl | assumption) ?_; refine S_op ?_; refine W_not (by first | rfl | assumption) ?_; refine S_op ?_; refine W_moveBool (by first | rfl | assumption) ?_; refine S_want (by rfl) ?_; refine W_loadHL (by first | rfl | assumption) (by assumption) (by rfl) (by assumption) ?_; refine S_want (by rfl) ?_; refine W_lssT (by first | rfl | assumption) (by first | rfl | assumption) (by first | omega | rfl) ?_; refine S_op ?_; refine W_pickF (by first | rfl | assumption) (by first | rfl | assumption) ?_; refine S_op ?_; refine W_moveBool (by first | rfl | assumption) ?_; refine S_pass (by rfl) ?_; refine S_pass (by rfl) ?_; refine S_pass (by rfl) ?_; refine S_op ?_; refine W_pickT (by first | rfl | assumption) (by first | rfl | assumption) ?_; refine S_nil ?_; refine CWD_true (by first | rfl | assumption) ?_; refine CWD_seq ?_; refine CWD_region rfl ?_; refine S_op ?_; refine W_assignBool (by first | rfl | assumption) ?_; refine S_nil ?_; refine CWD_ret ?_)
      exact FinD_nil ⟨_, ResW_one (v := .bool _) rfl, H, hG, rfl⟩
    by_cases hbk : 2000 < k.size
    · (refine S_op ?_; refine W_moveTup (by first | rfl | assumption) ?_; refine S_op ?_; refine W_extract (by first | rfl | assumption) (by rfl) ?_; refine S_op ?_; refine W_extract (by first | rfl | assumption) (by rfl) ?_; refine S_op ?_; refine W_extract (by first | rfl | assumption) (by rfl) ?_; refine S_op ?_; refine W_assignPtr (by first | rfl | assumption) ?_; refine S_op ?_; refine W_assignSl (by first | rfl | assumption) ?_; refine S_op ?_; refine W_assignBool (by first | rfl | assumption) ?_; refine S_nil ?_; refine CWD_seq ?_; refine CWD_seq ?_; refine CWD_region rfl ?_; refine S_op ?_; refine W_moveBool (by first | rfl | assumption) ?_; refine S_op ?_; refine W_not (by first | rfl | assumption) ?_; refine S_op ?_; refine W_moveBool (by first | rfl | assumption) ?_; refine S_want (by rfl) ?_; refine W_loadHL (by first | rfl | assumption) (by assumption) (by rfl) (by assumption) ?_; refine S_want (by rfl) ?_; refine W_lssF (by first | rfl | assumption) (by first | rfl | assumption) (by first | omega | rfl) ?_; refine S_op ?_; refine W_pickF (by first | rfl | assumption) (by first | rfl | assumption) ?_; refine S_op ?_; refine W_moveBool (by first | rfl | assumption) ?_; refine S_want (by rfl) ?_; refine W_moveStr (by first | rfl | assumption) ?_; refine S_want (by rfl) ?_; refine W_lenS (by first | rfl | assumption) ?_; refine S_want (by rfl) ?_; refine W_gtrT (by first | rfl | assumption) (by first | rfl | assumption) (by first | omega | rfl) ?_; refine S_op ?_; refine W_pickF (by first | rfl | assumption) (by first | rfl | assumption) ?_; refine S_nil ?_; refine CWD_true (by first | rfl | assumption) ?_; refine CWD_seq ?_; refine CWD_region rfl ?_; refine S_op ?_; refine W_assignBool (by first | rfl | assumption) ?_; refine S_nil ?_; refine CWD_ret ?_)
      exact FinD_nil ⟨_, ResW_one (v := .bool _) rfl, H, hG, rfl⟩
    have hfl : (fromL k t.items).length ≤ 150 := Nat.le_trans (List.length_filter_le _ _) h150
    have htl : (toL k t.items).length ≤ 150 := by rw [toL_eq, List.length_reverse]; exact Nat.le_trans (upTo_len _ _) h150
    (refine S_op ?_; refine W_moveTup (by first | rfl | assumption) ?_; refine S_op ?_; refine W_extract (by first | rfl | assumption) (by rfl) ?_; refine S_op ?_; refine W_extract (by first | rfl | assumption) (by rfl) ?_; refine S_op ?_; refine W_extract (by first | rfl | assumption) (by rfl) ?_; refine S_op ?_; refine W_assignPtr (by first | rfl | assumption) ?_; refine S_op ?_; refine W_assignSl (by first | rfl | assumption) ?_; refine S_op ?_; refine W_assignBool (by first | rfl | assumption) ?_; refine S_nil ?_; refine CWD_seq ?_; refine CWD_seq ?_; refine CWD_region rfl ?_; refine S_op ?_; refine W_moveBool (by first | rfl | assumption) ?_; refine S_op ?_; refine W_not (by first | rfl | assumption) ?_; refine S_op ?_; refine W_moveBool (by first | rfl | assumption) ?_; refine S_want (by rfl) ?_; refine W_loadHL (by first | rfl | assumption) (by assumption) (by rfl) (by assumption) ?_; refine S_want (by rfl) ?_; refine W_lssF (by first | rfl | assumption) (by first | rfl | assumption) (by first | omega | rfl) ?_; refine S_op ?_; refine W_pickF (by first | rfl | assumption) (by first | rfl | assumption) ?_; refine S_op ?_; refine W_moveBool (by first | rfl | assumption) ?_; refine S_want (by rfl) ?_; refine W_moveStr (by first | rfl | assumption) ?_; refine S_want (by rfl) ?_; refine W_lenS (by first | rfl | assumption) ?_; refine S_want (by rfl) ?_; refine W_gtrF (by first | rfl | assumption) (by first | rfl | assumption) (by first | omega | rfl) ?_; refine S_op ?_; refine W_pickF (by first | rfl | assumption) (by first | rfl | assumption) ?_; refine S_nil ?_; refine CWD_false (by first | rfl | assumption) ?_; refine CWD_skip ?_; refine CWD_seq ?_; refine CWD_region rfl ?_)
    (refine S_op (W_alloc hS ?_)); intro w c8b hG' c8h c8; replace c8h := Nat.le_trans hG.below.size (Nat.le_of_eq c8h); replace hG := hG.trans hG'; replace hS := hG'.sub; clear hG'
    skip
    (refine S_op (W_alloc hS ?_)); intro w c9b hG' c9h c9; have n_c8_c9 : c8b ≠ c9b := (by have h1 := c8.lt; omega); replace c9h := Nat.le_trans hG.below.size (Nat.le_of_eq c9h); replace hG := hG.trans hG'; replace hS := hG'.sub; replace c8 := c8.grow hG'; clear hG'
    (refine S_nil ?_; refine CWD_seq ?_; refine CWD_seq ?_; refine CWD_region rfl ?_; refine S_op ?_; refine W_movePtr (by first | rfl | assumption) ?_; refine S_op ?_; refine W_moveStr (by first | rfl | assumption) ?_)
    (refine S_op ?_; refine W_call hS (by rfl) (from_c H t k ht.at_) ?_); rintro v H w hG' hv; replace hG := hG.trans hG'; replace hS := hG'.sub; replace ht := ht.mono hG'.le; replace hl2 := hl2.mono hG'.le; replace h5b := hG'.le _ _ h5b; replace c8 := c8.grow hG'; replace c9 := c9.grow hG'; clear hG'
    obtain ⟨gf, lb, hfc, rfl, hit⟩ := hv
    (refine S_nil ?_; refine CWD_block ?_)
    refine CWD_rangeExit (S := fun _ => False) (Gath H0 w0 H 32 c8b [c9b] n False (fun H2 w2 => Mut H2 w2 c9b [.slice none 0 0])) (Gath H0 w0 H 32 c8b [c9b] n True (fun H2 w2 => Mut H2 w2 c9b [.slice none 0 0]))
      (Gath.good ?_) (Gath.good ?_).stable ⟨hG, fun _ h => h.elim, ?_, none, 0, 0, Own.nil _ _ _ _ _, (fun _ h => by cases h), HLe.refl _, c8, rfl, (fun _ h => by cases h), by simp; omega, by simp; omega, c9⟩ rfl hS (fun _ => rfl) (by decide) (fun w1 _ => hit H w1 (HLe.refl _)) (fun _ h => h.elim) ?_ ?_
    · exact fun S _ H w H' w' hs hT h => h.turn hT (hs _ (by simp))
    · exact fun S _ H w H' w' hs hT h => h.turn hT (hs _ (by simp))
    · intro b hb
      simp at hb
      rcases hb with rfl | rfl
      · exact ⟨fun h => h, c8.lt⟩
      · exact ⟨fun h => h, c9.lt⟩
    · intro l x W
      (refine CW_seq ?_; refine CW_region rfl ?_; refine S_op ?_; refine W_assignStr (by first | rfl | assumption) ?_; refine S_nil ?_; refine CW_region rfl ?_; refine S_op ?_; refine W_assignStr (by first | rfl | assumption) ?_; refine S_nil ?_)
      refine ⟨rfl, ?_⟩
      clear c8 c9 hG hS
      rintro l X pre rest H W hx hS ⟨hGw, hXs, hbs, A, m, c, hown, hXA, hle, c8, rfl, hA8, hpm, hpf, c9⟩ _
      obtain ⟨bs, hbsd⟩ : ∃ bs, bs = [c8b, c9b] := ⟨_, rfl⟩
      rw [← hbsd] at hbs hA8
      skip
      replace h5b := hle _ _ h5b
      have hpl : pre.length < 1000000 := by have := congrArg List.length hx; simp at this; omega
      have hpn : (pre.length : Int) < n := by
        rcases Int.lt_or_eq_of_le hpm with h | h
        · exact h
        · exact (hpf.1 h).elim
      have hG := hGw
      have hrow : ∀ b' ∈ bs, (Value.slice A pre.length c).ownBlock ≠ some b' := by
        intro b' hb' e
        cases A with
        | none => simp [Value.ownBlock] at e
        | some a => simp [Value.ownBlock] at e; exact hA8 a rfl (by rw [e]; exact hb')
      (refine CW_block ?_; refine CW_seq ?_; refine CW_region rfl ?_; refine S_op ?_; refine W_loadM (by first | rfl | assumption) (by assumption) (by rfl) ?_; refine S_op ?_; refine W_moveStr (by first | rfl | assumption) ?_; refine S_op ?_; refine W_moveStr (by first | rfl | assumption) ?_; refine S_op ?_; refine W_build (by rfl) ?_)
      refine S_op ?_
      refine W_build1 (sz := 2) (v := .agg #[.string x.key, .string x.val]) hS (by omega) (by rfl) (by rfl) ?_
      intro H2 w2 b hG' hb' _ _
      have hT := hG'.turn (S := notIn X)
      have hsz2 := hG'.below.size
      replace hG := hG.trans hG'
      replace hS := hG'.sub
      replace hown := hown.grow hG'
      replace hle := hle.trans hG'.le
      replace h5b := hG'.le _ _ h5b
      replace c8 := c8.grow hG'
      replace c9 := c9.grow hG'
      clear hG'
      refine S_op ?_
      refine W_append (news := entCells [x]) (by rfl) (by rfl) hG hown ((SlAt.of_row hb').cells hS) (by rfl) (entCells_one _) (by decide) (by omega) (by omega) ?_
      intro A2 c2 w3 hG2 hown2 hgb hA2
      rw [← entCells_append] at hown2
      replace c8 := c8.other hgb (hrow _ (by simp [hbsd]))
      replace c9 := c9.other hgb (hrow _ (by simp [hbsd]))
      replace hT := hT.grownBy hgb (fun g h => by
        cases A with
        | none => simp [Value.ownBlock] at h
        | some a => simp [Value.ownBlock] at h; subst h; exact ⟨hown.out a rfl, .inr (hXA a rfl)⟩)
      have hn2 : ∀ a, A2 = some a → a.block ∉ bs := by
        intro a ha
        rcases hA2 with ⟨rfl, _⟩ | ⟨g, rfl, hg⟩
        · exact hA8 a ha
        · cases ha
          intro hin
          have := (hbs g hin).2
          omega
      have hX2 : ∀ a, A2 = some a → ¬ X a.block := by
        intro a ha h
        rcases hA2 with ⟨rfl, _⟩ | ⟨g, rfl, hg⟩
        · exact hXA a ha h
        · cases ha; have := (hXs g h).2; omega
      replace hG := hG2
      replace hS := hG2.sub
      skip
      (refine S_op0 (W_storeM (o := 0) (vs := [.slice A2 (pre.length + 1) c2]) (by rfl) (by rfl) c8 (by rfl) (OneCells.of_all (by rfl)) (by rfl) (Nat.le_of_ble_eq_true (by rfl)) ?_)); intro w hgb' hm'; replace hG := hG.grownBy hgb' (fun g h => by cases h; exact ⟨c8.out, c8h⟩); replace hS := hG.sub; replace c8 : Mut _ w c8b ([.slice A2 (pre.length + 1) c2]) := hm'; clear hm'; skip
      replace hT := hT.grownBy hgb' (fun g h => by cases h; exact ⟨c8.out, .inr (hbs _ (by simp [hbsd])).1⟩)
      replace hown2 := hown2.other hgb' (fun a ha e => hn2 a ha (by rw [Option.some.inj e]; simp [hbsd]))
      replace c9 := c9.other hgb' (by intro e2; cases e2; exact n_c8_c9 rfl)
      have hl1 : (pre ++ [x]).length = pre.length + 1 := by simp
      rw [← hl1] at hown2
      have hXs5 : ∀ j, X j → w0.heap.size ≤ j ∧ j < w.heap.size := fun j hj => ⟨(hXs j hj).1, Nat.lt_of_lt_of_le (hXs j hj).2 hT.size⟩
      have hbs5 : ∀ b ∈ bs, ¬ X b ∧ b < w.heap.size := fun b hb => ⟨(hbs b hb).1, Nat.lt_of_lt_of_le (hbs b hb).2 hT.size⟩
      rw [hbsd] at hbs5 hn2
      by_cases hend : ((pre.length + 1 : Nat) : Int) = n
      · (refine S_nil ?_; refine CW_seq ?_; refine CW_region rfl ?_; refine S_op ?_; refine W_loadM (by first | rfl | assumption) (by assumption) (by rfl) ?_; refine S_op ?_; refine W_len (by first | rfl | assumption) ?_; refine S_op ?_; refine W_loadHL (by first | rfl | assumption) (by assumption) (by rfl) (by assumption) ?_; refine S_op ?_; refine W_eqlT (by first | rfl | assumption) (by first | rfl | assumption) (by first | omega | rfl) ?_; refine S_nil ?_; refine CW_true (by first | rfl | assumption) ?_; refine CW_exit ?_; refine xblk_miss rfl ?_)
        exact ⟨H2, hT, rfl, hG, hXs5, hbs5, A2, _, c2, hown2, hX2, hle, by rw [hl1]; exact c8, rfl, hn2, by rw [hl1]; omega, ⟨fun _ => trivial, fun _ => by rw [hl1]; exact hend⟩, c9⟩
      · (refine S_nil ?_; refine CW_seq ?_; refine CW_region rfl ?_; refine S_op ?_; refine W_loadM (by first | rfl | assumption) (by assumption) (by rfl) ?_; refine S_op ?_; refine W_len (by first | rfl | assumption) ?_; refine S_op ?_; refine W_loadHL (by first | rfl | assumption) (by assumption) (by rfl) (by assumption) ?_; refine S_op ?_; refine W_eqlF (by first | rfl | assumption) (by first | rfl | assumption) (by first | omega | rfl) ?_; refine S_nil ?_; refine CW_false (by first | rfl | assumption) ?_; refine CW_skip ?_)
        exact ⟨H2, hT, hG, hXs5, hbs5, A2, _, c2, hown2, hX2, hle, by rw [hl1]; exact c8, rfl, hn2, by rw [hl1]; omega, ⟨fun h => hend (by rw [← hl1]; exact h), False.elim⟩, c9⟩
    · clear c8 c9 hG hS
      rintro D X H w hD hM hS hle' hXD hend
      obtain ⟨A1, c1, hG, hXw, hbX, hown, hle, c8, hA1, c9⟩ := Gath.end_ (by omega) hend
      have hDw := hXw D hXD
      obtain ⟨H1, hle1, hG1, hsl1, hoth⟩ := hown.freeze hG
      replace c8 : Mut H1 w c8b _ := ⟨(hoth c8b (fun a ha e => (hA1 a ha).1 (by rw [← e]; simp))).trans c8.out, c8.at_⟩
      replace c9 : Mut H1 w c9b _ := ⟨(hoth c9b (fun a ha e => (hA1 a ha).1 (by rw [← e]; simp))).trans c9.out, c9.at_⟩
      replace hM : MarkAt H1 w D := ⟨(hoth D (fun a ha e => (hA1 a ha).2 (by rw [← e]; exact hXD))).trans hM.out, hM.at_⟩
      replace hle := hle.trans hle1
      replace ht := ht.mono hle
      replace hl2 := hl2.mono hle
      replace h5b := hle _ _ h5b
      replace hG := hG1
      replace hS := hG.sub
      have hcap := hown.cap
      have h8D := hM.ne c8
      have h9D := hM.ne c9
      clear hown hit hle hle' hle1 hoth hend hA1 hbX hG1
      (refine CWD_seq ?_; refine CWD_seq ?_; refine CWD_region rfl ?_; refine S_op ?_; refine W_movePtr (by first | rfl | assumption) ?_; refine S_op ?_; refine W_moveStr (by first | rfl | assumption) ?_)
      (refine S_op ?_; refine W_call hS (by rfl) (backFrom_c H1 t k ht.at_) ?_); rintro v H w hG' hv; replace hG := hG.trans hG'; replace hS := hG'.sub; replace ht := ht.mono hG'.le; replace hl2 := hl2.mono hG'.le; replace hsl1 := hsl1.mono hG'.le; replace h5b := hG'.le _ _ h5b; replace c8 := c8.grow hG'; replace c9 := c9.grow hG'; replace hM := hM.grow hG'; clear hG'
      obtain ⟨gf2, lb2, hfc2, rfl, hit2⟩ := hv
      (refine S_nil ?_; refine CWD_block ?_)
      refine CWD_rangeExit (S := fun _ => False) (Gath H0 w0 H 32 c9b [c8b, D] n False (fun H2 w2 => Mut H2 w2 c8b [.slice A1 ((fromL k t.items).take n.toNat).length c1] ∧ MarkAt H2 w2 D)) (Gath H0 w0 H 32 c9b [c8b, D] n True (fun H2 w2 => Mut H2 w2 c8b [.slice A1 ((fromL k t.items).take n.toNat).length c1] ∧ MarkAt H2 w2 D))
        (Gath.good ?_) (Gath.good ?_).stable ⟨hG, fun _ h => h.elim, ?_, none, 0, 0, Own.nil _ _ _ _ _, (fun _ h => by cases h), HLe.refl _, c9, rfl, (fun _ h => by cases h), by simp; omega, by simp; omega, c8, hM⟩ rfl hS (fun _ => rfl) (by decide) (fun w1 _ => hit2 H w1 (HLe.refl _)) (fun _ h => h.elim) ?_ ?_
      · exact fun S _ H w H' w' hs hT h => ⟨h.1.turn hT (hs _ (by simp)), h.2.turn hT (hs _ (by simp))⟩
      · exact fun S _ H w H' w' hs hT h => ⟨h.1.turn hT (hs _ (by simp)), h.2.turn hT (hs _ (by simp))⟩
      · intro b hb
        simp at hb
        rcases hb with rfl | rfl | rfl
        · exact ⟨fun h => h, c9.lt⟩
        · exact ⟨fun h => h, c8.lt⟩
        · exact ⟨fun h => h, hM.lt⟩
      · intro l x W
        (refine CW_seq ?_; refine CW_region rfl ?_; refine S_op ?_; refine W_assignStr (by first | rfl | assumption) ?_; refine S_nil ?_; refine CW_region rfl ?_; refine S_op ?_; refine W_assignStr (by first | rfl | assumption) ?_; refine S_nil ?_)
        refine ⟨rfl, ?_⟩
        clear c8 c9 hM hG hS
        rintro l X pre rest H W hx hS ⟨hGw, hXs, hbs, A, m, c, hown, hXA, hle, c9, rfl, hA8, hpm, hpf, c8, hM⟩ _
        obtain ⟨bs, hbsd⟩ : ∃ bs, bs = [c9b, c8b, D] := ⟨_, rfl⟩
        rw [← hbsd] at hbs hA8
        skip
        replace h5b := hle _ _ h5b
        have hpl : pre.length < 1000000 := by have := congrArg List.length hx; simp at this; omega
        have hpn : (pre.length : Int) < n := by
          rcases Int.lt_or_eq_of_le hpm with h | h
          · exact h
          · exact (hpf.1 h).elim
        have hG := hGw
        have hrow : ∀ b' ∈ bs, (Value.slice A pre.length c).ownBlock ≠ some b' := by
          intro b' hb' e
          cases A with
          | none => simp [Value.ownBlock] at e
          | some a => simp [Value.ownBlock] at e; exact hA8 a rfl (by rw [e]; exact hb')
        (refine CW_block ?_; refine CW_seq ?_; refine CW_region rfl ?_; refine S_op ?_; refine W_loadM (by first | rfl | assumption) (by assumption) (by rfl) ?_; refine S_op ?_; refine W_moveStr (by first | rfl | assumption) ?_; refine S_op ?_; refine W_moveStr (by first | rfl | assumption) ?_; refine S_op ?_; refine W_build (by rfl) ?_)
        refine S_op ?_
        refine W_build1 (sz := 2) (v := .agg #[.string x.key, .string x.val]) hS (by omega) (by rfl) (by rfl) ?_
        intro H2 w2 b hG' hb' _ _
        have hT := hG'.turn (S := notIn X)
        have hsz2 := hG'.below.size
        replace hG := hG.trans hG'
        replace hS := hG'.sub
        replace hown := hown.grow hG'
        replace hle := hle.trans hG'.le
        replace h5b := hG'.le _ _ h5b
        replace c9 := c9.grow hG'
        (replace c8 := c8.grow hG'; replace hM := hM.grow hG')
        clear hG'
        refine S_op ?_
        refine W_append (news := entCells [x]) (by rfl) (by rfl) hG hown ((SlAt.of_row hb').cells hS) (by rfl) (entCells_one _) (by decide) (by omega) (by omega) ?_
        intro A2 c2 w3 hG2 hown2 hgb hA2
        rw [← entCells_append] at hown2
        replace c9 := c9.other hgb (hrow _ (by simp [hbsd]))
        (replace c8 := c8.other hgb (hrow _ (by simp [hbsd])); replace hM := hM.other hgb (hrow _ (by simp [hbsd])))
        replace hT := hT.grownBy hgb (fun g h => by
          cases A with
          | none => simp [Value.ownBlock] at h
          | some a => simp [Value.ownBlock] at h; subst h; exact ⟨hown.out a rfl, .inr (hXA a rfl)⟩)
        have hn2 : ∀ a, A2 = some a → a.block ∉ bs := by
          intro a ha
          rcases hA2 with ⟨rfl, _⟩ | ⟨g, rfl, hg⟩
          · exact hA8 a ha
          · cases ha
            intro hin
            have := (hbs g hin).2
            omega
        have hX2 : ∀ a, A2 = some a → ¬ X a.block := by
          intro a ha h
          rcases hA2 with ⟨rfl, _⟩ | ⟨g, rfl, hg⟩
          · exact hXA a ha h
          · cases ha; have := (hXs g h).2; omega
        replace hG := hG2
        replace hS := hG2.sub
        skip
        (refine S_op0 (W_storeM (o := 0) (vs := [.slice A2 (pre.length + 1) c2]) (by rfl) (by rfl) c9 (by rfl) (OneCells.of_all (by rfl)) (by rfl) (Nat.le_of_ble_eq_true (by rfl)) ?_)); intro w hgb' hm'; replace hG := hG.grownBy hgb' (fun g h => by cases h; exact ⟨c9.out, c9h⟩); replace hS := hG.sub; replace c9 : Mut _ w c9b ([.slice A2 (pre.length + 1) c2]) := hm'; clear hm'; skip
        replace hT := hT.grownBy hgb' (fun g h => by cases h; exact ⟨c9.out, .inr (hbs _ (by simp [hbsd])).1⟩)
        replace hown2 := hown2.other hgb' (fun a ha e => hn2 a ha (by rw [Option.some.inj e]; simp [hbsd]))
        (replace c8 := c8.other hgb' (by intro e2; cases e2; exact n_c8_c9 rfl); replace hM := hM.other hgb' (fun e => h9D (Option.some.inj e)))
        have hl1 : (pre ++ [x]).length = pre.length + 1 := by simp
        rw [← hl1] at hown2
        have hXs5 : ∀ j, X j → w0.heap.size ≤ j ∧ j < w.heap.size := fun j hj => ⟨(hXs j hj).1, Nat.lt_of_lt_of_le (hXs j hj).2 hT.size⟩
        have hbs5 : ∀ b ∈ bs, ¬ X b ∧ b < w.heap.size := fun b hb => ⟨(hbs b hb).1, Nat.lt_of_lt_of_le (hbs b hb).2 hT.size⟩
        rw [hbsd] at hbs5 hn2
        by_cases hend : ((pre.length + 1 : Nat) : Int) = n
        · (refine S_nil ?_; refine CW_seq ?_; refine CW_region rfl ?_; refine S_op ?_; refine W_loadM (by first | rfl | assumption) (by assumption) (by rfl) ?_; refine S_op ?_; refine W_len (by first | rfl | assumption) ?_; refine S_op ?_; refine W_loadHL (by first | rfl | assumption) (by assumption) (by rfl) (by assumption) ?_; refine S_op ?_; refine W_eqlT (by first | rfl | assumption) (by first | rfl | assumption) (by first | omega | rfl) ?_; refine S_nil ?_; refine CW_true (by first | rfl | assumption) ?_; refine CW_exit ?_; refine xblk_miss rfl ?_)
          exact ⟨H2, hT, rfl, hG, hXs5, hbs5, A2, _, c2, hown2, hX2, hle, by rw [hl1]; exact c9, rfl, hn2, by rw [hl1]; omega, ⟨fun _ => trivial, fun _ => by rw [hl1]; exact hend⟩, c8, hM⟩
        · (refine S_nil ?_; refine CW_seq ?_; refine CW_region rfl ?_; refine S_op ?_; refine W_loadM (by first | rfl | assumption) (by assumption) (by rfl) ?_; refine S_op ?_; refine W_len (by first | rfl | assumption) ?_; refine S_op ?_; refine W_loadHL (by first | rfl | assumption) (by assumption) (by rfl) (by assumption) ?_; refine S_op ?_; refine W_eqlF (by first | rfl | assumption) (by first | rfl | assumption) (by first | omega | rfl) ?_; refine S_nil ?_; refine CW_false (by first | rfl | assumption) ?_; refine CW_skip ?_)
          exact ⟨H2, hT, hG, hXs5, hbs5, A2, _, c2, hown2, hX2, hle, by rw [hl1]; exact c9, rfl, hn2, by rw [hl1]; omega, ⟨fun h => hend (by rw [← hl1]; exact h), False.elim⟩, c8, hM⟩
      · clear c8 c9 hM hG hS
        rintro E X H w hE hN hS hle' hXE hend
        obtain ⟨A3, c3, hG, hXw, hbX, hown, hle, c9, hA1, c8, hM⟩ := Gath.end_ (by omega) hend
        have hEw := hXw E hXE
        have hne : E ≠ D := fun e => hbX D (by simp) (by rw [← e]; exact hXE)
        obtain ⟨H1, hle1, hG1, hsl3, hoth⟩ := hown.freeze hG
        replace c8 : Mut H1 w c8b _ := ⟨(hoth c8b (fun a ha e => (hA1 a ha).1 (by rw [← e]; simp))).trans c8.out, c8.at_⟩
        replace c9 : Mut H1 w c9b _ := ⟨(hoth c9b (fun a ha e => (hA1 a ha).1 (by rw [← e]; simp))).trans c9.out, c9.at_⟩
        replace hM : MarkAt H1 w D := ⟨(hoth D (fun a ha e => (hA1 a ha).1 (by rw [← e]; simp))).trans hM.out, hM.at_⟩
        replace hN : MarkAt H1 w E := ⟨(hoth E (fun a ha e => (hA1 a ha).2 (by rw [← e]; exact hXE))).trans hN.out, hN.at_⟩
        replace hle := hle.trans hle1
        replace ht := ht.mono hle
        replace hl2 := hl2.mono hle
        replace hsl1 := hsl1.mono hle
        replace h5b := hle _ _ h5b
        replace hG := hG1
        replace hS := hG.sub
        have hcap3 := hown.cap
        clear hown hit2 hle hle' hle1 hoth hend hA1 hbX hG1
        (refine CWD_seq ?_)
        have hG0 := hG
        apply CWD_region_grow [_, _, _, _, _, _, _, _, _, _, _, _, _, _, _, _, _] [none, none, none, none, none, none, none, none, none, none, none, none, none, none, none, none, none] [some 65, some 66, some 67, some 68, some 69, some 70, some 71, some 72, some 73, some 74, some 75, some 76, some 77, some 78, some 79, some 80, some 6] [65, 66, 67, 68, 69, 70, 71, 72, 73, 74, 75, 76, 77, 78, 79, 80, 6] mixed rfl rfl rfl rfl (by decide) rfl (by assumption)
        · ((apply steps_cons; case h1 => (apply A_pure; intro c u H' w' hG; have hS' := hG.sub; have hS2' := hG.subOld; have hM0 := (c8).grow hG; have hM1 := (c9).grow hG; (repeat (first | refine depGo_eq rfl rfl rfl ?_ | (refine depGo_fact rfl rfl rfl ?_; intro v hv) | refine depGo_skip rfl ?_ | refine depGo_none rfl ?_)); apply Pure1.mk; intro K hk; exact W_loadM (by first | rfl | assumption) (by assumption) (by rfl) hk)); (apply steps_cons; case h1 => (apply A_pure; intro c u H' w' hG; have hS' := hG.sub; have hS2' := hG.subOld; have hM0 := (c8).grow hG; have hM1 := (c9).grow hG; (repeat (first | refine depGo_eq rfl rfl rfl ?_ | (refine depGo_fact rfl rfl rfl ?_; intro v hv) | refine depGo_skip rfl ?_ | refine depGo_none rfl ?_)); apply Pure1.mk; intro K hk; exact W_moveSl (by first | rfl | assumption) hk)); (apply steps_cons; case h1 => (apply A_pure; intro c u H' w' hG; have hS' := hG.sub; have hS2' := hG.subOld; have hM0 := (c8).grow hG; have hM1 := (c9).grow hG; (repeat (first | refine depGo_eq rfl rfl rfl ?_ | (refine depGo_fact rfl rfl rfl ?_; intro v hv) | refine depGo_skip rfl ?_ | refine depGo_none rfl ?_)); apply Pure1.mk; intro K hk; exact W_moveStr (by first | rfl | assumption) hk)))
          (apply steps_cons; case h1 => (refine A_fact (φ := (fun v H => IsEnts v (fromL k t.items) H)) ?_; intro c' u H' w' hG; have hS' := hG.sub; (repeat (first | refine depGo_eq rfl rfl rfl ?_ | (refine depGo_fact rfl rfl rfl ?_; intro v hv) | refine depGo_skip rfl ?_ | refine depGo_none rfl ?_)); refine depGo_nil ?_; refine W_call hS' (by rfl) (rFrom_c H' A2 c2 t.items k (hl2.mono hG.le) (by omega)) ?_; intro v H3 w3 hG3 hr; exact ⟨H3, hG3.le, hG.trans hG3, fun H'' hle => hr.mono hle⟩))
          ((apply steps_cons; case h1 => (apply A_pure; intro c u H' w' hG; have hS' := hG.sub; have hS2' := hG.subOld; have hM0 := (c8).grow hG; have hM1 := (c9).grow hG; (repeat (first | refine depGo_eq rfl rfl rfl ?_ | (refine depGo_fact rfl rfl rfl ?_; intro v hv) | refine depGo_skip rfl ?_ | refine depGo_none rfl ?_)); apply Pure1.mk; intro K hk; exact W_loadHL (by first | rfl | assumption) (by assumption) (by rfl) (by assumption) hk)))
          (apply steps_cons; case h1 => (refine A_fact (φ := (fun v H => IsEnts v ((fromL k t.items).take n.toNat) H)) ?_; intro c' u H' w' hG'; have hS' := hG'.sub; (repeat (first | refine depGo_eq rfl rfl rfl ?_ | (refine depGo_fact rfl rfl rfl ?_; intro v hv) | refine depGo_skip rfl ?_ | refine depGo_none rfl ?_)); obtain ⟨A5, c5, rfl, hc5, hl5⟩ := hv; refine depGo_nil ?_; refine W_call hS' (by rfl) (first_c H' A5 c5 (fromL k t.items) n hc5 (by omega)) ?_; intro v H3 w3 hG3 hr; exact ⟨H3, hG3.le, hG'.trans hG3, fun H'' hle => ⟨A5, c5, hr, Nat.le_trans (by simp; omega) hc5, ((EntsAt.take hl5 _).mono hG3.le).mono hle⟩⟩))
          (apply steps_cons; case h1 => (refine A_fact (φ := (fun v _ => v = .bool true)) ?_; intro c' u H' w' hG'; have hS' := hG'.sub; (repeat (first | refine depGo_eq rfl rfl rfl ?_ | (refine depGo_fact rfl rfl rfl ?_; intro v hv) | refine depGo_skip rfl ?_ | refine depGo_none rfl ?_)); obtain ⟨A6, c6, rfl, hc6, hl6⟩ := hv; refine depGo_nil ?_; refine W_call hS' (by rfl) (same_c H' A1 A6 c1 c6 ((fromL k t.items).take n.toNat) ((fromL k t.items).take n.toNat) (SlAt.mono hsl1 hG'.le) hl6 (by simp; omega)) ?_; intro v H3 w3 hG3 hr; exact ⟨H3, hG3.le, hG'.trans hG3, fun H'' hle => (by rw [hr]; simp)⟩))
          ((apply steps_cons; case h1 => (apply A_pure; intro c u H' w' hG; have hS' := hG.sub; have hS2' := hG.subOld; have hM0 := (c8).grow hG; have hM1 := (c9).grow hG; (repeat (first | refine depGo_eq rfl rfl rfl ?_ | (refine depGo_fact rfl rfl rfl ?_; intro v hv) | refine depGo_skip rfl ?_ | refine depGo_none rfl ?_)); apply Pure1.mk; intro K hk; exact W_moveBool (by first | rfl | assumption) hk)); (apply steps_cons; case h1 => (apply A_want; intro c u H' w' hG; have hS' := hG.sub; have hS2' := hG.subOld; have hM0 := (c8).grow hG; have hM1 := (c9).grow hG; (repeat (first | refine depGo_eq rfl rfl rfl ?_ | (refine depGo_fact rfl rfl rfl ?_; intro v hv) | refine depGo_skip rfl ?_ | refine depGo_none rfl ?_)); apply Pure2.mk; (case want => rfl); intro K hk; exact W_loadM (by first | rfl | assumption) (by assumption) (by rfl) hk)); (apply steps_cons; case h1 => (apply A_want; intro c u H' w' hG; have hS' := hG.sub; have hS2' := hG.subOld; have hM0 := (c8).grow hG; have hM1 := (c9).grow hG; (repeat (first | refine depGo_eq rfl rfl rfl ?_ | (refine depGo_fact rfl rfl rfl ?_; intro v hv) | refine depGo_skip rfl ?_ | refine depGo_none rfl ?_)); apply Pure2.mk; (case want => rfl); intro K hk; exact W_moveSl (by first | rfl | assumption) hk)); (apply steps_cons; case h1 => (apply A_want; intro c u H' w' hG; have hS' := hG.sub; have hS2' := hG.subOld; have hM0 := (c8).grow hG; have hM1 := (c9).grow hG; (repeat (first | refine depGo_eq rfl rfl rfl ?_ | (refine depGo_fact rfl rfl rfl ?_; intro v hv) | refine depGo_skip rfl ?_ | refine depGo_none rfl ?_)); apply Pure2.mk; (case want => rfl); intro K hk; exact W_moveStr (by first | rfl | assumption) hk)))
          (apply steps_cons; case h1 => (refine A_factG (φ := (fun v H => IsEnts v (toL k t.items) H)) ?_; intro c' u H' w' hG; have hS' := hG.sub; (repeat (first | refine depGo_eq rfl rfl rfl ?_ | (refine depGo_fact rfl rfl rfl ?_; intro v hv) | refine depGo_skip rfl ?_ | refine depGo_none rfl ?_)); refine depGo_nil ⟨rfl, ?_⟩; refine W_call hS' (by rfl) (rBackFrom_c H' A2 c2 t.items k (hl2.mono hG.le) (by omega)) ?_; intro v H3 w3 hG3 hr; exact ⟨H3, hG3.le, hG.trans hG3, fun H'' hle => hr.mono hle⟩))
          ((apply steps_cons; case h1 => (apply A_want; intro c u H' w' hG; have hS' := hG.sub; have hS2' := hG.subOld; have hM0 := (c8).grow hG; have hM1 := (c9).grow hG; (repeat (first | refine depGo_eq rfl rfl rfl ?_ | (refine depGo_fact rfl rfl rfl ?_; intro v hv) | refine depGo_skip rfl ?_ | refine depGo_none rfl ?_)); apply Pure2.mk; (case want => rfl); intro K hk; exact W_loadHL (by first | rfl | assumption) (by assumption) (by rfl) (by assumption) hk)))
          (apply steps_cons; case h1 => (refine A_factG (φ := (fun v H => IsEnts v ((toL k t.items).take n.toNat) H)) ?_; intro c' u H' w' hG'; have hS' := hG'.sub; (repeat (first | refine depGo_eq rfl rfl rfl ?_ | (refine depGo_fact rfl rfl rfl ?_; intro v hv) | refine depGo_skip rfl ?_ | refine depGo_none rfl ?_)); obtain ⟨A5, c5, rfl, hc5, hl5⟩ := hv; refine depGo_nil ⟨rfl, ?_⟩; refine W_call hS' (by rfl) (first_c H' A5 c5 (toL k t.items) n hc5 (by omega)) ?_; intro v H3 w3 hG3 hr; exact ⟨H3, hG3.le, hG'.trans hG3, fun H'' hle => ⟨A5, c5, hr, Nat.le_trans (by simp; omega) hc5, ((EntsAt.take hl5 _).mono hG3.le).mono hle⟩⟩))
          (apply steps_cons; case h1 => (refine A_factG (φ := (fun v _ => v = .bool true)) ?_; intro c' u H' w' hG'; have hS' := hG'.sub; (repeat (first | refine depGo_eq rfl rfl rfl ?_ | (refine depGo_fact rfl rfl rfl ?_; intro v hv) | refine depGo_skip rfl ?_ | refine depGo_none rfl ?_)); obtain ⟨A6, c6, rfl, hc6, hl6⟩ := hv; refine depGo_nil ⟨rfl, ?_⟩; refine W_call hS' (by rfl) (same_c H' A3 A6 c3 c6 ((toL k t.items).take n.toNat) ((toL k t.items).take n.toNat) (SlAt.mono hsl3 hG'.le) hl6 (by simp; omega)) ?_; intro v H3 w3 hG3 hr; exact ⟨H3, hG3.le, hG'.trans hG3, fun H'' hle => (by rw [hr]; simp)⟩))
          ((apply steps_cons; case h1 => (apply A_pure; intro c u H' w' hG; have hS' := hG.sub; have hS2' := hG.subOld; have hM0 := (c8).grow hG; have hM1 := (c9).grow hG; (repeat (first | refine depGo_eq rfl rfl rfl ?_ | (refine depGo_fact rfl rfl rfl ?_; intro v hv) | refine depGo_skip rfl ?_ | refine depGo_none rfl ?_)); apply Pure1.mk; intro K hk; exact W_pickT (by first | rfl | assumption) (by first | rfl | assumption) hk)); (apply steps_cons; case h1 => (apply A_pure; intro c u H' w' hG; have hS' := hG.sub; have hS2' := hG.subOld; have hM0 := (c8).grow hG; have hM1 := (c9).grow hG; (repeat (first | refine depGo_eq rfl rfl rfl ?_ | (refine depGo_fact rfl rfl rfl ?_; intro v hv) | refine depGo_skip rfl ?_ | refine depGo_none rfl ?_)); apply Pure1.mk; intro K hk; exact W_assignBool (by first | rfl | assumption) hk)); exact trivial)
        · (intro H' w' hG; (repeat (first | refine fin_eq rfl rfl ?_ | (refine fin_fact rfl ?_; intro v hv) | refine fin_none rfl ?_)); refine fin_nil ?_)
          (refine CWD_ret ?_)
          replace hM := hM.grow hG
          replace hN := hN.grow hG
          refine FinD_two hM hN hne hG.sub fun w' hT => ?_
          exact ⟨_, ResW_one (v := .bool _) rfl, _, Turn.grow (hG0.trans hG) hT (by rintro b (rfl | rfl); exact hDw; exact hEw), rfl⟩
end Go.Proofs.Ytgaabmoknpifnaa
/- Regions that draw their order: what holds may speak of values that the effects yielded; loads that stand ahead of a write. Conditions: none. -/
namespace Go.Proofs.Ytgaabmoknpifnaa
open Go.RowKit
set_option linter.unusedVariables false
/-- What is known of the operations ahead: their values lie in the frame, and are those of u. -/
def DepU (u0 : Fr) (Φ : List Fact) (Ds : List (Option Nat)) (H : HF) (K : Fr → Prop) : List Edge → Fr → Prop
  | [], f => K f
  | e :: es, f => bif Region.binds .any e then (match Ds.getD e.on none with | some d => ∀ v, u0 d = v → factAt Φ e.on v H → DepU u0 Φ Ds H K es (upd f d v) | none => DepU u0 Φ Ds H K es f) else DepU u0 Φ Ds H K es f
def bOk : Option Nat → Nat → Prop
  | none, _ => True
  | some k, c => c ≤ k
/-- One operation's duty. 'G c u': the world behind c effects, u: the values so far. -/
def StepU (P : Program) (r : Option Nat) (G : Nat → Fr → HF → World → Prop) (Φ : List Fact) (ops : Array Oper) (Ds : List (Option Nat)) (D : List Nat) (f0 : Fr) (o : Oper) (φ : Fact) (b : Option Nat) : Option Nat → Prop
  | none => ∀ (c : Nat) (u : Fr) (H : HF) (w : World), bOk b c → G c u H w → DepU u Φ Ds H (fun f =>
      if wantF ops o f then OpW P r o f w (fun v w' => ∃ H', HLe H H' ∧ G c (updO u o.dst v) H' w' ∧ ∀ H'', HLe H' H'' → φ v H'') else G c (updO u o.dst undef) H w ∧ ∀ H'', HLe H H'' → φ undef H'') o.after.toList (over D u f0)
  | some c => ∀ (u : Fr) (H : HF) (w : World), G c u H w → DepU u Φ Ds H (fun f =>
      if wantF ops o f then OpW P r o f w (fun v w' => ∃ H', HLe H H' ∧ G (c + 1) (updO u o.dst v) H' w' ∧ ∀ H'', HLe H' H'' → φ v H'') else False) o.after.toList (over D u f0)
def StepsU (P : Program) (r : Option Nat) (G : Nat → Fr → HF → World → Prop) (Φ : List Fact) (ops : Array Oper) (Ds : List (Option Nat)) (D : List Nat) (f0 : Fr) : List Oper → List Fact → List (Option Nat) → List (Option Nat) → Prop
  | o :: os, φ :: φs, e :: es, b :: bs => StepU P r G Φ ops Ds D f0 o φ b e ∧ StepsU P r G Φ ops Ds D f0 os φs es bs
  | [], [], [], [] => True
  | _, _, _, _ => False
theorem stepsU_cons {P : Program} {r : Option Nat} {G : Nat → Fr → HF → World → Prop} {Φ : List Fact} {ops : Array Oper} {Ds : List (Option Nat)} {D : List Nat} {f0 : Fr} {o : Oper} {os : List Oper} {φ : Fact} {φs : List Fact} {e b : Option Nat} {es bs : List (Option Nat)}
    (h1 : StepU P r G Φ ops Ds D f0 o φ b e) (h2 : StepsU P r G Φ ops Ds D f0 os φs es bs) : StepsU P r G Φ ops Ds D f0 (o :: os) (φ :: φs) (e :: es) (b :: bs) := ⟨h1, h2⟩
def FinU (u0 : Fr) (Q : Fr → World → Prop) (H : HF) (w : World) : List Oper → List Fact → Fr → Prop
  | o :: os, φ :: φs, f => match o.dst with | some d => ∀ v, u0 d = v → φ v H → FinU u0 Q H w os φs (upd f d v) | none => FinU u0 Q H w os φs f
  | _, _, f => Q f w
/-- o stands behind operation i, by one edge or more (q at most). -/
def behind (ops : Array Oper) (i : Nat) : Nat → Oper → Bool
  | 0, _ => false
  | q + 1, o => o.after.toList.any (fun a => Region.binds .any a && a.on == i) || o.after.toList.any fun a => Region.binds .any a && (match ops[a.on]? with | some o' => behind ops i q o' | none => false)
theorem behind_listed {ops : Array Oper} {listed : Array Bool} {i : Nat} (hd : ∀ (i : Nat) (o : Oper), listed.getD i false = true → ops[i]? = some o → ∀ e ∈ o.after.toList, Region.binds .any e = true → listed.getD e.on false = true) :
    ∀ (q j : Nat) (o : Oper), ops[j]? = some o → listed.getD j false = true → behind ops i q o = true → listed.getD i false = true
  | 0, _, _, _, _, h => by simp [behind] at h
  | q + 1, j, o, ho, hl, h => by
    simp only [behind, Bool.or_eq_true, List.any_eq_true, Bool.and_eq_true] at h
    rcases h with ⟨a, ha, hb, hi⟩ | ⟨a, ha, hb, hi⟩
    · have h7 := hd j o hl ho a ha hb
      have h8 : a.on = i := by simpa using hi
      rw [h8] at h7; exact h7
    · have h7 := hd j o hl ho a ha hb
      split at hi
      · rename_i o' ho'
        exact behind_listed hd q a.on o' ho' h7 hi
      · cases hi
/-- The operation that is effect k stands behind each one that is bound by k. -/
def boundOk (ops : Array Oper) (es bs : List (Option Nat)) : Bool :=
  (bs.zipIdx).all fun (b, i) => match b with
    | none => true
    | some k => (ops.toList.zip es).any fun (o, e) => (e == some k) && behind ops i 4 o
section
variable {P : Program} {r : Option Nat} {n : Nat} {f : Fr} {H : HF} {w : World}
theorem stepsU_at {G : Nat → Fr → HF → World → Prop} {Φ : List Fact} {ops : Array Oper} {Ds : List (Option Nat)} {D : List Nat} {f0 : Fr} : ∀ (os : List Oper) (φs : List Fact) (es bs : List (Option Nat)), StepsU P r G Φ ops Ds D f0 os φs es bs →
    os.length = φs.length ∧ os.length = es.length ∧ os.length = bs.length ∧ ∀ (i : Nat) (o : Oper) (φ : Fact) (e b : Option Nat), os[i]? = some o → φs[i]? = some φ → es[i]? = some e → bs[i]? = some b → StepU P r G Φ ops Ds D f0 o φ b e
  | [], [], [], [], _ => ⟨rfl, rfl, rfl, fun i o φ e b h => by simp at h⟩
  | o :: os, φ :: φs, e :: es, b :: bs, h => by
    obtain ⟨h1, h2, h3, h4⟩ := stepsU_at os φs es bs h.2
    refine ⟨by simp [h1], by simp [h2], by simp [h3], fun i o' φ' e' b' ho hφ he hb => ?_⟩
    cases i with
    | zero =>
      simp at ho hφ he hb
      subst ho hφ he hb
      exact h.1
    | succ i => exact h4 i o' φ' e' b' (by simpa using ho) (by simpa using hφ) (by simpa using he) (by simpa using hb)
  | [], _ :: _, _, _, h => by cases h
  | [], [], _ :: _, _, h => by cases h
  | [], [], [], _ :: _, h => by cases h
  | _ :: _, [], _, _, h => by cases h
  | _ :: _, _ :: _, [], _, h => by cases h
  | _ :: _, _ :: _, _ :: _, [], h => by cases h
theorem depU_of {Φ : List Fact} {Ds : List (Option Nat)} {D : List Nat} {u f0 : Fr} {H : HF} {K : Fr → Prop} (hD : ∀ (j d : Nat), Ds[j]? = some (some d) → d ∈ D) : ∀ (es : List Edge),
    (∀ e ∈ es, Region.binds .any e = true → ∀ d, Ds[e.on]? = some (some d) → factAt Φ e.on (u d) H) → DepU u Φ Ds H K es (over D u f0) → K (over D u f0)
  | [], _, h => h
  | e :: es, hf, h => by
    have ih := depU_of (K := K) (f0 := f0) hD es (fun e' he' => hf e' (by simp [he']))
    simp only [DepU] at h
    cases hb : Region.binds .any e with
    | false => rw [hb] at h; exact ih h
    | true =>
      rw [hb] at h
      simp only [cond_true] at h
      cases hd : Ds.getD e.on none with
      | none => rw [hd] at h; exact ih h
      | some d =>
        rw [hd] at h
        have hd2 : Ds[e.on]? = some (some d) := by
          rw [List.getD_eq_getElem?_getD] at hd
          cases h5 : Ds[e.on]? with
          | none => rw [h5] at hd; simp at hd
          | some x => rw [h5] at hd; simp at hd; rw [hd]
        have h1 := h (u d) rfl (hf e (by simp) hb d hd2)
        rw [upd_over_same (hD _ _ hd2)] at h1
        exact ih h1
theorem finU_of {Q : Fr → World → Prop} {H : HF} {w : World} {u : Fr} : ∀ (os : List Oper) (φs : List Fact) (f : Fr),
    (∀ i o, os[i]? = some o → ∀ d, o.dst = some d → factAt φs i (u d) H) → os.length = φs.length → FinU u Q H w os φs f → Q (over (dstsOf os) u f) w
  | [], [], f, _, _, h => by
    have : over (dstsOf []) u f = f := by funext t; simp [dstsOf, over, memb]
    rw [this]; exact h
  | o :: os, φ :: φs, f, hf, hl, h => by
    simp only [FinU] at h
    cases hd : o.dst with
    | none =>
      rw [hd] at h
      have e : dstsOf (o :: os) = dstsOf os := by simp [dstsOf, hd]
      rw [e]
      exact finU_of os φs f (fun i o' ho d hd' => hf (i + 1) o' (by simpa using ho) d hd') (by simpa using hl) h
    | some d =>
      rw [hd] at h
      have e : dstsOf (o :: os) = d :: dstsOf os := by simp [dstsOf, hd]
      have h1 := h (u d) rfl (hf 0 o (by simp) d hd)
      have h2 := finU_of os φs _ (fun i o' ho d hd' => hf (i + 1) o' (by simpa using ho) d hd') (by simpa using hl) h1
      have e2 : over (dstsOf (o :: os)) u f = over (dstsOf os) u (upd f d (u d)) := by
        funext t
        rw [e]
        simp only [over, memb_eq, List.elem_cons, upd]
        by_cases ht : t = d
        · subst ht; cases (dstsOf os).elem t <;> simp
        · have : (t == d) = false := by simp [ht]
          have h3 : Nat.beq t d = false := by cases hh : Nat.beq t d; rfl; exact absurd (Nat.eq_of_beq_eq_true hh) ht
          rw [this, h3]
          simp
      rw [e2]; exact h2
  | [], _ :: _, _, _, hl, _ => by simp at hl
  | _ :: _, [], _, _, hl, _ => by simp at hl
/-- What holds while the operations of such a region are carried out. -/
structure InvU (n : Nat) (d0 : List Deferred) (G : Nat → Fr → HF → World → Prop) (Φ : List Fact) (es : List (Option Nat)) (ops : Array Oper) (f0 : Fr) (listed : Array Bool) (a : Act) (w : World) : Prop where
  size : listed.size = ops.size
  def_ : a.defers = d0
  deps : ∀ (i : Nat) (o : Oper), listed.getD i false = true → ops[i]? = some o → ∀ e ∈ o.after.toList, Region.binds .any e = true → listed.getD e.on false = true
  st : ∃ (u : Fr) (H : HF) (c : Nat), Rep n a (over (dstsOf ops.toList) u f0) ∧ G c u H w ∧ (∀ (i k : Nat), es[i]? = some (some k) → (listed.getD i false = true ↔ k < c)) ∧
    ∀ (i : Nat) (o : Oper) (d : Nat), listed.getD i false = true → ops[i]? = some o → o.dst = some d → ∀ H', HLe H H' → factAt Φ i (u d) H'
theorem es_inj {k : Nat} : ∀ (l : List (Option Nat)), (l.filterMap id).Nodup → ∀ (i j : Nat), l[i]? = some (some k) → l[j]? = some (some k) → i = j := by
  intro l
  induction l with
  | nil => intro _ i j h; simp at h
  | cons x l ihl =>
    intro hn i j h1 h2
    have hmem : ∀ m, l[m]? = some (some k) → k ∈ l.filterMap id := fun m hm => List.mem_filterMap.2 ⟨some k, List.mem_of_getElem? hm, rfl⟩
    have htail : (l.filterMap id).Nodup := by
      cases x with
      | none => simpa using hn
      | some y => simp at hn; simpa using hn.2
    cases i with
    | zero =>
      cases j with
      | zero => rfl
      | succ j =>
        simp at h1 h2
        subst h1
        have := hmem j h2
        simp only [List.filterMap_cons, id, List.nodup_cons] at hn
        exact absurd this hn.1
    | succ i =>
      cases j with
      | zero =>
        simp at h1 h2
        subst h2
        have := hmem i h1
        simp only [List.filterMap_cons, id, List.nodup_cons] at hn
        exact absurd this hn.1
      | succ j =>
        simp at h1 h2
        rw [ihl htail i j h1 h2]
theorem region_anyU_core {rid : Nat} {ops : Array Oper} {Q' : Exit → Act → World → Prop} {Qn : Fr → World → Prop} {d0 : List Deferred} (hQ : ∀ a f w, Rep n a f → a.defers = d0 → Qn f w → Q' .normal a w) (G : Nat → Fr → HF → World → Prop) (Φ : List Fact) (es bs : List (Option Nat)) (Ds : List (Option Nat)) (D : List Nat)
    (hm : P.follows .mixedOrders = true) (hd : dstsOk n ops = true) (he : edgesOk ops = true) (hDs : ops.toList.map (·.dst) = Ds) (hD : dstsOf ops.toList = D) (hu : decide D.Nodup = true) (hef : effOk ops es = true) (heu : effUniq es = true) (hbo : boundOk ops es bs = true)
    (h0 : G 0 f H w.drew) (hst : StepsU P r G Φ ops Ds D f ops.toList Φ es bs) (hfin : ∀ c u H w, G c u H w → (∀ (j k : Nat), es[j]? = some (some k) → k < c) → FinU u Qn H w ops.toList Φ f) : ∀ a, Rep n a f → a.defers = d0 → (Code.region rid ops true).wpIn (FW r) 0 P Q' a w := by
  subst hD
  subst hDs
  intro a ha hd0
  refine wpIn_region_any hm ?_
  obtain ⟨hl1, hl2, hl3, hsteps⟩ := stepsU_at _ _ _ _ hst
  have hnd : (dstsOf ops.toList).Nodup := of_decide_eq_true hu
  have hget : ∀ i : Nat, ops.toList[i]? = ops[i]? := fun i => by simp
  have hlen : ∀ (j k : Nat), es[j]? = some (some k) → j < ops.size := fun j k hj => by have h9 := (List.getElem?_eq_some_iff.1 hj).1; rw [← hl2] at h9; simpa using h9
  have key : ∀ (fuel : Nat) (listed : Array Bool) (a : Act) (w : World), InvU n d0 G Φ es ops f listed a w → ops.size ≤ fuel + (listed.toList.filter id).length →
      wpAnyIn (FW r) 0 P .any ops Q' fuel listed a w := by
    intro fuel
    induction fuel with
    | zero =>
      intro listed a w hI hc
      have hall : ∀ i, i < ops.size → listed.getD i false = true := by
        have h1 : (listed.toList.filter id).length = listed.toList.length := by
          have := List.length_filter_le id listed.toList
          have h2 : listed.toList.length = ops.size := by simpa using hI.size
          omega
        have h3 := List.length_filter_eq_length_iff.1 h1
        intro i hi
        have h4 : i < listed.size := by rw [hI.size]; exact hi
        simp [Array.getD_eq_getD_getElem?, h4]
        exact h3 _ (by simp)
      have hnil : Region.ready .any ops listed = [] := by
        apply List.eq_nil_iff_forall_not_mem.2
        intro i hi
        obtain ⟨o, ho, h1, _⟩ := mem_ready hi
        have h2 := hall i (Array.getElem?_eq_some_iff.1 ho).1
        have h3 : i < listed.size := by rw [hI.size]; exact (Array.getElem?_eq_some_iff.1 ho).1
        simp [Array.getD_eq_getD_getElem?, h3] at h1 h2
        rw [h1] at h2; cases h2
      refine ⟨hnil, ?_⟩
      obtain ⟨u, H, c, hr, hG, hcc, hf⟩ := hI.st
      refine hQ _ _ _ hr hI.def_ ?_
      exact finU_of (u := u) ops.toList Φ f (fun i o ho d hd' => hf i o d (hall i (by simpa using (List.getElem?_eq_some_iff.1 ho).1)) (by rw [← hget]; exact ho) hd' H (HLe.refl H)) hl1 (hfin c u H w hG (fun j k hj => (hcc j k hj).1 (hall j (hlen j k hj))))
    | succ fuel ih =>
      intro listed a w hI hc
      obtain ⟨u, H, c, hr, hG, hcc, hf⟩ := hI.st
      refine ⟨fun hnil => ?_, fun i hi => ?_⟩
      · have hall := all_listed he hI.size hnil
        refine hQ _ _ _ hr hI.def_ ?_
        exact finU_of (u := u) ops.toList Φ f (fun i o ho d hd' => hf i o d (hall i (by simpa using (List.getElem?_eq_some_iff.1 ho).1)) (by rw [← hget]; exact ho) hd' H (HLe.refl H)) hl1 (hfin c u H w hG (fun j k hj => (hcc j k hj).1 (hall j (hlen j k hj))))
      · obtain ⟨o, ho, hno, hdeps⟩ := mem_ready hi
        have hlt : i < ops.size := (Array.getElem?_eq_some_iff.1 ho).1
        have hlt2 : i < listed.size := by rw [hI.size]; exact hlt
        have hno2 : listed.getD i false = false := by simp [Array.getD_eq_getD_getElem?, hlt2] at hno ⊢; exact hno
        have hφi : Φ[i]? = some (factAt Φ i) := by
          have : i < Φ.length := by rw [← hl1]; simpa using hlt
          simp [factAt, List.getD_eq_getElem?_getD, this]
        have hei : es[i]? = some (es.getD i none) := by
          have : i < es.length := by rw [← hl2]; simpa using hlt
          simp [List.getD_eq_getElem?_getD, this]
        have hbi : bs[i]? = some (bs.getD i none) := by
          have : i < bs.length := by rw [← hl3]; simpa using hlt
          simp [List.getD_eq_getElem?_getD, this]
        have hstep := hsteps i o _ _ _ (by rw [hget]; exact ho) hφi hei hbi
        have hDm : ∀ (j d : Nat), (ops.toList.map (·.dst))[j]? = some (some d) → d ∈ dstsOf ops.toList := by
          intro j d hj
          rw [List.getElem?_map, Option.map_eq_some_iff] at hj
          obtain ⟨o', ho', hd'⟩ := hj
          exact mem_dsts (List.mem_of_getElem? ho') hd'
        have hdep : ∀ e ∈ o.after.toList, Region.binds .any e = true → ∀ d, (ops.toList.map (·.dst))[e.on]? = some (some d) → factAt Φ e.on (u d) H := by
          intro e he' hb d hj
          rw [List.getElem?_map, Option.map_eq_some_iff] at hj
          obtain ⟨o', ho', hd'⟩ := hj
          exact hf e.on o' d (hdeps e he' hb) (by rw [← hget]; exact ho') hd' H (HLe.refl H)
        have hbo' : ∀ d, o.dst = some d → d < n := fun d => dstsOk_spec hd o (List.mem_of_getElem? (by rw [hget]; exact ho)) d
        have hcount : ops.size ≤ fuel + ((listed.setIfInBounds i true).toList.filter id).length := by
          have hlen : ((listed.setIfInBounds i true).toList.filter id).length = (listed.toList.filter id).length + 1 := by
            rw [Array.toList_setIfInBounds]
            have hl : i < listed.toList.length := by simpa using hlt2
            have hv : listed.toList[i] = false := by simpa [Array.getD_eq_getD_getElem?, hlt2] using hno2
            rw [List.set_eq_take_append_cons_drop, if_pos hl]
            conv => rhs; rw [← List.take_append_drop i listed.toList, List.drop_eq_getElem_cons hl, hv]
            simp only [List.filter_append, List.length_append, List.filter_cons, id]
            simp
            omega
          omega
        have next : ∀ (v : Value) (w' : World) (H' : HF) (c' : Nat), HLe H H' → G c' (updO u o.dst v) H' w' → (∀ H'', HLe H' H'' → factAt Φ i v H'') →
            (∀ (j k : Nat), es[j]? = some (some k) → (((if j = i then true else listed.getD j false) = true) ↔ k < c')) → InvU n d0 G Φ es ops f (listed.setIfInBounds i true) (a.put o.dst v) w' := by
          intro v w' H' c' hle hG' hφ hcc'
          refine ⟨by simp [hI.size], (put_defers _ _ _).trans hI.def_, ?_, updO u o.dst v, H', c', ?_, hG', ?_, ?_⟩
          · intro j o' hj ho' e he' hb
            rw [getD_set _ _ _ hlt2] at hj ⊢
            by_cases e1 : e.on = i
            · rw [if_pos e1]
            · rw [if_neg e1]
              by_cases e2 : j = i
              · subst e2; rw [ho] at ho'; cases ho'; exact hdeps e he' hb
              · rw [if_neg e2] at hj; exact hI.deps j o' hj ho' e he' hb
          · have := hr.put o.dst hbo' v
            cases hdst : o.dst with
            | none => rw [hdst] at this; exact this
            | some d =>
              rw [hdst] at this
              simp only [updO] at this
              rw [over_put (mem_dsts (List.mem_of_getElem? (by rw [hget]; exact ho)) hdst)] at this
              exact this
          · intro j k hj
            rw [getD_set _ _ _ hlt2]
            exact hcc' j k hj
          · intro j o' d' hj ho' hd' H'' hle''
            rw [getD_set _ _ _ hlt2] at hj
            by_cases e : j = i
            · subst e
              rw [ho] at ho'
              cases ho'
              have : updO u o.dst v d' = v := by
                rw [hd']
                have : Nat.beq d' d' = true := by simp
                simp [updO, upd, this]
              rw [this]
              exact hφ H'' hle''
            · rw [if_neg e] at hj
              have : updO u o.dst v d' = u d' := by
                cases h : o.dst with
                | none => rfl
                | some d =>
                  have hne : d' ≠ d := by
                    intro e2
                    subst e2
                    exact e (dst_inj hnd (i := j) (j := i) (by rw [hget]; exact ho') (by rw [hget]; exact ho) hd' h)
                  have : Nat.beq d' d = false := by cases hh : Nat.beq d' d; rfl; exact absurd (Nat.eq_of_beq_eq_true hh) hne
                  simp [updO, upd, this]
              rw [this]
              exact hf j o' d' hj ho' hd' H'' (hle.trans hle'')
        have hbnd : bOk (bs.getD i none) c := by
          cases hbb : bs.getD i none with
          | none => trivial
          | some k =>
            rw [hbb] at hbi
            have h3 := List.all_eq_true.1 hbo (some k, i) (by rw [List.mem_zipIdx_iff_getElem?]; simpa using hbi)
            simp only [List.any_eq_true, Bool.and_eq_true] at h3
            obtain ⟨⟨o2, e2⟩, hm2, he2, hb2⟩ := h3
            obtain ⟨j, hj, hje⟩ := List.mem_iff_getElem.1 hm2
            have hz : (ops.toList.zip es)[j]? = some (o2, e2) := by rw [List.getElem?_eq_getElem hj, hje]
            rw [List.getElem?_zip_eq_some] at hz
            have he3 : e2 = some k := by simpa using he2
            subst he3
            show c ≤ k
            rcases Nat.lt_or_ge k c with h5 | h5
            · have h6 := (hcc j k hz.2).2 h5
              have h7 := behind_listed hI.deps 4 j o2 (by rw [← hget]; exact hz.1) h6 hb2
              rw [hno2] at h7; cases h7
            · exact h5
        unfold wpOpIn
        simp only [ho]
        rw [wantF_eq hr]
        cases hee : es.getD i none with
        | none =>
          rw [hee] at hstep hei
          have hcc' : ∀ (j k : Nat), es[j]? = some (some k) → (((if j = i then true else listed.getD j false) = true) ↔ k < c) := by
            intro j k hj
            by_cases e : j = i
            · subst e; rw [hei] at hj; simp at hj
            · rw [if_neg e]; exact hcc j k hj
          have h2 := depU_of hDm _ hdep (hstep c u H w hbnd hG)
          by_cases hw : wantF ops o (over (dstsOf ops.toList) u f) = true
          · simp only [hw, if_true] at h2 ⊢
            refine Oper.wpIn_mono ?_ (h2 a n hr _)
            rintro a' w' ⟨v, rfl, H', hle, hG', hφ⟩
            exact ih _ _ _ (next v w' H' c hle hG' hφ hcc') hcount
          · simp only [hw] at h2 ⊢
            exact ⟨fun _ _ => trivial, ih _ _ _ (next undef w H c (HLe.refl H) h2.1 h2.2 hcc') hcount⟩
        | some k =>
          rw [hee] at hstep hei
          have hck : c = k := by
            have h1 := hcc i k hei
            rw [hno2] at h1
            have h2 : ¬ k < c := fun h => by have := h1.2 h; cases this
            cases k with
            | zero => omega
            | succ k =>
              have h3 := List.all_eq_true.1 hef (o, some (k + 1)) (by
                rw [List.mem_iff_getElem?]
                refine ⟨i, ?_⟩
                rw [List.getElem?_zip_eq_some]
                exact ⟨by rw [hget]; exact ho, hei⟩)
              simp only [List.any_eq_true, Bool.and_eq_true, decide_eq_true_eq] at h3
              obtain ⟨e, he', hb, hk⟩ := h3
              have h4 : es[e.on]? = some (some k) := by
                rw [List.getD_eq_getElem?_getD] at hk
                cases h5 : es[e.on]? with
                | none => rw [h5] at hk; simp at hk
                | some x => rw [h5] at hk; simp at hk; rw [hk]
              have h5 := (hcc e.on k h4).1 (hdeps e he' hb)
              omega
          subst hck
          have hcc' : ∀ (j k : Nat), es[j]? = some (some k) → (((if j = i then true else listed.getD j false) = true) ↔ k < c + 1) := by
            intro j k hj
            by_cases e : j = i
            · subst e; rw [hei] at hj; cases hj; simp
            · rw [if_neg e, hcc j k hj]
              have hne : k ≠ c := by
                intro e2
                subst e2
                exact e (es_inj es (of_decide_eq_true heu) j i hj hei)
              omega
          have h2 := depU_of hDm _ hdep (hstep u H w hG)
          by_cases hw : wantF ops o (over (dstsOf ops.toList) u f) = true
          · simp only [hw, if_true] at h2 ⊢
            refine Oper.wpIn_mono ?_ (h2 a n hr _)
            rintro a' w' ⟨v, rfl, H', hle, hG', hφ⟩
            exact ih _ _ _ (next v w' H' (c + 1) hle hG' hφ hcc') hcount
          · simp only [hw] at h2
            exact h2.elim
  refine key ops.size _ a w.drew ⟨by simp, hd0, ?_, f, H, 0, ?_, h0, ?_, ?_⟩ (by simp)
  · intro i o hi
    have h1 : (Array.replicate ops.size false).getD i false = false := by simp [Array.getD_eq_getD_getElem?, Array.getElem?_replicate]; split <;> rfl
    rw [h1] at hi; cases hi
  · have : over (dstsOf ops.toList) f f = f := by funext t; simp [over]
    rw [this]; exact ha
  · intro i k hk
    have h1 : (Array.replicate ops.size false).getD i false = false := by simp [Array.getD_eq_getD_getElem?, Array.getElem?_replicate]; split <;> rfl
    rw [h1]
    simp
  · intro i o d hi
    have h1 : (Array.replicate ops.size false).getD i false = false := by simp [Array.getD_eq_getD_getElem?, Array.getElem?_replicate]; split <;> rfl
    rw [h1] at hi; cases hi
theorem CWD_region_anyU {rid : Nat} {ops : Array Oper} {Qn Qr : List Nat → Fr → World → Prop} {Qx : Nat → List Nat → Fr → World → Prop} {ds : List Nat} (G : Nat → Fr → HF → World → Prop) (Φ : List Fact) (es bs : List (Option Nat)) (Ds : List (Option Nat)) (D : List Nat)
    (hm : P.follows .mixedOrders = true) (hd : dstsOk n ops = true) (he : edgesOk ops = true) (hDs : ops.toList.map (·.dst) = Ds) (hD : dstsOf ops.toList = D) (hu : decide D.Nodup = true) (hef : effOk ops es = true) (heu : effUniq es = true) (hbo : boundOk ops es bs = true)
    (h0 : G 0 f H w.drew) (hst : StepsU P r G Φ ops Ds D f ops.toList Φ es bs) (hfin : ∀ c u H w, G c u H w → (∀ (j k : Nat), es[j]? = some (some k) → k < c) → FinU u (Qn ds) H w ops.toList Φ f) : CWD P r n (.region rid ops true) Qn Qr Qx ds f w :=
  fun a ha hda => region_anyU_core (Qn := Qn ds) (fun a f w h1 h2 h3 => ⟨f, ds, h1, h2, h3⟩) G Φ es bs Ds D hm hd he hDs hD hu hef heu hbo h0 hst hfin a ha hda
theorem CW_region_anyU {rid : Nat} {ops : Array Oper} {Qn Qr : Fr → World → Prop} {Qx : Nat → Fr → World → Prop} (G : Nat → Fr → HF → World → Prop) (Φ : List Fact) (es bs : List (Option Nat)) (Ds : List (Option Nat)) (D : List Nat)
    (hm : P.follows .mixedOrders = true) (hd : dstsOk n ops = true) (he : edgesOk ops = true) (hDs : ops.toList.map (·.dst) = Ds) (hD : dstsOf ops.toList = D) (hu : decide D.Nodup = true) (hef : effOk ops es = true) (heu : effUniq es = true) (hbo : boundOk ops es bs = true)
    (h0 : G 0 f H w.drew) (hst : StepsU P r G Φ ops Ds D f ops.toList Φ es bs) (hfin : ∀ c u H w, G c u H w → (∀ (j k : Nat), es[j]? = some (some k) → k < c) → FinU u Qn H w ops.toList Φ f) : CW P r n (.region rid ops true) Qn Qr Qx f w :=
  fun a ha hda => region_anyU_core (Qn := Qn) (fun a f w h1 h2 h3 => ⟨f, [], h1, h2, rfl, h3⟩) G Φ es bs Ds D hm hd he hDs hD hu hef heu hbo h0 hst hfin a ha hda
end
/-! ### Duties -/
/-- Behind c effects M c holds; it speaks of the values that lie in L alone. -/
structure GU (H0 : HF) (w0 : World) (Hr : HF) (L : List Nat) (M : Nat → Fr → HF → World → Prop) (c : Nat) (u : Fr) (H : HF) (w : World) : Prop where
  grow : Grow H0 w0 H w
  le : HLe Hr H
  m : M c u H w
  cl : ∀ c u u' H w H' w', (∀ t, memb t L = true → u' t = u t) → M c u H w → Grow H w H' w' → M c u' H' w'
section
variable {P : Program} {r : Option Nat} {n : Nat} {f : Fr} {H0 Hr H H' : HF} {w0 w w' : World} {L : List Nat} {M : Nat → Fr → HF → World → Prop} {c : Nat} {u : Fr}
theorem GU.sub (h : GU H0 w0 Hr L M c u H w) : Sub H w := h.grow.sub
theorem GU.subOld (h : GU H0 w0 Hr L M c u H w) : Sub Hr w := ⟨fun b o e => h.grow.sub.out b o (h.le b o e)⟩
theorem GU.trans (h : GU H0 w0 Hr L M c u H w) (k : Grow H w H' w') : GU H0 w0 Hr L M c u H' w' := ⟨h.grow.trans k, h.le.trans k.le, h.cl _ _ _ _ _ _ _ (fun _ _ => rfl) h.m k, h.cl⟩
theorem GU.skip {d : Nat} {v : Value} (hd : memb d L = false) (h : GU H0 w0 Hr L M c u H w) : GU H0 w0 Hr L M c (upd u d v) H w :=
  ⟨h.grow, h.le, h.cl _ _ _ _ _ _ _ (fun t ht => by
    have : Nat.beq t d = false := by
      cases hh : Nat.beq t d
      · rfl
      · rw [Nat.eq_of_beq_eq_true hh] at ht; rw [ht] at hd; cases hd
    simp only [upd, this, cond_false]) h.m (Grow.refl h.grow.sub), h.cl⟩
theorem GU.next {d : Option Nat} {v : Value} (h : GU H0 w0 Hr L M c u H w) (hg : Grow H0 w0 H' w') (hle : HLe H H') (hf : M (c + 1) (updO u d v) H' w') : GU H0 w0 Hr L M (c + 1) (updO u d v) H' w' := ⟨hg, h.le.trans hle, hf, h.cl⟩
variable {Φ : List Fact} {ops : Array Oper} {Ds : List (Option Nat)} {D : List Nat} {f0 : Fr} {t : Nat} {p : Op} {gd : Option (Nat × Bool)} {ty : TypeId} {pos : String} {af : Array Edge} {b : Option Nat}
theorem depU_nil {K : Fr → Prop} {f : Fr} (h : K f) : DepU u Φ Ds H K [] f := h
theorem depU_eq {K : Fr → Prop} {e : Edge} {es : List Edge} {f : Fr} {d : Nat} {X : Value} (hb : Region.binds .any e = true) (hd : Ds.getD e.on none = some d) (hφ : factAt Φ e.on = fun v _ => v = X) (h : DepU u Φ Ds H K es (upd f d X)) : DepU u Φ Ds H K (e :: es) f := by
  simp only [DepU, hb, cond_true, hd, hφ]
  intro v _ hv
  rw [hv]; exact h
theorem depU_fact {K : Fr → Prop} {e : Edge} {es : List Edge} {f : Fr} {d : Nat} {φ : Fact} (hb : Region.binds .any e = true) (hd : Ds.getD e.on none = some d) (hφ : factAt Φ e.on = φ) (h : ∀ v, u d = v → φ v H → DepU u Φ Ds H K es (upd f d v)) : DepU u Φ Ds H K (e :: es) f := by
  simp only [DepU, hb, cond_true, hd, hφ]
  exact h
theorem depU_skip {K : Fr → Prop} {e : Edge} {es : List Edge} {f : Fr} (hb : Region.binds .any e = false) (h : DepU u Φ Ds H K es f) : DepU u Φ Ds H K (e :: es) f := by
  simp only [DepU, hb, cond_false]
  exact h
theorem depU_none {K : Fr → Prop} {e : Edge} {es : List Edge} {f : Fr} (hd : Ds.getD e.on none = none) (h : DepU u Φ Ds H K es f) : DepU u Φ Ds H K (e :: es) f := by
  simp only [DepU, hd]
  cases Region.binds .any e <;> exact h
theorem finU_eq {Q : Fr → World → Prop} {o : Oper} {os : List Oper} {φs : List Fact} {φ : Fact} {f : Fr} {d : Nat} {X : Value} (ho : o.dst = some d) (hφ : φ = fun v _ => v = X) (h : FinU u Q H w os φs (upd f d X)) : FinU u Q H w (o :: os) (φ :: φs) f := by
  simp only [FinU, ho, hφ]
  intro v _ hv
  rw [hv]; exact h
theorem finU_fact {Q : Fr → World → Prop} {o : Oper} {os : List Oper} {φs : List Fact} {φ : Fact} {f : Fr} {d : Nat} (ho : o.dst = some d) (h : ∀ v, u d = v → φ v H → FinU u Q H w os φs (upd f d v)) : FinU u Q H w (o :: os) (φ :: φs) f := by
  simp only [FinU, ho]
  exact h
theorem finU_none {Q : Fr → World → Prop} {o : Oper} {os : List Oper} {φs : List Fact} {φ : Fact} {f : Fr} (ho : o.dst = none) (h : FinU u Q H w os φs f) : FinU u Q H w (o :: os) (φ :: φs) f := by
  simp only [FinU, ho]
  exact h
theorem finU_nil {Q : Fr → World → Prop} {f : Fr} (h : Q f w) : FinU u Q H w [] [] f := h
theorem depU_mono {K K' : Fr → Prop} (hk : ∀ f, K f → K' f) : ∀ (es : List Edge) (f : Fr), DepU u Φ Ds H K es f → DepU u Φ Ds H K' es f
  | [], f, h => hk f h
  | e :: es, f, h => by
    simp only [DepU] at h ⊢
    cases hb : Region.binds .any e with
    | false => rw [hb] at h; exact depU_mono hk es f h
    | true =>
      rw [hb] at h
      simp only [cond_true] at h ⊢
      cases hd : Ds.getD e.on none with
      | none => rw [hd] at h; exact depU_mono hk es f h
      | some d => rw [hd] at h; exact fun v hu hv => depU_mono hk es _ (h v hu hv)
theorem U_pure {val : Value} (hd : memb t L = false) (h : ∀ (c : Nat) (u : Fr) (H : HF) (w : World), bOk b c → GU H0 w0 Hr L M c u H w → DepU u Φ Ds H (fun f => Pure1 P r ⟨some t, p, ty, pos, af, none⟩ f w val) af.toList (over D u f0)) :
    StepU P r (GU H0 w0 Hr L M) Φ ops Ds D f0 ⟨some t, p, ty, pos, af, none⟩ (fun v _ => v = val) b none := by
  intro c u H w hb hG
  refine depU_mono ?_ _ _ (h c u H w hb hG)
  intro f hf
  have : wantF ops ⟨some t, p, ty, pos, af, none⟩ f = true := rfl
  rw [if_pos this]
  exact hf.out _ ⟨H, HLe.refl H, hG.skip hd, fun _ _ => rfl⟩
theorem U_want {val : Value} {j : Nat} {q : Bool} (hd : memb t L = false) (h : ∀ (c : Nat) (u : Fr) (H : HF) (w : World), bOk b c → GU H0 w0 Hr L M c u H w → DepU u Φ Ds H (fun f => Pure2 P r ops j q ⟨some t, p, ty, pos, af, some (j, q)⟩ f w val) af.toList (over D u f0)) :
    StepU P r (GU H0 w0 Hr L M) Φ ops Ds D f0 ⟨some t, p, ty, pos, af, some (j, q)⟩ (fun v _ => v = val) b none := by
  intro c u H w hb hG
  refine depU_mono ?_ _ _ (h c u H w hb hG)
  rintro f ⟨hy, hf⟩
  have : wantF ops ⟨some t, p, ty, pos, af, some (j, q)⟩ f = true := by simp [wantF, hy]
  rw [if_pos this]
  exact hf _ ⟨H, HLe.refl H, hG.skip hd, fun _ _ => rfl⟩
theorem U_pass {j : Nat} {q : Bool} (hd : memb t L = false) (h : ∀ (c : Nat) (u : Fr) (H : HF) (w : World), bOk b c → GU H0 w0 Hr L M c u H w → DepU u Φ Ds H (fun f => Pass1 ops j q f) af.toList (over D u f0)) :
    StepU P r (GU H0 w0 Hr L M) Φ ops Ds D f0 ⟨some t, p, ty, pos, af, some (j, q)⟩ (fun v _ => v = undef) b none := by
  intro c u H w hb hG
  refine depU_mono ?_ _ _ (h c u H w hb hG)
  rintro f ⟨hy⟩
  have : ¬ wantF ops ⟨some t, p, ty, pos, af, some (j, q)⟩ f = true := by simp [wantF, hy]
  rw [if_neg this]
  exact ⟨hG.skip hd, fun _ _ => rfl⟩
theorem U_passU {j : Nat} {q : Bool} (hd : memb t L = false) (h : ∀ (c : Nat) (u : Fr) (H : HF) (w : World), bOk b c → GU H0 w0 Hr L M c u H w → DepU u Φ Ds H (fun f => Pass2 ops j f) af.toList (over D u f0)) :
    StepU P r (GU H0 w0 Hr L M) Φ ops Ds D f0 ⟨some t, p, ty, pos, af, some (j, q)⟩ (fun v _ => v = undef) b none := by
  intro c u H w hb hG
  refine depU_mono ?_ _ _ (h c u H w hb hG)
  rintro f ⟨hy⟩
  have : ¬ wantF ops ⟨some t, p, ty, pos, af, some (j, q)⟩ f = true := by simp [wantF, hy]
  rw [if_neg this]
  exact ⟨hG.skip hd, fun _ _ => rfl⟩
theorem U_fact {φ : Fact} (hd : memb t L = false) (h : ∀ (c : Nat) (u : Fr) (H : HF) (w : World), bOk b c → GU H0 w0 Hr L M c u H w → DepU u Φ Ds H (fun f => OpW P r ⟨some t, p, ty, pos, af, none⟩ f w (fun v w' => ∃ H', HLe H H' ∧ GU H0 w0 Hr L M c u H' w' ∧ ∀ H'', HLe H' H'' → φ v H'')) af.toList (over D u f0)) :
    StepU P r (GU H0 w0 Hr L M) Φ ops Ds D f0 ⟨some t, p, ty, pos, af, none⟩ φ b none := by
  intro c u H w hb hG
  refine depU_mono ?_ _ _ (h c u H w hb hG)
  intro f hf
  have : wantF ops ⟨some t, p, ty, pos, af, none⟩ f = true := rfl
  rw [if_pos this]
  exact hf.mono fun v w' ⟨H', h1, h2, h3⟩ => ⟨H', h1, h2.skip hd, h3⟩
theorem U_factG {φ : Fact} {j : Nat} {q : Bool} (hd : memb t L = false) (h : ∀ (c : Nat) (u : Fr) (H : HF) (w : World), bOk b c → GU H0 w0 Hr L M c u H w → DepU u Φ Ds H (fun f => yieldF ops f j = some q ∧ OpW P r ⟨some t, p, ty, pos, af, some (j, q)⟩ f w (fun v w' => ∃ H', HLe H H' ∧ GU H0 w0 Hr L M c u H' w' ∧ ∀ H'', HLe H' H'' → φ v H'')) af.toList (over D u f0)) :
    StepU P r (GU H0 w0 Hr L M) Φ ops Ds D f0 ⟨some t, p, ty, pos, af, some (j, q)⟩ φ b none := by
  intro c u H w hb hG
  refine depU_mono ?_ _ _ (h c u H w hb hG)
  rintro f ⟨hy, hf⟩
  have : wantF ops ⟨some t, p, ty, pos, af, some (j, q)⟩ f = true := by simp [wantF, hy]
  rw [if_pos this]
  exact hf.mono fun v w' ⟨H', h1, h2, h3⟩ => ⟨H', h1, h2.skip hd, h3⟩
theorem U_eff {φ : Fact} {k : Nat} {d : Option Nat} (h : ∀ (u : Fr) (H : HF) (w : World), GU H0 w0 Hr L M k u H w → DepU u Φ Ds H (fun f => OpW P r ⟨d, p, ty, pos, af, none⟩ f w (fun v w' => ∃ H', HLe H H' ∧ GU H0 w0 Hr L M (k + 1) (updO u d v) H' w' ∧ ∀ H'', HLe H' H'' → φ v H'')) af.toList (over D u f0)) :
    StepU P r (GU H0 w0 Hr L M) Φ ops Ds D f0 ⟨d, p, ty, pos, af, none⟩ φ b (some k) := by
  intro u H w hG
  refine depU_mono ?_ _ _ (h u H w hG)
  intro f hf
  have : wantF ops ⟨d, p, ty, pos, af, none⟩ f = true := rfl
  rw [if_pos this]
  exact hf
theorem CW_region_gu {rid : Nat} {Qn Qr : Fr → World → Prop} {Qx : Nat → Fr → World → Prop} (L : List Nat) (M : Nat → Fr → HF → World → Prop) (c0 : Nat) (Φ : List Fact) (es bs : List (Option Nat)) (Ds : List (Option Nat)) (D : List Nat)
    (hm : P.follows .mixedOrders = true) (hd : dstsOk n ops = true) (he : edgesOk ops = true) (hDs : ops.toList.map (·.dst) = Ds) (hD : dstsOf ops.toList = D) (hu : decide D.Nodup = true) (hef : effOk ops es = true) (heu : effUniq es = true) (hbo : boundOk ops es bs = true)
    (hl : (es.any fun e => e == some c0) = true) (hG : Grow H0 w0 H w) (hM : M 0 f H w) (cl : ∀ c u u' H w H' w', (∀ t, memb t L = true → u' t = u t) → M c u H w → Grow H w H' w' → M c u' H' w') (hst : StepsU P r (GU H0 w0 H L M) Φ ops Ds D f ops.toList Φ es bs)
    (hfin : ∀ c u H' w', c0 < c → Grow H0 w0 H' w' → HLe H H' → M c u H' w' → FinU u Qn H' w' ops.toList Φ f) : CW P r n (.region rid ops true) Qn Qr Qx f w := by
  refine CW_region_anyU (H := H) (GU H0 w0 H L M) Φ es bs Ds D hm hd he hDs hD hu hef heu hbo ⟨hG.trans (Grow.drew hG.sub), HLe.refl _, cl _ _ _ _ _ _ _ (fun _ _ => rfl) hM (Grow.drew hG.sub), cl⟩ hst ?_
  intro c u H' w' hG hc
  simp only [List.any_eq_true] at hl
  obtain ⟨e, he1, he2⟩ := hl
  obtain ⟨j, hj, hje⟩ := List.mem_iff_getElem.1 he1
  have hes : es[j]? = some (some c0) := by
    rw [List.getElem?_eq_getElem hj, hje]
    simpa using he2
  exact hfin c u H' w' (hc j c0 hes) hG.grow hG.le hG.m
end
end Go.Proofs.Ytgaabmoknpifnaa
/- Regions that draw, where effects turn rows of S of the caller's; loads that stand ahead of a write. Conditions: none. -/
namespace Go.Proofs.Ytgaabmoknpifnaa
open Go.RowKit
set_option linter.unusedVariables false
/-! ### Duties -/
/-- Behind c effects M c holds; it speaks of the values that lie in L alone. -/
structure GV (S : Nat → Prop) (H0 : HF) (w0 : World) (Hr : HF) (L : List Nat) (M : Nat → Fr → HF → World → Prop) (c : Nat) (u : Fr) (H : HF) (w : World) : Prop where
  grow : Turn S H0 w0 H w
  le : HLe Hr H
  m : M c u H w
  cl : ∀ c u u' H w H' w', (∀ t, memb t L = true → u' t = u t) → M c u H w → Grow H w H' w' → M c u' H' w'
section
variable {P : Program} {r : Option Nat} {n : Nat} {f : Fr} {S : Nat → Prop} {H0 Hr H H' : HF} {w0 w w' : World} {L : List Nat} {M : Nat → Fr → HF → World → Prop} {c : Nat} {u : Fr}
theorem GV.sub (h : GV S H0 w0 Hr L M c u H w) : Sub H w := h.grow.sub
theorem GV.subOld (h : GV S H0 w0 Hr L M c u H w) : Sub Hr w := ⟨fun b o e => h.grow.sub.out b o (h.le b o e)⟩
theorem GV.trans (h : GV S H0 w0 Hr L M c u H w) (k : Grow H w H' w') : GV S H0 w0 Hr L M c u H' w' := ⟨h.grow.trans k.turn, h.le.trans k.le, h.cl _ _ _ _ _ _ _ (fun _ _ => rfl) h.m k, h.cl⟩
theorem GV.skip {d : Nat} {v : Value} (hd : memb d L = false) (h : GV S H0 w0 Hr L M c u H w) : GV S H0 w0 Hr L M c (upd u d v) H w :=
  ⟨h.grow, h.le, h.cl _ _ _ _ _ _ _ (fun t ht => by
    have : Nat.beq t d = false := by
      cases hh : Nat.beq t d
      · rfl
      · rw [Nat.eq_of_beq_eq_true hh] at ht; rw [ht] at hd; cases hd
    simp only [upd, this, cond_false]) h.m (Grow.refl h.grow.sub), h.cl⟩
theorem GV.next {d : Option Nat} {v : Value} (h : GV S H0 w0 Hr L M c u H w) (hg : Turn S H0 w0 H' w') (hle : HLe H H') (hf : M (c + 1) (updO u d v) H' w') : GV S H0 w0 Hr L M (c + 1) (updO u d v) H' w' := ⟨hg, h.le.trans hle, hf, h.cl⟩
variable {Φ : List Fact} {ops : Array Oper} {Ds : List (Option Nat)} {D : List Nat} {f0 : Fr} {t : Nat} {p : Op} {gd : Option (Nat × Bool)} {ty : TypeId} {pos : String} {af : Array Edge} {b : Option Nat}
theorem V_pure {val : Value} (hd : memb t L = false) (h : ∀ (c : Nat) (u : Fr) (H : HF) (w : World), bOk b c → GV S H0 w0 Hr L M c u H w → DepU u Φ Ds H (fun f => Pure1 P r ⟨some t, p, ty, pos, af, none⟩ f w val) af.toList (over D u f0)) :
    StepU P r (GV S H0 w0 Hr L M) Φ ops Ds D f0 ⟨some t, p, ty, pos, af, none⟩ (fun v _ => v = val) b none := by
  intro c u H w hb hG
  refine depU_mono ?_ _ _ (h c u H w hb hG)
  intro f hf
  have : wantF ops ⟨some t, p, ty, pos, af, none⟩ f = true := rfl
  rw [if_pos this]
  exact hf.out _ ⟨H, HLe.refl H, hG.skip hd, fun _ _ => rfl⟩
theorem V_want {val : Value} {j : Nat} {q : Bool} (hd : memb t L = false) (h : ∀ (c : Nat) (u : Fr) (H : HF) (w : World), bOk b c → GV S H0 w0 Hr L M c u H w → DepU u Φ Ds H (fun f => Pure2 P r ops j q ⟨some t, p, ty, pos, af, some (j, q)⟩ f w val) af.toList (over D u f0)) :
    StepU P r (GV S H0 w0 Hr L M) Φ ops Ds D f0 ⟨some t, p, ty, pos, af, some (j, q)⟩ (fun v _ => v = val) b none := by
  intro c u H w hb hG
  refine depU_mono ?_ _ _ (h c u H w hb hG)
  rintro f ⟨hy, hf⟩
  have : wantF ops ⟨some t, p, ty, pos, af, some (j, q)⟩ f = true := by simp [wantF, hy]
  rw [if_pos this]
  exact hf _ ⟨H, HLe.refl H, hG.skip hd, fun _ _ => rfl⟩
theorem V_pass {j : Nat} {q : Bool} (hd : memb t L = false) (h : ∀ (c : Nat) (u : Fr) (H : HF) (w : World), bOk b c → GV S H0 w0 Hr L M c u H w → DepU u Φ Ds H (fun f => Pass1 ops j q f) af.toList (over D u f0)) :
    StepU P r (GV S H0 w0 Hr L M) Φ ops Ds D f0 ⟨some t, p, ty, pos, af, some (j, q)⟩ (fun v _ => v = undef) b none := by
  intro c u H w hb hG
  refine depU_mono ?_ _ _ (h c u H w hb hG)
  rintro f ⟨hy⟩
  have : ¬ wantF ops ⟨some t, p, ty, pos, af, some (j, q)⟩ f = true := by simp [wantF, hy]
  rw [if_neg this]
  exact ⟨hG.skip hd, fun _ _ => rfl⟩
theorem V_passU {j : Nat} {q : Bool} (hd : memb t L = false) (h : ∀ (c : Nat) (u : Fr) (H : HF) (w : World), bOk b c → GV S H0 w0 Hr L M c u H w → DepU u Φ Ds H (fun f => Pass2 ops j f) af.toList (over D u f0)) :
    StepU P r (GV S H0 w0 Hr L M) Φ ops Ds D f0 ⟨some t, p, ty, pos, af, some (j, q)⟩ (fun v _ => v = undef) b none := by
  intro c u H w hb hG
  refine depU_mono ?_ _ _ (h c u H w hb hG)
  rintro f ⟨hy⟩
  have : ¬ wantF ops ⟨some t, p, ty, pos, af, some (j, q)⟩ f = true := by simp [wantF, hy]
  rw [if_neg this]
  exact ⟨hG.skip hd, fun _ _ => rfl⟩
theorem V_fact {φ : Fact} (hd : memb t L = false) (h : ∀ (c : Nat) (u : Fr) (H : HF) (w : World), bOk b c → GV S H0 w0 Hr L M c u H w → DepU u Φ Ds H (fun f => OpW P r ⟨some t, p, ty, pos, af, none⟩ f w (fun v w' => ∃ H', HLe H H' ∧ GV S H0 w0 Hr L M c u H' w' ∧ ∀ H'', HLe H' H'' → φ v H'')) af.toList (over D u f0)) :
    StepU P r (GV S H0 w0 Hr L M) Φ ops Ds D f0 ⟨some t, p, ty, pos, af, none⟩ φ b none := by
  intro c u H w hb hG
  refine depU_mono ?_ _ _ (h c u H w hb hG)
  intro f hf
  have : wantF ops ⟨some t, p, ty, pos, af, none⟩ f = true := rfl
  rw [if_pos this]
  exact hf.mono fun v w' ⟨H', h1, h2, h3⟩ => ⟨H', h1, h2.skip hd, h3⟩
theorem V_factG {φ : Fact} {j : Nat} {q : Bool} (hd : memb t L = false) (h : ∀ (c : Nat) (u : Fr) (H : HF) (w : World), bOk b c → GV S H0 w0 Hr L M c u H w → DepU u Φ Ds H (fun f => yieldF ops f j = some q ∧ OpW P r ⟨some t, p, ty, pos, af, some (j, q)⟩ f w (fun v w' => ∃ H', HLe H H' ∧ GV S H0 w0 Hr L M c u H' w' ∧ ∀ H'', HLe H' H'' → φ v H'')) af.toList (over D u f0)) :
    StepU P r (GV S H0 w0 Hr L M) Φ ops Ds D f0 ⟨some t, p, ty, pos, af, some (j, q)⟩ φ b none := by
  intro c u H w hb hG
  refine depU_mono ?_ _ _ (h c u H w hb hG)
  rintro f ⟨hy, hf⟩
  have : wantF ops ⟨some t, p, ty, pos, af, some (j, q)⟩ f = true := by simp [wantF, hy]
  rw [if_pos this]
  exact hf.mono fun v w' ⟨H', h1, h2, h3⟩ => ⟨H', h1, h2.skip hd, h3⟩
theorem V_eff {φ : Fact} {k : Nat} {d : Option Nat} (h : ∀ (u : Fr) (H : HF) (w : World), GV S H0 w0 Hr L M k u H w → DepU u Φ Ds H (fun f => OpW P r ⟨d, p, ty, pos, af, none⟩ f w (fun v w' => ∃ H', HLe H H' ∧ GV S H0 w0 Hr L M (k + 1) (updO u d v) H' w' ∧ ∀ H'', HLe H' H'' → φ v H'')) af.toList (over D u f0)) :
    StepU P r (GV S H0 w0 Hr L M) Φ ops Ds D f0 ⟨d, p, ty, pos, af, none⟩ φ b (some k) := by
  intro u H w hG
  refine depU_mono ?_ _ _ (h u H w hG)
  intro f hf
  have : wantF ops ⟨d, p, ty, pos, af, none⟩ f = true := rfl
  rw [if_pos this]
  exact hf
theorem V_effG {φ : Fact} {k : Nat} {d : Option Nat} {j : Nat} {q : Bool} (h : ∀ (u : Fr) (H : HF) (w : World), GV S H0 w0 Hr L M k u H w → DepU u Φ Ds H (fun f => yieldF ops f j = some q ∧ OpW P r ⟨d, p, ty, pos, af, some (j, q)⟩ f w (fun v w' => ∃ H', HLe H H' ∧ GV S H0 w0 Hr L M (k + 1) (updO u d v) H' w' ∧ ∀ H'', HLe H' H'' → φ v H'')) af.toList (over D u f0)) :
    StepU P r (GV S H0 w0 Hr L M) Φ ops Ds D f0 ⟨d, p, ty, pos, af, some (j, q)⟩ φ b (some k) := by
  intro u H w hG
  refine depU_mono ?_ _ _ (h u H w hG)
  rintro f ⟨hy, hf⟩
  have : wantF ops ⟨d, p, ty, pos, af, some (j, q)⟩ f = true := by simp [wantF, hy]
  rw [if_pos this]
  exact hf
theorem CW_region_gv {rid : Nat} {Qn Qr : Fr → World → Prop} {Qx : Nat → Fr → World → Prop} (L : List Nat) (M : Nat → Fr → HF → World → Prop) (c0 : Nat) (Φ : List Fact) (es bs : List (Option Nat)) (Ds : List (Option Nat)) (D : List Nat)
    (hm : P.follows .mixedOrders = true) (hd : dstsOk n ops = true) (he : edgesOk ops = true) (hDs : ops.toList.map (·.dst) = Ds) (hD : dstsOf ops.toList = D) (hu : decide D.Nodup = true) (hef : effOk ops es = true) (heu : effUniq es = true) (hbo : boundOk ops es bs = true)
    (hl : (es.any fun e => e == some c0) = true) (hG : Turn S H0 w0 H w) (hM : M 0 f H w) (cl : ∀ c u u' H w H' w', (∀ t, memb t L = true → u' t = u t) → M c u H w → Grow H w H' w' → M c u' H' w') (hst : StepsU P r (GV S H0 w0 H L M) Φ ops Ds D f ops.toList Φ es bs)
    (hfin : ∀ c u H' w', c0 < c → Turn S H0 w0 H' w' → HLe H H' → M c u H' w' → FinU u Qn H' w' ops.toList Φ f) : CW P r n (.region rid ops true) Qn Qr Qx f w := by
  refine CW_region_anyU (H := H) (GV S H0 w0 H L M) Φ es bs Ds D hm hd he hDs hD hu hef heu hbo ⟨hG.trans (Grow.drew hG.sub).turn, HLe.refl _, cl _ _ _ _ _ _ _ (fun _ _ => rfl) hM (Grow.drew hG.sub), cl⟩ hst ?_
  intro c u H' w' hG hc
  simp only [List.any_eq_true] at hl
  obtain ⟨e, he1, he2⟩ := hl
  obtain ⟨j, hj, hje⟩ := List.mem_iff_getElem.1 he1
  have hes : es[j]? = some (some c0) := by
    rw [List.getElem?_eq_getElem hj, hje]
    simpa using he2
  exact hfin c u H' w' (hc j c0 hes) hG.grow hG.le hG.m
theorem CWD_region_gv {rid : Nat} {Qn Qr : List Nat → Fr → World → Prop} {Qx : Nat → List Nat → Fr → World → Prop} {ds : List Nat} (L : List Nat) (M : Nat → Fr → HF → World → Prop) (c0 : Nat) (Φ : List Fact) (es bs : List (Option Nat)) (Ds : List (Option Nat)) (D : List Nat)
    (hm : P.follows .mixedOrders = true) (hd : dstsOk n ops = true) (he : edgesOk ops = true) (hDs : ops.toList.map (·.dst) = Ds) (hD : dstsOf ops.toList = D) (hu : decide D.Nodup = true) (hef : effOk ops es = true) (heu : effUniq es = true) (hbo : boundOk ops es bs = true)
    (hl : (es.any fun e => e == some c0) = true) (hG : Turn S H0 w0 H w) (hM : M 0 f H w) (cl : ∀ c u u' H w H' w', (∀ t, memb t L = true → u' t = u t) → M c u H w → Grow H w H' w' → M c u' H' w') (hst : StepsU P r (GV S H0 w0 H L M) Φ ops Ds D f ops.toList Φ es bs)
    (hfin : ∀ c u H' w', c0 < c → Turn S H0 w0 H' w' → HLe H H' → M c u H' w' → FinU u (Qn ds) H' w' ops.toList Φ f) : CWD P r n (.region rid ops true) Qn Qr Qx ds f w := by
  refine CWD_region_anyU (H := H) (GV S H0 w0 H L M) Φ es bs Ds D hm hd he hDs hD hu hef heu hbo ⟨hG.trans (Grow.drew hG.sub).turn, HLe.refl _, cl _ _ _ _ _ _ _ (fun _ _ => rfl) hM (Grow.drew hG.sub), cl⟩ hst ?_
  intro c u H' w' hG hc
  simp only [List.any_eq_true] at hl
  obtain ⟨e, he1, he2⟩ := hl
  obtain ⟨j, hj, hje⟩ := List.mem_iff_getElem.1 he1
  have hes : es[j]? = some (some c0) := by
    rw [List.getElem?_eq_getElem hj, hje]
    simpa using he2
  exact hfin c u H' w' (hc j c0 hes) hG.grow hG.le hG.m
end
end Go.Proofs.Ytgaabmoknpifnaa
/- cursor.Cursor's methods, walked. Conditions: none but the tree's. -/
namespace Go.Proofs.Ytgaabmoknpifnaa
open Go.Proofs Go.RowKit
set_option linter.unusedVariables false
attribute [local irreducible] CW CWD SeqW OpW CallV
set_option maxHeartbeats 4000000
/-- A cursor's cells, where it stands at such an entry. -/
def curC (root : Value) : Option Ent → List Value
  | none => [root, .string ⟨#[]⟩, .string ⟨#[]⟩, .bool false]
  | some e => [root, .string e.key, .string e.val, .bool true]
theorem curC_form (root : Value) (o : Option Ent) : ∃ k v, curC root o = [root, .string k, .string v, .bool o.isSome] := by
  cases o with
  | none => exact ⟨_, _, rfl⟩
  | some e => exact ⟨_, _, rfl⟩
def firstNot (but : ByteArray) (l : List Ent) : Option Ent := l.find? fun e => decide (e.key ≠ but)
theorem firstNot_none {but : ByteArray} {l : List Ent} (h : ∀ e ∈ l, e.key = but) : firstNot but l = none := by
  unfold firstNot
  rw [List.find?_eq_none]
  intro x hx
  simp [h x hx]
theorem firstNot_some {but : ByteArray} {l r : List Ent} {x : Ent} (h : ∀ e ∈ l, e.key = but) (hx : x.key ≠ but) : firstNot but (l ++ x :: r) = some x := by
  have h1 := firstNot_none h
  unfold firstNot at h1 ⊢
  rw [List.find?_append, h1, List.find?_cons_of_pos (by simpa using hx)]
  rfl
theorem to_c {H0 : HF} {w0 : World} {b : Nat} {root : Value} {k0 v0 : ByteArray} {t0 : Bool} {xs : List Ent} {it : Value} {but : ByteArray} (hS : Sub H0 w0) (hm : Mut H0 w0 b [root, .string k0, .string v0, .bool t0]) (hit : IterV Try.prog encP xs it H0) :
    CallW Try.prog 55 [.pointer (some ⟨b, 0, none⟩), it, .string but].toArray w0 fun v w' => ∃ H', Turn (fun k => k = b) H0 w0 H' w' ∧ v = .bool (firstNot but xs).isSome ∧ Mut H' w' b (curC root (firstNot but xs)) := by
  obtain ⟨gf, lb, hfc, rfl, hit⟩ := hit
  refine CallW_of_CWD Try.func55 rfl Try.ntmps55 Try.results55 rfl ?_
  have hG := Grow.refl hS
  have hbl := hm.lt
  (refine CWD_seq ?_; refine CWD_region rfl ?_)
  (refine S_op (W_box1 hS (by rfl) (by first | rfl | assumption) ?_)); intro H w _ hG' h3; replace hG := hG.trans hG'; replace hS := hG'.sub; replace hm := hm.grow hG'; clear hG'
  skip
  (refine S_op (W_box1 hS (by rfl) (by first | rfl | assumption) ?_)); intro H w _ hG' h5; replace hG := hG.trans hG'; replace hS := hG'.sub; replace h3 := hG'.le _ _ h3; replace hm := hm.grow hG'; clear hG'
  (refine S_op ?_; refine W_assignBool (by first | rfl | assumption) ?_; refine S_nil ?_; refine CWD_seq ?_)
  have hT := hG.turn (S := fun k => k = b)
  have hle := hG.le
  have hsz := hG.below.size
  clear hG
  apply CWD_region_gt (fun c H w => Mut H w b (match c with | 0 => [root, .string k0, .string v0, .bool t0] | 1 => [root, .string ⟨#[]⟩, .string ⟨#[]⟩, .bool t0] | _ => curC root none)) 1 [_, _, _, _, _, _, _, _, _] [none, none, none, none, none, some 0, none, none, some 1] [some 9, some 10, some 11, some 12, some 13, none, some 14, some 15, none] [9, 10, 11, 12, 13, 14, 15] mixed rfl rfl rfl rfl (by decide) rfl rfl rfl (by assumption)
  · exact hm
  · intro c H w H' w' h hg
    exact h.grow hg
  · ((apply steps_cons; case h1 => (apply A_pure; intro c u H' w' hG; have hS' := hG.sub; have hS2' := hG.subOld; (repeat (first | refine depGo_eq rfl rfl rfl ?_ | (refine depGo_fact rfl rfl rfl ?_; intro v hv) | refine depGo_skip rfl ?_ | refine depGo_none rfl ?_)); apply Pure1.mk; intro K hk; exact W_loadHL (by first | rfl | assumption) (by assumption) (by rfl) (by assumption) hk)); (apply steps_cons; case h1 => (apply A_pure; intro c u H' w' hG; have hS' := hG.sub; have hS2' := hG.subOld; (repeat (first | refine depGo_eq rfl rfl rfl ?_ | (refine depGo_fact rfl rfl rfl ?_; intro v hv) | refine depGo_skip rfl ?_ | refine depGo_none rfl ?_)); apply Pure1.mk; intro K hk; exact W_loadHL (by first | rfl | assumption) (by assumption) (by rfl) (by assumption) hk)); (apply steps_cons; case h1 => (apply A_pure; intro c u H' w' hG; have hS' := hG.sub; have hS2' := hG.subOld; (repeat (first | refine depGo_eq rfl rfl rfl ?_ | (refine depGo_fact rfl rfl rfl ?_; intro v hv) | refine depGo_skip rfl ?_ | refine depGo_none rfl ?_)); apply Pure1.mk; intro K hk; exact W_build (by rfl) hk)); (apply steps_cons; case h1 => (apply A_pure; intro c u H' w' hG; have hS' := hG.sub; have hS2' := hG.subOld; (repeat (first | refine depGo_eq rfl rfl rfl ?_ | (refine depGo_fact rfl rfl rfl ?_; intro v hv) | refine depGo_skip rfl ?_ | refine depGo_none rfl ?_)); apply Pure1.mk; intro K hk; exact W_nilCheck (by first | rfl | assumption) hk)); (apply steps_cons; case h1 => (apply A_pure; intro c u H' w' hG; have hS' := hG.sub; have hS2' := hG.subOld; (repeat (first | refine depGo_eq rfl rfl rfl ?_ | (refine depGo_fact rfl rfl rfl ?_; intro v hv) | refine depGo_skip rfl ?_ | refine depGo_none rfl ?_)); apply Pure1.mk; intro K hk; exact W_field (by first | rfl | assumption) hk)))
    apply steps_cons
    · refine A_eff (φ := fun _ _ => True) ?_
      intro u' H' w' hG'
      have hS' := hG'.sub
      have hq : Mut H' w' b [root, .string k0, .string v0, .bool t0] := hG'.m
      (repeat (first | refine depGo_eq rfl rfl rfl ?_ | (refine depGo_fact rfl rfl rfl ?_; intro v hv) | refine depGo_skip rfl ?_ | refine depGo_none rfl ?_))
      refine depGo_nil ?_
      refine W_storeM (o := 1) (vs := [.string ⟨#[]⟩, .string ⟨#[]⟩]) (by rfl) (by rfl) hq (by rfl) (OneCells.of_all (by rfl)) (by rfl) (Nat.le_of_ble_eq_true (by rfl)) ?_
      intro w3 hgb hm3
      exact ⟨H', HLe.refl _, hG'.next (hG'.grow.grownBy hgb (fun g h => by cases h; exact ⟨hq.out, .inr rfl⟩)) (HLe.refl _) hm3, fun _ _ => trivial⟩
    ((apply steps_cons; case h1 => (apply A_pure; intro c u H' w' hG; have hS' := hG.sub; have hS2' := hG.subOld; (repeat (first | refine depGo_eq rfl rfl rfl ?_ | (refine depGo_fact rfl rfl rfl ?_; intro v hv) | refine depGo_skip rfl ?_ | refine depGo_none rfl ?_)); apply Pure1.mk; intro K hk; exact W_nilCheck (by first | rfl | assumption) hk)); (apply steps_cons; case h1 => (apply A_pure; intro c u H' w' hG; have hS' := hG.sub; have hS2' := hG.subOld; (repeat (first | refine depGo_eq rfl rfl rfl ?_ | (refine depGo_fact rfl rfl rfl ?_; intro v hv) | refine depGo_skip rfl ?_ | refine depGo_none rfl ?_)); apply Pure1.mk; intro K hk; exact W_field (by first | rfl | assumption) hk)))
    apply steps_cons
    · refine A_eff (φ := fun _ _ => True) ?_
      intro u' H' w' hG'
      have hS' := hG'.sub
      have hq : Mut H' w' b [root, .string ⟨#[]⟩, .string ⟨#[]⟩, .bool t0] := hG'.m
      (repeat (first | refine depGo_eq rfl rfl rfl ?_ | (refine depGo_fact rfl rfl rfl ?_; intro v hv) | refine depGo_skip rfl ?_ | refine depGo_none rfl ?_))
      refine depGo_nil ?_
      refine W_storeM (o := 3) (vs := [.bool false]) (by rfl) (by rfl) hq (by rfl) (OneCells.of_all (by rfl)) (by rfl) (Nat.le_of_ble_eq_true (by rfl)) ?_
      intro w3 hgb hm3
      exact ⟨H', HLe.refl _, hG'.next (hG'.grow.grownBy hgb (fun g h => by cases h; exact ⟨hq.out, .inr rfl⟩)) (HLe.refl _) hm3, fun _ _ => trivial⟩
    (exact trivial)
  · intro c H' w' hc hT' hle' hM
    (repeat (first | refine fin_eq rfl rfl ?_ | (refine fin_fact rfl ?_; intro v hv) | refine fin_none rfl ?_)); refine fin_nil ?_
    obtain ⟨c, rfl⟩ : ∃ k, c = k + 2 := ⟨c - 2, by omega⟩
    replace hm : Mut H' w' b (curC root none) := hM
    replace h3 := hle' _ _ h3
    replace h5 := hle' _ _ h5
    have hsz1 := hT'.size
    replace hT := hT'
    replace hle := hle.trans hle'
    clear hM hT' hle' hc hsz
    obtain ⟨H, hHH⟩ : ∃ x, x = H' := ⟨_, rfl⟩
    rw [← hHH] at hm hT h3 h5 hle
    have hS := hT.sub
    (refine CWD_seq ?_; refine CWD_seq ?_; refine CWD_region rfl ?_; refine S_op ?_; refine W_moveFun (by first | rfl | assumption) ?_; refine S_nil ?_; refine CWD_block ?_)
    refine CWD_rangeExit (S := fun _ => False) (HoldT (fun k => k = b) H0 w0 [b] (fun pre H2 w2 => HLe H H2 ∧ Mut H2 w2 b (curC root none) ∧ ∀ e ∈ pre, e.key = but)) (HoldT (fun k => k = b) H0 w0 [b] (fun pre H2 w2 => HLe H H2 ∧ Mut H2 w2 b (curC root (firstNot but pre)) ∧ (firstNot but pre).isSome = true))
      (HoldT.good ?_) (HoldT.good ?_).stable ⟨hT, fun _ h => h.elim, ?_, HLe.refl _, hm, fun _ h => by cases h⟩ rfl hS (fun _ => rfl) (by decide) (fun w1 _ => hit H w1 hle) (fun _ h => h.elim) ?_ ?_
    · exact fun S _ H w H' w' hs hT h => ⟨h.1.trans hT.le, h.2.1.turn hT (hs _ (by simp)), h.2.2⟩
    · exact fun S _ H w H' w' hs hT h => ⟨h.1.trans hT.le, h.2.1.turn hT (hs _ (by simp)), h.2.2⟩
    · intro b' hb'
      simp at hb'; subst hb'
      exact ⟨fun h => h, hm.lt⟩
    · intro l x W
      (refine CW_seq ?_; refine CW_region rfl ?_; refine S_op ?_; refine W_assignStr (by first | rfl | assumption) ?_; refine S_nil ?_; refine CW_region rfl ?_; refine S_op ?_; refine W_assignStr (by first | rfl | assumption) ?_; refine S_nil ?_)
      refine ⟨rfl, ?_⟩
      clear hm hT hS
      rintro l X pre rest H W hx hS ⟨hT, hXs, hbs, hle2, hm, hpre⟩ _
      replace h3 := hle2 _ _ h3
      replace h5 := hle2 _ _ h5
      by_cases hk : x.key = but
      · (refine CW_block ?_; refine CW_seq ?_; refine CW_region rfl ?_; refine S_op ?_; refine W_moveStr (by first | rfl | assumption) ?_; refine S_op ?_; refine W_loadHL (by first | rfl | assumption) (by assumption) (by rfl) (by assumption) ?_; refine S_op ?_; refine W_sneqF (by first | rfl | assumption) (by first | rfl | assumption) (by first | assumption | rfl) ?_; refine S_nil ?_; refine CW_false (by first | rfl | assumption) ?_; refine CW_skip ?_)
        exact ⟨H, Turn.refl hS, hT, hXs, hbs, hle2, hm, fun e he => by
          rcases List.mem_append.1 he with h | h
          · exact hpre e h
          · simp at h; subst h; exact hk⟩
      · (refine CW_block ?_; refine CW_seq ?_; refine CW_region rfl ?_; refine S_op ?_; refine W_moveStr (by first | rfl | assumption) ?_; refine S_op ?_; refine W_loadHL (by first | rfl | assumption) (by assumption) (by rfl) (by assumption) ?_; refine S_op ?_; refine W_sneqT (by first | rfl | assumption) (by first | rfl | assumption) (by assumption) ?_; refine S_nil ?_; refine CW_true (by first | rfl | assumption) ?_; refine CW_seq ?_)
        have hT0 := Turn.refl (S := fun k => k = b) hS
        apply CW_region_gt (H0 := H) (w0 := W) (fun c H w => Mut H w b (match c with | 0 => curC root none | 1 => [root, .string x.key, .string x.val, .bool false] | _ => curC root (some x))) 1 [_, _, _, _, _, _, _, _, _, _, _] [none, none, none, none, none, none, none, some 0, none, none, some 1] [some 22, some 23, some 24, some 25, some 26, some 27, some 28, none, some 29, some 30, none] [22, 23, 24, 25, 26, 27, 28, 29, 30] mixed rfl rfl rfl rfl (by decide) rfl rfl rfl (by assumption)
        · exact hm
        · intro c H w H' w' h hg
          exact h.grow hg
        · ((apply steps_cons; case h1 => (apply A_pure; intro c u H' w' hG; have hS' := hG.sub; have hS2' := hG.subOld; (repeat (first | refine depGo_eq rfl rfl rfl ?_ | (refine depGo_fact rfl rfl rfl ?_; intro v hv) | refine depGo_skip rfl ?_ | refine depGo_none rfl ?_)); apply Pure1.mk; intro K hk; exact W_loadHL (by first | rfl | assumption) (by assumption) (by rfl) (by assumption) hk)); (apply steps_cons; case h1 => (apply A_pure; intro c u H' w' hG; have hS' := hG.sub; have hS2' := hG.subOld; (repeat (first | refine depGo_eq rfl rfl rfl ?_ | (refine depGo_fact rfl rfl rfl ?_; intro v hv) | refine depGo_skip rfl ?_ | refine depGo_none rfl ?_)); apply Pure1.mk; intro K hk; exact W_loadHL (by first | rfl | assumption) (by assumption) (by rfl) (by assumption) hk)); (apply steps_cons; case h1 => (apply A_pure; intro c u H' w' hG; have hS' := hG.sub; have hS2' := hG.subOld; (repeat (first | refine depGo_eq rfl rfl rfl ?_ | (refine depGo_fact rfl rfl rfl ?_; intro v hv) | refine depGo_skip rfl ?_ | refine depGo_none rfl ?_)); apply Pure1.mk; intro K hk; exact W_moveStr (by first | rfl | assumption) hk)); (apply steps_cons; case h1 => (apply A_pure; intro c u H' w' hG; have hS' := hG.sub; have hS2' := hG.subOld; (repeat (first | refine depGo_eq rfl rfl rfl ?_ | (refine depGo_fact rfl rfl rfl ?_; intro v hv) | refine depGo_skip rfl ?_ | refine depGo_none rfl ?_)); apply Pure1.mk; intro K hk; exact W_moveStr (by first | rfl | assumption) hk)))
          (apply steps_cons; case h1 => (apply A_pure; intro c u H' w' hG'; (repeat (first | refine depGo_eq rfl rfl rfl ?_ | (refine depGo_fact rfl rfl rfl ?_; intro v hv) | refine depGo_skip rfl ?_ | refine depGo_none rfl ?_)); refine depGo_nil ?_; apply Pure1.mk; intro K hk; exact W_build (cs := [.string x.key, .string x.val]) (by rfl) hk))
          ((apply steps_cons; case h1 => (apply A_pure; intro c u H' w' hG; have hS' := hG.sub; have hS2' := hG.subOld; (repeat (first | refine depGo_eq rfl rfl rfl ?_ | (refine depGo_fact rfl rfl rfl ?_; intro v hv) | refine depGo_skip rfl ?_ | refine depGo_none rfl ?_)); apply Pure1.mk; intro K hk; exact W_nilCheck (by first | rfl | assumption) hk)); (apply steps_cons; case h1 => (apply A_pure; intro c u H' w' hG; have hS' := hG.sub; have hS2' := hG.subOld; (repeat (first | refine depGo_eq rfl rfl rfl ?_ | (refine depGo_fact rfl rfl rfl ?_; intro v hv) | refine depGo_skip rfl ?_ | refine depGo_none rfl ?_)); apply Pure1.mk; intro K hk; exact W_field (by first | rfl | assumption) hk)))
          apply steps_cons
          · refine A_eff (φ := fun _ _ => True) ?_
            intro u' H' w' hG'
            have hS' := hG'.sub
            have hq : Mut H' w' b [root, .string ⟨#[]⟩, .string ⟨#[]⟩, .bool false] := hG'.m
            (repeat (first | refine depGo_eq rfl rfl rfl ?_ | (refine depGo_fact rfl rfl rfl ?_; intro v hv) | refine depGo_skip rfl ?_ | refine depGo_none rfl ?_))
            refine depGo_nil ?_
            refine W_storeM (o := 1) (vs := [.string x.key, .string x.val]) (by rfl) (by rfl) hq (by rfl) (OneCells.of_all (by rfl)) (by rfl) (Nat.le_of_ble_eq_true (by rfl)) ?_
            intro w3 hgb hm3
            exact ⟨H', HLe.refl _, hG'.next (hG'.grow.grownBy hgb (fun g h => by cases h; exact ⟨hq.out, .inr rfl⟩)) (HLe.refl _) hm3, fun _ _ => trivial⟩
          ((apply steps_cons; case h1 => (apply A_pure; intro c u H' w' hG; have hS' := hG.sub; have hS2' := hG.subOld; (repeat (first | refine depGo_eq rfl rfl rfl ?_ | (refine depGo_fact rfl rfl rfl ?_; intro v hv) | refine depGo_skip rfl ?_ | refine depGo_none rfl ?_)); apply Pure1.mk; intro K hk; exact W_nilCheck (by first | rfl | assumption) hk)); (apply steps_cons; case h1 => (apply A_pure; intro c u H' w' hG; have hS' := hG.sub; have hS2' := hG.subOld; (repeat (first | refine depGo_eq rfl rfl rfl ?_ | (refine depGo_fact rfl rfl rfl ?_; intro v hv) | refine depGo_skip rfl ?_ | refine depGo_none rfl ?_)); apply Pure1.mk; intro K hk; exact W_field (by first | rfl | assumption) hk)))
          apply steps_cons
          · refine A_eff (φ := fun _ _ => True) ?_
            intro u' H' w' hG'
            have hS' := hG'.sub
            have hq : Mut H' w' b [root, .string x.key, .string x.val, .bool false] := hG'.m
            (repeat (first | refine depGo_eq rfl rfl rfl ?_ | (refine depGo_fact rfl rfl rfl ?_; intro v hv) | refine depGo_skip rfl ?_ | refine depGo_none rfl ?_))
            refine depGo_nil ?_
            refine W_storeM (o := 3) (vs := [.bool true]) (by rfl) (by rfl) hq (by rfl) (OneCells.of_all (by rfl)) (by rfl) (Nat.le_of_ble_eq_true (by rfl)) ?_
            intro w3 hgb hm3
            exact ⟨H', HLe.refl _, hG'.next (hG'.grow.grownBy hgb (fun g h => by cases h; exact ⟨hq.out, .inr rfl⟩)) (HLe.refl _) hm3, fun _ _ => trivial⟩
          (exact trivial)
        · intro c H' w' hc hT' hle' hM
          (repeat (first | refine fin_eq rfl rfl ?_ | (refine fin_fact rfl ?_; intro v hv) | refine fin_none rfl ?_)); refine fin_nil ?_
          obtain ⟨c, rfl⟩ : ∃ k, c = k + 2 := ⟨c - 2, by omega⟩
          replace hM : Mut H' w' b (curC root (some x)) := hM
          (refine CW_exit ?_; refine xblk_miss rfl ?_)
          have hfn : firstNot but (pre ++ [x]) = some x := firstNot_some hpre hk
          exact ⟨H', hT'.wider (fun k _ e => by subst e; exact (hbs _ (by simp)).1), rfl, hT.trans hT', fun j hj => ⟨(hXs j hj).1, Nat.lt_of_lt_of_le (hXs j hj).2 hT'.size⟩, fun b hb => ⟨(hbs b hb).1, Nat.lt_of_lt_of_le (hbs b hb).2 hT'.size⟩, hle2.trans hle', by rw [hfn]; exact hM, by rw [hfn]; rfl⟩
    · clear hm hT hS
      rintro D X H w hD hM hS hle' hXD hend
      obtain ⟨hT, hle2, hbX, hm⟩ : Turn (fun k => k = b) H0 w0 H w ∧ HLe _ H ∧ ¬ X b ∧ Mut H w b (curC root (firstNot but xs)) := by
        rcases hend with ⟨hT, hXs, hbs, hle2, hm, hpre⟩ | ⟨pre, rest, hx, hT, hXs, hbs, hle2, hm, hpre⟩
        · exact ⟨hT, hle2, (hbs b (by simp)).1, by rw [firstNot_none hpre]; exact hm⟩
        · refine ⟨hT, hle2, (hbs b (by simp)).1, ?_⟩
          have : firstNot but xs = firstNot but pre := by
            rw [hx]
            unfold firstNot at hpre ⊢
            rw [List.find?_append]
            cases hf : pre.find? (fun e => decide (e.key ≠ but)) with
            | none => rw [hf] at hpre; cases hpre
            | some e => rfl
          rw [this]; exact hm
      replace h3 := hle2 _ _ h3
      clear hend
      obtain ⟨k1, v1, ec⟩ := curC_form root (firstNot but xs)
      rw [ec] at hm ⊢
      (refine CWD_seq ?_; refine CWD_region rfl ?_; refine S_op ?_; refine W_loadHL (by first | rfl | assumption) (by assumption) (by rfl) (by assumption) ?_; refine S_op ?_; refine W_nilCheck (by first | rfl | assumption) ?_; refine S_op ?_; refine W_field (by first | rfl | assumption) ?_; refine S_op ?_; refine W_loadM (by first | rfl | assumption) (by assumption) (by rfl) ?_; refine S_op ?_; refine W_assignBool (by first | rfl | assumption) ?_; refine S_nil ?_; refine CWD_ret ?_)
      refine FinD_one hM hS fun w' hTD => ?_
      refine ⟨_, ResW_one (v := .bool _) rfl, H, hT.after hTD fun k e => .inl (by omega), rfl, hm.turn hTD fun e => hbX (by rw [e]; exact hXD)⟩
end Go.Proofs.Ytgaabmoknpifnaa
