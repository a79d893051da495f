/- walk.Count and walk.Take, walked. Conditions: sizes. -/
import Derived.Test.YtgaabmoknpifnaaWalk2
namespace Go.Proofs.Ytgaabmoknpifnaa
open Go.Proofs Go.RowKit
set_option linter.unusedVariables false
attribute [local irreducible] CW CWD SeqW OpW CallV
set_option maxHeartbeats 4000000
/-- How many lie ahead of the first whose key is not below k. -/
def aheadOf (k : ByteArray) (l : List Ent) : Nat := (l.takeWhile fun e => slt e.key k).length
theorem ahead_all {k : ByteArray} {l : List Ent} (h : ∀ e ∈ l, slt e.key k = true) : aheadOf k l = l.length := by
  have := List.takeWhile_append_of_pos (p := fun e => slt e.key k) (l₁ := l) (l₂ := []) h
  simp only [List.append_nil, List.takeWhile_nil] at this
  rw [aheadOf, this]
theorem ahead_split {k : ByteArray} {l r : List Ent} {x : Ent} (h : ∀ e ∈ l, slt e.key k = true) (hx : slt x.key k = false) : aheadOf k (l ++ x :: r) = l.length := by
  rw [aheadOf, List.takeWhile_append_of_pos h]
  simp [hx]
theorem count_c (H : HF) (t : Tr) (k k2 : ByteArray) (ht : Tr.At H t) (hb : t.items.length ≤ 1000000) : Fn Try.prog 19 [t.val, .string k, .string k2] H fun v _ => v = .int .i64 (aheadOf k2 (fromL k t.items) : Nat) := by
  obtain ⟨H0, rfl⟩ : ∃ H0, H0 = H := ⟨_, rfl⟩
  have hlen : (fromL k t.items).length ≤ 1000000 := Nat.le_trans (List.length_filter_le _ _) hb
  refine Fn_of_CWD Try.func19 rfl Try.ntmps19 Try.results19 rfl fun w0 hS => ?_; have hS0 := hS; have hG := Grow.refl hS
  (refine CWD_seq ?_; refine CWD_region rfl ?_)
  (refine S_op (W_box1 hS (by rfl) (by first | rfl | assumption) ?_)); intro H w _ hG' h5; replace hG := hG.trans hG'; replace hS := hG'.sub; replace ht := ht.mono hG'.le; clear hG'
  (refine S_op ?_; refine W_assignInt (by first | rfl | assumption) ?_; refine S_nil ?_; refine CWD_scope ?_; refine CWD_seq ?_; refine CWD_region rfl ?_)
  (refine S_op (W_alloc hS ?_)); intro w c7b hG' c7h c7; replace c7h := Nat.le_trans hG.below.size (Nat.le_of_eq c7h); replace hG := hG.trans hG'; replace hS := hG'.sub; clear hG'
  skip
  (refine S_op0 (W_storeM (o := 0) (vs := [.int .i64 0]) (by rfl) (by rfl) c7 (by rfl) (OneCells.of_all (by rfl)) (by rfl) (Nat.le_of_ble_eq_true (by rfl)) ?_)); intro w hgb' hm'; replace hG := hG.grownBy hgb' (fun g h => by cases h; exact ⟨c7.out, c7h⟩); replace hS := hG.sub; replace c7 : Mut _ w c7b ([.int .i64 0]) := hm'; clear hm'; clear hgb'
  (refine S_nil ?_; refine CWD_seq ?_; refine CWD_label ?_; refine CWD_seq ?_; refine CWD_seq ?_; refine CWD_region rfl ?_; refine S_op ?_; refine W_movePtr (by first | rfl | assumption) ?_; refine S_op ?_; refine W_moveStr (by first | rfl | assumption) ?_)
  (refine S_op ?_; refine W_call hS (by rfl) (from_c _ t k ht) ?_); rintro v H w hG' hv; replace hG := hG.trans hG'; replace hS := hG'.sub; replace ht := ht.mono hG'.le; replace h5 := hG'.le _ _ h5; replace c7 := c7.grow hG'; clear hG'
  obtain ⟨gf, lb, hfc, rfl, hit⟩ := hv
  (refine S_nil ?_; refine CWD_block ?_)
  refine CWD_range (S := fun _ => False) (Hold H0 w0 [c7b] (fun pre H2 w2 => HLe H H2 ∧ Mut H2 w2 c7b [.int .i64 (pre.length : Nat)] ∧ ∀ e ∈ pre, slt e.key k2 = true))
    (exitI 0 (Hold H0 w0 [c7b] (fun pre H2 w2 => ∃ q x, pre = q ++ [x] ∧ Mut H2 w2 c7b [.int .i64 (q.length : Nat)] ∧ (∀ e ∈ q, slt e.key k2 = true) ∧ slt x.key k2 = false)))
    (Hold.good ?_) (exitI.stable (Hold.good ?_).stable) ⟨hG, fun _ h => h.elim, ?_, HLe.refl _, c7, fun _ h => by simp at h⟩
    rfl hS (fun _ => rfl) (by decide) (fun w1 _ => hit H w1 (HLe.refl _)) (fun _ h => h.elim) ?_ ?_ ?_ ?_
  · rintro S pre H w H' w' hs hT ⟨h1, h2, h3⟩
    exact ⟨h1.trans hT.le, h2.turn hT (hs _ (by simp)), h3⟩
  · rintro S pre H w H' w' hs hT ⟨q, x, h1, h2, h3⟩
    exact ⟨q, x, h1, h2.turn hT (hs _ (by simp)), h3⟩
  · intro b hb
    simp at hb; subst hb
    exact ⟨fun h => h, c7.lt⟩
  · intro l x W
    (refine CW_region rfl ?_; refine S_op ?_; refine W_assignStr (by first | rfl | assumption) ?_; refine S_nil ?_)
    refine ⟨rfl, ?_⟩
    intro l X pre rest H W hx hS ⟨hGw, hXs, hbs, hle, c7, hpre⟩ _
    replace h5 := hle _ _ h5
    have hpl : pre.length < 1000000 := by have := congrArg List.length hx; simp at this; omega
    have hG := hGw
    have hS0' := hS
    cases hk : slt x.key k2 with
    | true =>
      (refine CW_block ?_; refine CW_block ?_; refine CW_seq ?_; refine CW_region rfl ?_; refine S_op ?_; refine W_moveStr (by first | rfl | assumption) ?_; refine S_op ?_; refine W_loadHL (by first | rfl | assumption) (by assumption) (by rfl) (by assumption) ?_; refine S_op ?_; refine W_sgeqB (by first | rfl | assumption) (by first | rfl | assumption) (by assumption) ?_; refine S_op ?_; refine W_assignBool (by first | rfl | assumption) ?_; refine S_nil ?_; refine CW_false (by first | rfl | assumption) ?_; refine CW_region rfl ?_; refine S_op ?_; refine W_loadM (by first | rfl | assumption) (by assumption) (by rfl) ?_; refine S_op ?_; refine W_add1 (by first | rfl | assumption) (by omega) ?_)
      (refine S_op0 (W_storeM (o := 0) (vs := [.int .i64 ((pre.length + 1 : Nat) : Int)]) (by rfl) (by rfl) c7 (by rfl) (OneCells.of_all (by rfl)) (by rfl) (Nat.le_of_ble_eq_true (by rfl)) ?_)); intro w hgb' hm'; replace hG := hG.grownBy hgb' (fun g h => by cases h; exact ⟨c7.out, c7h⟩); replace hS := hG.sub; replace c7 : Mut _ w c7b ([.int .i64 ((pre.length + 1 : Nat) : Int)]) := hm'; clear hm'; skip
      have hT : Turn (notIn X) H W H w := (Turn.refl hS0').grownBy hgb' (fun g h => by cases h; exact ⟨c7.out, .inr (hbs c7b (by simp)).1⟩)
      (refine S_nil ?_)
      exact ⟨H, hT, hG, fun j hj => ⟨(hXs j hj).1, Nat.lt_of_lt_of_le (hXs j hj).2 hT.size⟩, fun b hb => ⟨(hbs b hb).1, Nat.lt_of_lt_of_le (hbs b hb).2 hT.size⟩, hle, by rw [List.length_append]; exact c7, by
        intro e he
        rcases List.mem_append.1 he with h | h
        · exact hpre e h
        · simp at h; subst h; exact hk⟩
    | false =>
      (refine CW_block ?_; refine CW_block ?_; refine CW_seq ?_; refine CW_region rfl ?_; refine S_op ?_; refine W_moveStr (by first | rfl | assumption) ?_; refine S_op ?_; refine W_loadHL (by first | rfl | assumption) (by assumption) (by rfl) (by assumption) ?_; refine S_op ?_; refine W_sgeqB (by first | rfl | assumption) (by first | rfl | assumption) (by assumption) ?_; refine S_op ?_; refine W_assignBool (by first | rfl | assumption) ?_; refine S_nil ?_; refine CW_true (by first | rfl | assumption) ?_; refine CW_exit ?_; refine xblk_miss rfl ?_; refine xblk_miss rfl ?_)
      exact ⟨H, Turn.refl hS, rfl, hGw, hXs, hbs, pre, x, rfl, c7, hpre, hk⟩
  · rintro D X H' W' hD hM hS' hle' hXs hXD ⟨hG, hXs2, hbs, hle, c7, hpre⟩
    (refine CWD_seq ?_; refine CWD_region rfl ?_; refine S_op ?_; refine W_loadM (by first | rfl | assumption) (by assumption) (by rfl) ?_; refine S_op ?_; refine W_assignInt (by first | rfl | assumption) ?_; refine S_nil ?_; refine CWD_ret ?_)
    refine FinD_one hM hS' fun w' hT => ?_
    exact ⟨_, ResW_one (v := .int _ _) rfl, H', Turn.grow hG hT (fun k e => by subst e; exact (hXs2 _ hXD).1), by rw [ahead_all hpre]⟩
  · exact fun _ _ _ _ _ _ _ _ _ _ _ _ _ h => False.elim h
  · rintro i D X H' W' pre rest hx hD hM hS' hle' hXs hXD ⟨rfl, hG, hXs2, hbs, q, x, rfl, c7, hq, hk⟩
    (refine CWD_seq ?_; refine CWD_region rfl ?_; refine S_op ?_; refine W_loadM (by first | rfl | assumption) (by assumption) (by rfl) ?_; refine S_op ?_; refine W_assignInt (by first | rfl | assumption) ?_; refine S_nil ?_; refine CWD_ret ?_)
    refine FinD_one hM hS' fun w' hT => ?_
    exact ⟨_, ResW_one (v := .int _ _) rfl, H', Turn.grow hG hT (fun k e => by subst e; exact (hXs2 _ hXD).1), by rw [hx, List.append_assoc, List.singleton_append, ahead_split hq hk]⟩
def keysL (l : List Ent) : List Value := l.map fun e => .string e.key
theorem keysL_len (l : List Ent) : (keysL l).length = l.length := by simp [keysL]
theorem take_c (H : HF) (t : Tr) (k : ByteArray) (m : Int) (ht : Tr.At H t) (hb : t.items.length ≤ 1000000) : Fn Try.prog 18 [t.val, .string k, .int .i64 m] H fun v H' => IsSl 1 v ((fromL k t.items).take m.toNat).length (keysL ((fromL k t.items).take m.toNat)) H' := by
  obtain ⟨H0, rfl⟩ : ∃ H0, H0 = H := ⟨_, rfl⟩
  have hlen : (fromL k t.items).length ≤ 1000000 := Nat.le_trans (List.length_filter_le _ _) hb
  refine Fn_of_CWD Try.func18 rfl Try.ntmps18 Try.results18 rfl fun w0 hS => ?_; have hS0 := hS; have hG := Grow.refl hS
  (refine CWD_seq ?_; refine CWD_region rfl ?_)
  (refine S_op (W_box1 hS (by rfl) (by first | rfl | assumption) ?_)); intro H w _ hG' h5; replace hG := hG.trans hG'; replace hS := hG'.sub; replace ht := ht.mono hG'.le; clear hG'
  (refine S_op ?_; refine W_assignSl (by first | rfl | assumption) ?_; refine S_nil ?_; refine CWD_seq ?_; refine CWD_region rfl ?_)
  (refine S_op (W_alloc hS ?_)); intro w c7b hG' c7h c7; replace c7h := Nat.le_trans hG.below.size (Nat.le_of_eq c7h); replace hG := hG.trans hG'; replace hS := hG'.sub; clear hG'
  (refine S_nil ?_; refine CWD_seq ?_; refine CWD_seq ?_; refine CWD_region rfl ?_; refine S_op ?_; refine W_movePtr (by first | rfl | assumption) ?_; refine S_op ?_; refine W_moveStr (by first | rfl | assumption) ?_)
  (refine S_op ?_; refine W_call hS (by rfl) (entriesI_c _ t k ht) ?_); rintro v H w hG' hv; replace hG := hG.trans hG'; replace hS := hG'.sub; replace ht := ht.mono hG'.le; replace h5 := hG'.le _ _ h5; replace c7 := c7.grow hG'; clear hG'
  obtain ⟨gf, lb, hfc, rfl, hit⟩ := hv
  (refine S_nil ?_; refine CWD_block ?_)
  refine CWD_rangeBox (S := fun _ => False) (HoldO H0 w0 [c7b] 9 1 keysL (fun A n c pre H2 w2 => HLe H H2 ∧ Mut H2 w2 c7b [.slice A n c] ∧ n = pre.length ∧ (∀ a, A = some a → a.block ≠ c7b) ∧ (pre.length : Int) ≤ max m 0))
    (exitI 0 (HoldO H0 w0 [c7b] 9 1 (fun pre => keysL pre.dropLast) (fun A n c pre H2 w2 => Mut H2 w2 c7b [.slice A n c] ∧ n = pre.dropLast.length ∧ pre ≠ [] ∧ (pre.dropLast.length : Int) ≤ max m 0 ∧ m ≤ (pre.dropLast.length : Int))))
    (HoldO.good ?_) (exitI.stable (HoldO.good ?_).stable) ⟨hG, fun _ h => h.elim, ?_, none, 0, 0, Own.nil _ _ _ _ _, (fun _ h => by cases h), HLe.refl _, c7, rfl, (fun _ h => by cases h), by simp; omega⟩
    rfl hS (fun _ => rfl) (by decide) (fun w1 _ => hit H w1 (HLe.refl _)) (fun _ h => h.elim) ?_ ?_ ?_ ?_
  · rintro A n c S pre H w H' w' hs hT ⟨h1, h2, h3⟩
    exact ⟨h1.trans hT.le, h2.turn hT (hs _ (by simp)), h3⟩
  · rintro A n c S pre H w H' w' hs hT ⟨h2, h3⟩
    exact ⟨h2.turn hT (hs _ (by simp)), h3⟩
  · intro b hb
    simp at hb; subst hb
    exact ⟨fun h => h, c7.lt⟩
  · intro l x H1 W hS
    have hG := Grow.refl hS
    (refine CW_region rfl ?_)
    (refine S_op (W_alloc hS ?_)); intro w c8b hG' c8h c8; replace c8h := Nat.le_trans hG.below.size (Nat.le_of_eq c8h); replace hG := hG.trans hG'; replace hS := hG'.sub; clear hG'
    skip
    (refine S_op0 (W_storeM (o := 0) (vs := [.string x.key, .string x.val]) (by rfl) (by rfl) c8 (by rfl) (OneCells.of_all (by rfl)) (by rfl) (Nat.le_of_ble_eq_true (by rfl)) ?_)); intro w hgb' hm'; replace hG := hG.grownBy hgb' (fun g h => by cases h; exact ⟨c8.out, c8h⟩); replace hS := hG.sub; replace c8 : Mut _ w c8b ([.string x.key, .string x.val]) := hm'; clear hm'; clear hgb'
    (refine S_nil ?_)
    refine ⟨c8b, _, c8h, hG, c8, ?_⟩
    clear c8 hG hS
    rintro l X pre rest H W hx hS ⟨hGw, hXs, hbs, A, n, c, hown, hXA, hle, c7, rfl, hA7, hpm⟩ ⟨hX8, c8⟩
    replace h5 := hle _ _ h5
    have hpl : pre.length < 1000000 := by have := congrArg List.length hx; simp at this; omega
    have hG := hGw
    have hS0' := hS
    by_cases hk : m ≤ (pre.length : Int)
    · (refine CW_block ?_; refine CW_seq ?_; refine CW_seq ?_; refine CW_region rfl ?_; refine S_op ?_; refine W_loadM (by first | rfl | assumption) (by assumption) (by rfl) ?_; refine S_op ?_; refine W_len (by first | rfl | assumption) ?_; refine S_op ?_; refine W_loadHL (by first | rfl | assumption) (by assumption) (by rfl) (by assumption) ?_; refine S_op ?_; refine W_geqT (by first | rfl | assumption) (by first | rfl | assumption) (by first | omega | rfl) ?_; refine S_nil ?_; refine CW_true (by first | rfl | assumption) ?_; refine CW_exit ?_; refine xblk_miss rfl ?_)
      exact ⟨H, Turn.refl hS, rfl, hGw, hXs, hbs, A, _, c, by show Own _ _ _ _ _ _ _ _ (keysL (pre ++ [x]).dropLast); rw [List.dropLast_concat]; exact hown, hXA, c7, by simp, by simp, by simpa using hpm, by simpa using hk⟩
    · (refine CW_block ?_; refine CW_seq ?_; refine CW_seq ?_; refine CW_region rfl ?_; refine S_op ?_; refine W_loadM (by first | rfl | assumption) (by assumption) (by rfl) ?_; refine S_op ?_; refine W_len (by first | rfl | assumption) ?_; refine S_op ?_; refine W_loadHL (by first | rfl | assumption) (by assumption) (by rfl) (by assumption) ?_; refine S_op ?_; refine W_geqF (by first | rfl | assumption) (by first | rfl | assumption) (by first | omega | rfl) ?_; refine S_nil ?_; refine CW_false (by first | rfl | assumption) ?_; refine CW_skip ?_; refine CW_region rfl ?_; refine S_op ?_; refine W_loadM (by first | rfl | assumption) (by assumption) (by rfl) ?_; refine S_op ?_; refine W_field (by first | rfl | assumption) ?_; refine S_op ?_; refine W_loadM (by first | rfl | assumption) (by assumption) (by rfl) ?_)
      refine S_op ?_
      refine W_build1 (sz := 1) (v := .string x.key) hS (by omega) (by rfl) (by rfl) ?_
      intro H2 w2 b hG' hb' _ _
      have hT := hG'.turn (S := notIn X)
      have hsz2 := hG'.below.size
      replace hG := hG.trans hG'
      replace hS := hG'.sub
      replace hown := hown.grow hG'
      replace c7 := c7.grow hG'
      replace hle := hle.trans hG'.le
      clear hG' c8
      refine S_op ?_
      refine W_append (news := [.string x.key]) (by rfl) (by rfl) hG hown ((SlAt.of_row hb').cells hS) (by rfl) (by intro u hu; simp at hu; subst hu; rfl) (by decide) (by omega) (by omega) ?_
      intro A2 c2 w3 hG2 hown2 hgb hA2
      have h7A : (Value.slice A pre.length c).ownBlock ≠ some c7b := by
        cases A with
        | none => simp [Value.ownBlock]
        | some a => simpa [Value.ownBlock] using hA7 a rfl
      replace c7 := c7.other hgb h7A
      replace hT := hT.grownBy hgb (fun g h => by
        cases A with
        | none => simp [Value.ownBlock] at h
        | some a => simp [Value.ownBlock] at h; subst h; exact ⟨hown.out a rfl, .inr (hXA a rfl)⟩)
      have hn2 : ∀ a, A2 = some a → a.block ≠ c7b := by
        intro a ha
        rcases hA2 with ⟨rfl, _⟩ | ⟨g, rfl, hg⟩
        · exact hA7 a ha
        · cases ha; have := (hbs c7b (by simp)).2; show g ≠ c7b; omega
      have hX2 : ∀ a, A2 = some a → ¬ X a.block := by
        intro a ha h
        rcases hA2 with ⟨rfl, _⟩ | ⟨g, rfl, hg⟩
        · exact hXA a ha h
        · cases ha; have := (hXs g h).2; have := hT.size; omega
      replace hG := hG2
      replace hS := hG2.sub
      skip
      (refine S_op0 (W_storeM (o := 0) (vs := [.slice A2 (pre.length + 1) c2]) (by rfl) (by rfl) c7 (by rfl) (OneCells.of_all (by rfl)) (by rfl) (Nat.le_of_ble_eq_true (by rfl)) ?_)); intro w hgb' hm'; replace hG := hG.grownBy hgb' (fun g h => by cases h; exact ⟨c7.out, c7h⟩); replace hS := hG.sub; replace c7 : Mut _ w c7b ([.slice A2 (pre.length + 1) c2]) := hm'; clear hm'; skip
      replace hT := hT.grownBy hgb' (fun g h => by cases h; exact ⟨c7.out, .inr (hbs c7b (by simp)).1⟩)
      replace hown2 := hown2.other hgb' (fun a ha e => hn2 a ha (Option.some.inj e))
      (refine S_nil ?_)
      exact ⟨H2, hT, hG, fun j hj => ⟨(hXs j hj).1, Nat.lt_of_lt_of_le (hXs j hj).2 hT.size⟩, fun b hb => ⟨(hbs b hb).1, Nat.lt_of_lt_of_le (hbs b hb).2 hT.size⟩, A2, _, c2, by simpa [keysL] using hown2, hX2, hle, c7, by simp, hn2, by simp; omega⟩
  · rintro D X H' W' hD hM hS' hle' hXs hXD ⟨hG, hXs2, hbs, A, n, c, hown, hXA, hle, c7, rfl, hA7, hpm⟩
    have e : (fromL k t.items).take m.toNat = fromL k t.items := List.take_of_length_le (by omega)
    rw [e]
    (refine CWD_seq ?_; refine CWD_region rfl ?_; refine S_op ?_; refine W_loadM (by first | rfl | assumption) (by assumption) (by rfl) ?_; refine S_op ?_; refine W_assignSl (by first | rfl | assumption) ?_; refine S_nil ?_; refine CWD_ret ?_)
    refine FinD_one hM hS' fun w' hT => ?_
    have hG2 := Turn.grow hG hT (fun k e => by subst e; exact (hXs2 _ hXD).1)
    replace hown := hown.turn hT (fun a ha e => hXA a ha (e ▸ hXD))
    obtain ⟨H3, hle3, hG3, hsl3, _⟩ := hown.freeze hG2
    exact ⟨_, ResW_one (v := .slice _ _ _) rfl, H3, hG3, A, c, rfl, hown.cap, hsl3, by rw [keysL_len]; omega⟩
  · exact fun _ _ _ _ _ _ _ _ _ _ _ _ _ h => False.elim h
  · rintro i D X H' W' pre rest hx hD hM hS' hle' hXs hXD ⟨rfl, hG, hXs2, hbs, A, n, c, hown, hXA, c7, rfl, hne, hpm, hmp⟩
    obtain ⟨q, x, rfl⟩ : ∃ q x, pre = q ++ [x] := ⟨pre.dropLast, pre.getLast hne, (List.dropLast_concat_getLast hne).symm⟩
    simp only [List.dropLast_concat] at *
    have e : (fromL k t.items).take m.toNat = q := by
      rw [hx, List.append_assoc, List.take_append_of_le_length (by omega)]
      exact List.take_of_length_le (by omega)
    rw [e]
    (refine CWD_seq ?_; refine CWD_region rfl ?_; refine S_op ?_; refine W_loadM (by first | rfl | assumption) (by assumption) (by rfl) ?_; refine S_op ?_; refine W_assignSl (by first | rfl | assumption) ?_; refine S_nil ?_; refine CWD_ret ?_)
    refine FinD_one hM hS' fun w' hT => ?_
    have hG2 := Turn.grow hG hT (fun k e => by subst e; exact (hXs2 _ hXD).1)
    replace hown := hown.turn hT (fun a ha e => hXA a ha (e ▸ hXD))
    obtain ⟨H3, hle3, hG3, hsl3, _⟩ := hown.freeze hG2
    exact ⟨_, ResW_one (v := .slice _ _ _) rfl, H3, hG3, A, c, rfl, hown.cap, hsl3, by rw [keysL_len]; omega⟩
end Go.Proofs.Ytgaabmoknpifnaa
