/- NodeKeeps: it answers true. Conditions: sizes. -/
import Derived.Test.YtlkbdgfipdeloaaLaw09
import Derived.Test.YtlkbdgfipdeloaaLeaf09
import Derived.Test.YtlkbdgfipdeloaaLent
import Derived.Test.YtlkbdgfipdeloaaPtrEq
import Derived.Test.YtlkbdgfipdeloaaMemBase
import Derived.Test.YtlkbdgfipdeloaaNodeNil
import Derived.Test.YtlkbdgfipdeloaaSame
namespace Go.Proofs.Ytlkbdgfipdeloaa
open Go.Proofs Go.RowKit
set_option linter.unusedVariables false
attribute [local irreducible] CW SeqW OpW
set_option maxHeartbeats 8000000
theorem nodeKeeps_c (H0 : HF) (A : Option Addr) (c : Nat) (l : List Ent) (hl : EntsAt H0 A l) (hc : l.length ≤ c) (hb : l.length ≤ 100000000000000) (hk : ∀ e ∈ l, e.key.size ≤ 1000000000000000 ∧ e.val.size ≤ 1000000000000000) :
    Fn Try.prog 3 [.slice A l.length c] H0 fun v _ => v = .bool true := by
  refine Fn_of_CW Try.func3 rfl Try.ntmps3 Try.results3 rfl fun w0 hS => ?_; have hG := Grow.refl hS
  (refine CW_seq ?_; refine CW_region rfl ?_; refine S_op ?_; refine W_assignBool (by first | rfl | assumption) ?_; refine S_nil ?_; refine CW_seq ?_; refine CW_seq ?_; refine CW_region rfl ?_)
  (refine S_op ?_; refine W_call hS (by rfl) (awake9_c H0) ?_); rintro v H w hG' rfl; replace hG := hG.trans hG'; replace hS := hG'.sub; replace hl := hl.mono hG'.le; clear hG'
  (refine S_op ?_; refine W_not (by first | rfl | assumption) ?_; refine S_op ?_; refine W_moveBool (by first | rfl | assumption) ?_; refine S_want (by rfl) ?_; refine W_moveSl (by first | rfl | assumption) ?_; refine S_want (by rfl) ?_; refine W_build (by rfl) ?_)
  refine S_want (by rfl) ?_
  refine W_build1 (sz := 2) (v := .agg #[.int .i64 0, .slice A l.length c]) hS (by omega) (by rfl) (by rfl) ?_
  intro H w g hG' hg _ _
  replace hG := hG.trans hG'
  replace hS := hG'.sub
  replace hl := hl.mono hG'.le
  clear hG'
  have ho : Ops09At H (some ⟨g, 0, none⟩) [⟨0, A, c, l⟩] := ⟨SlAt.of_row hg, by intro o ho; rw [List.mem_singleton] at ho; subst ho; exact hl⟩
  skip
  (refine S_want (by rfl) ?_; refine W_call hS (by rfl) (few9_c H (some ⟨g, 0, none⟩) 1 [⟨0, A, c, l⟩] ho (by simp) (by intro o ho; rw [List.mem_singleton] at ho; subst ho; exact hb) (by intro o ho; rw [List.mem_singleton] at ho; subst ho; exact hk)) ?_); rintro v H w hG' ⟨z, rfl, hz⟩; replace hG := hG.trans hG'; replace hS := hG'.sub; replace hl := hl.mono hG'.le; clear hG'
  clear hg ho
  cases z with
  | false =>
    skip
    (refine S_want (by rfl) ?_; refine W_not (by first | rfl | assumption) ?_; refine S_op ?_; refine W_pickF (by first | rfl | assumption) (by first | rfl | assumption) ?_; refine S_op ?_; refine W_moveBool (by first | rfl | assumption) ?_; refine S_pass (by rfl) ?_; refine S_pass (by rfl) ?_; refine S_pass (by rfl) ?_; refine S_op ?_; refine W_pickT (by first | rfl | assumption) (by first | rfl | assumption) ?_; refine S_nil ?_; refine CW_true (by first | rfl | assumption) ?_; refine CW_seq ?_; refine CW_region rfl ?_)
    (refine S_op ?_; refine W_call hS (by rfl) (awake9_c H) ?_); rintro v H w hG' rfl; replace hG := hG.trans hG'; replace hS := hG'.sub; clear hG'
    (refine S_op ?_; refine W_assignBool (by first | rfl | assumption) ?_; refine S_nil ?_; refine CW_ret ?_)
    exact ⟨_, ResW_one (v := .bool _) rfl, H, hG, rfl⟩
  | true =>
    have h30 : l.length ≤ 30 := (hz rfl).2 0 (by simp)
    (refine S_want (by rfl) ?_; refine W_not (by first | rfl | assumption) ?_; refine S_op ?_; refine W_pickF (by first | rfl | assumption) (by first | rfl | assumption) ?_; refine S_op ?_; refine W_moveBool (by first | rfl | assumption) ?_; refine S_want (by rfl) ?_; refine W_moveSl (by first | rfl | assumption) ?_)
    (refine S_want (by rfl) ?_; refine W_call hS (by rfl) (rLeaf_c H A c l hl hc (by omega)) ?_); rintro v H w hG' rfl; replace hG := hG.trans hG'; replace hS := hG'.sub; replace hl := hl.mono hG'.le; clear hG'
    cases hlf : leafB l with
    | false =>
      skip
      (refine S_want (by rfl) ?_; refine W_not (by first | rfl | assumption) ?_; refine S_op ?_; refine W_pickF (by first | rfl | assumption) (by first | rfl | assumption) ?_; refine S_nil ?_; refine CW_true (by first | rfl | assumption) ?_; refine CW_seq ?_; refine CW_region rfl ?_)
      (refine S_op ?_; refine W_call hS (by rfl) (awake9_c H) ?_); rintro v H w hG' rfl; replace hG := hG.trans hG'; replace hS := hG'.sub; clear hG'
      (refine S_op ?_; refine W_assignBool (by first | rfl | assumption) ?_; refine S_nil ?_; refine CW_ret ?_)
      exact ⟨_, ResW_one (v := .bool _) rfl, H, hG, rfl⟩
    | true =>
      have hlf' := hlf
      simp only [leafB, Bool.and_eq_true, decide_eq_true_eq] at hlf'
      obtain ⟨⟨⟨h1, h4⟩, hr⟩, hok⟩ := hlf'
      (refine S_want (by rfl) ?_; refine W_not (by first | rfl | assumption) ?_; refine S_op ?_; refine W_pickF (by first | rfl | assumption) (by first | rfl | assumption) ?_; refine S_nil ?_; refine CW_false (by first | rfl | assumption) ?_; refine CW_skip ?_; refine CW_seq ?_; refine CW_region rfl ?_)
      refine S_op ?_
      refine W_buildO (sz := 2) (cs := #[]) hG (by omega) (by decide) (by simp [Instr.fill]) (by simp) ?_
      intro w b9 hG' hG9 _ ho
      replace hl := hl.mono hG'.le
      replace hG := hG9
      replace hS := hG'.sub
      clear hG' hG9
      (refine S_op ?_; refine W_moveSl (by first | rfl | assumption) ?_)
      refine S_op ?_
      refine W_append (news := entCells l) (m := l.length) (by rfl) (by rfl) hG ho (hl.cells hS) (entCells_length l) (entCells_one l) (by decide) (by omega) (by omega) ?_
      intro A6 c6 w hG ho6 _ hA6
      clear hA6 ho
      replace hS := hG.sub
      simp only [Nat.zero_add, List.nil_append] at ho6 ⊢
      have hc6 := ho6.cap
      obtain ⟨g, cs, rfl, hBg, hmut, htake, hlen⟩ := ho6.mutL (by omega)
      clear ho6
      (refine S_op ?_; refine W_assignSl (by first | rfl | assumption) ?_; refine S_nil ?_; refine CW_seq ?_; refine CW_region rfl ?_; refine S_op ?_; refine W_moveSl (by first | rfl | assumption) ?_)
      refine S_op ?_
      refine W_callW (by rfl) ((leaf_lent hS hmut htake rfl hc6 (by omega)).mono ?_)
      rintro v w ⟨H, hG', ⟨h, _⟩ | ⟨_, b, hbg, hbn, rfl, hx⟩⟩
      · rw [hlf] at h; cases h
      replace hG := hG.trans hG'
      replace hS := hG'.sub
      replace hl := hl.mono hG'.le
      replace hmut := hmut.grow hG'
      clear hG' htake hbn hbg
      (refine S_op ?_; refine W_moveTup (by first | rfl | assumption) ?_; refine S_op ?_; refine W_extract (by first | rfl | assumption) (by rfl) ?_; refine S_op ?_; refine W_extract (by first | rfl | assumption) (by rfl) ?_; refine S_op ?_; refine W_assignPtr (by first | rfl | assumption) ?_; refine S_op ?_; refine W_assignInt (by first | rfl | assumption) ?_; refine S_nil ?_; refine CW_seq ?_; refine CW_seq ?_; refine CW_region rfl ?_; refine S_op ?_; refine W_moveInt (by first | rfl | assumption) ?_; refine S_op ?_; refine W_neqF (by first | rfl | assumption) (by first | rfl | assumption) (by first | omega | rfl) ?_; refine S_nil ?_; refine CW_false (by first | rfl | assumption) ?_; refine CW_skip ?_; refine CW_seq ?_; refine CW_seq ?_; refine CW_region rfl ?_; refine S_op ?_; refine W_moveSl (by first | rfl | assumption) ?_; refine S_op ?_; refine W_len (by first | rfl | assumption) ?_; refine S_op ?_; refine W_moveInt (by first | rfl | assumption) ?_; refine S_nil ?_; refine CW_block ?_)
      refine CW_loopM [6, 43, 44, 45, 46, 47, 48, 49, 50]
        (fun m u w2 => ∃ (i : Nat) (cs2 : List Value), u 43 = .int .i64 (i : Int) ∧ Grow H0 w0 H w2 ∧ Mut H w2 g cs2 ∧ cs2.length = c6 * 2 ∧ i ≤ l.length ∧ l.length - i ≤ m)
        (m := l.length) ⟨0, cs, rfl, hG, hmut, hlen, by omega, by omega⟩ ?_
      clear hG hS hmut hlen cs
      rintro m u w ⟨i, cs, h43, hG, hmut, hlen, hi, hm⟩
      have hS := hG.sub
      by_cases hlt : i < l.length
      · (refine CW_seq ?_; refine CW_region rfl ?_; refine S_op ?_; refine W_lssT (by first | rfl | assumption) (by first | rfl | assumption) (by first | omega | rfl) ?_; refine S_nil ?_; refine CW_seq ?_; refine CW_true (by first | rfl | assumption) ?_; refine CW_skip ?_; refine CW_seq ?_; refine CW_block ?_; refine CW_seq ?_; refine CW_region rfl ?_; refine S_op ?_; refine W_moveInt (by first | rfl | assumption) ?_; refine S_op ?_; refine W_assignInt (by first | rfl | assumption) ?_; refine S_nil ?_; refine CW_region rfl ?_; refine S_op ?_; refine W_moveSl (by first | rfl | assumption) ?_; refine S_op ?_; refine W_moveInt (by first | rfl | assumption) ?_; refine S_op ?_; refine W_index (by first | rfl | assumption) (by first | rfl | assumption) (by first | assumption | omega | decide) (by first | rfl | assumption) ?_; refine S_op ?_; refine W_field (by first | rfl | assumption) ?_)
        refine S_op0 (W_storeM (o := 0 + i * 2 + 0) (vs := [.string ⟨#[111, 116, 104, 101, 114]⟩]) (by rfl) (by rfl) hmut (by rfl) (OneCells.of_all (by rfl)) (by rfl) (by simp; omega) ?_)
        intro w hgb hmut2
        replace hG := hG.grownBy hgb (fun g h => by cases h; exact ⟨hmut.out, hBg⟩)
        (refine S_nil ?_; refine CW_region rfl ?_; refine S_op ?_; refine W_add1 (by first | rfl | assumption) (by omega) ?_; refine S_op ?_; refine W_moveInt (by first | rfl | assumption) ?_; refine S_nil ?_)
        exact ⟨(by repeat (first | exact AgreeOff.over | refine AgreeOff.upd rfl ?_ | refine AgreeOff.over2 rfl ?_)), m - 1, by omega, i + 1, _, rfl, hG, hmut2, by rw [splice_one _ _ _ (by omega)]; simpa using hlen, by omega, by omega⟩
      · have hin : i = l.length := by omega
        subst hin
        clear hmut hlen
        (refine CW_seq ?_; refine CW_region rfl ?_; refine S_op ?_; refine W_lssF (by first | rfl | assumption) (by first | rfl | assumption) (by first | omega | rfl) ?_; refine S_nil ?_; refine CW_seq ?_; refine CW_false (by first | rfl | assumption) ?_; refine CW_exit ?_; refine CW_seq ?_; refine CW_region rfl ?_; refine S_op ?_; refine W_movePtr (by first | rfl | assumption) ?_)
        refine S_op ?_
        refine W_call hS (by rfl) (entriesN_c hx) ?_
        rintro v H3 w hG3 hv
        obtain ⟨H, A7, c7, _, hG', rfl, ho7⟩ := hv.thaw hG3
        clear hG3 hv
        replace ho7 := ho7.base hG.below.size
        replace hG := hG.trans hG'
        replace hS := hG'.sub
        replace hl := hl.mono hG'.le
        replace hx := hx.mono hG'.le
        clear hG'
        have hc7 := ho7.cap
        have hown : (Nd.own 0 (Nd.leaf b l)).length = l.length := rfl
        obtain ⟨g7, cs7, rfl, hBg7, hmut7, _, hlen7⟩ := ho7.mutL (by omega)
        clear ho7
        (refine S_op ?_; refine W_assignSl (by first | rfl | assumption) ?_; refine S_nil ?_; refine CW_seq ?_; refine CW_seq ?_; refine CW_region rfl ?_; refine S_op ?_; refine W_moveSl (by first | rfl | assumption) ?_; refine S_op ?_; refine W_len (by first | rfl | assumption) ?_; refine S_op ?_; refine W_moveInt (by first | rfl | assumption) ?_; refine S_nil ?_; refine CW_block ?_)
        refine CW_loopM [8, 55, 56, 57, 58, 59, 60, 61, 62]
          (fun m u w2 => ∃ (i : Nat) (cs2 : List Value), u 55 = .int .i64 (i : Int) ∧ Grow H0 w0 H w2 ∧ Mut H w2 g7 cs2 ∧ cs2.length = c7 * 2 ∧ i ≤ l.length ∧ l.length - i ≤ m)
          (m := l.length) ⟨0, cs7, rfl, hG, hmut7, hlen7, by omega, by omega⟩ ?_
        clear hG hS hmut7 hlen7
        rintro m2 u2 w ⟨i, cs, h55, hG, hmut, hlen, hi, hm2⟩
        have hS := hG.sub
        by_cases hlt : i < l.length
        · (refine CW_seq ?_; refine CW_region rfl ?_; refine S_op ?_; refine W_lssT (by first | rfl | assumption) (by first | rfl | assumption) (by first | omega | rfl) ?_; refine S_nil ?_; refine CW_seq ?_; refine CW_true (by first | rfl | assumption) ?_; refine CW_skip ?_; refine CW_seq ?_; refine CW_block ?_; refine CW_seq ?_; refine CW_region rfl ?_; refine S_op ?_; refine W_moveInt (by first | rfl | assumption) ?_; refine S_op ?_; refine W_assignInt (by first | rfl | assumption) ?_; refine S_nil ?_; refine CW_region rfl ?_; refine S_op ?_; refine W_moveSl (by first | rfl | assumption) ?_; refine S_op ?_; refine W_moveInt (by first | rfl | assumption) ?_; refine S_op ?_; refine W_index (by first | rfl | assumption) (by first | rfl | assumption) (by first | assumption | omega | decide) (by first | rfl | assumption) ?_; refine S_op ?_; refine W_field (by first | rfl | assumption) ?_)
          refine S_op0 (W_storeM (o := 0 + i * 2 + 1) (vs := [.string ⟨#[111, 116, 104, 101, 114]⟩]) (by rfl) (by rfl) hmut (by rfl) (OneCells.of_all (by rfl)) (by rfl) (by simp; omega) ?_)
          intro w hgb hmut2
          replace hG := hG.grownBy hgb (fun g h => by cases h; exact ⟨hmut.out, hBg7⟩)
          (refine S_nil ?_; refine CW_region rfl ?_; refine S_op ?_; refine W_add1 (by first | rfl | assumption) (by omega) ?_; refine S_op ?_; refine W_moveInt (by first | rfl | assumption) ?_; refine S_nil ?_)
          exact ⟨(by repeat (first | exact AgreeOff.over | refine AgreeOff.upd rfl ?_ | refine AgreeOff.over2 rfl ?_)), m2 - 1, by omega, i + 1, _, rfl, hG, hmut2, by rw [splice_one _ _ _ (by omega)]; simpa using hlen, by omega, by omega⟩
        · have hin : i = l.length := by omega
          subst hin
          clear hmut hlen
          (refine CW_seq ?_; refine CW_region rfl ?_; refine S_op ?_; refine W_lssF (by first | rfl | assumption) (by first | rfl | assumption) (by first | omega | rfl) ?_; refine S_nil ?_; refine CW_seq ?_; refine CW_false (by first | rfl | assumption) ?_; refine CW_exit ?_; refine CW_seq ?_; refine CW_seq ?_; refine CW_region rfl ?_; refine S_op ?_; refine W_movePtr (by first | rfl | assumption) ?_)
          (refine S_op ?_; refine W_call hS (by rfl) (entries_c hx) ?_); rintro v H w hG' hv; replace hG := hG.trans hG'; replace hS := hG'.sub; replace hl := hl.mono hG'.le; replace hx := hx.mono hG'.le; clear hG'
          obtain ⟨A8, c8, rfl, hc8, hl8⟩ := hv
          (refine S_op ?_; refine W_moveSl (by first | rfl | assumption) ?_)
          (refine S_op ?_; refine W_call hS (by rfl) (same_c H A8 A c8 c (Nd.own 0 (Nd.leaf b l)) l hl8 hl (by rw [hown]; omega)) ?_); rintro v H w hG' rfl; replace hG := hG.trans hG'; replace hS := hG'.sub; replace hl := hl.mono hG'.le; replace hx := hx.mono hG'.le; clear hG'
          rw [show decide (Nd.own 0 (Nd.leaf b l) = l) = true from decide_eq_true rfl]
          have hq : l.length - 1 < l.length := by omega
          obtain ⟨bb, off, hA, hrow⟩ := hl.some hq
          have hke : entOk (ent l (l.length - 1)) = true := List.all_eq_true.1 hok _ (ent_mem' hq)
          have hks := (hk _ (ent_mem' hq)).1
          generalize hkq : (ent l (l.length - 1)).key = k at *
          have hkk : k ≠ ⟨#[]⟩ ∧ k.size ≤ 24 := by
            have h3 : rKey k = 0 := by
              rw [← hkq]
              simp only [entOk, Bool.and_eq_true, decide_eq_true_eq] at hke
              exact hke.1
            unfold rKey at h3
            split at h3
            · omega
            · rename_i h5
              split at h3
              · omega
              · exact ⟨h5, by omega⟩
          (refine S_op ?_; refine W_not (by first | rfl | assumption) ?_; refine S_nil ?_; refine CW_false (by first | rfl | assumption) ?_; refine CW_skip ?_; refine CW_seq ?_; refine CW_region rfl ?_; refine S_op ?_; refine W_moveSl (by first | rfl | assumption) ?_; refine S_op ?_; refine W_moveSl (by first | rfl | assumption) ?_; refine S_op ?_; refine W_len (by first | rfl | assumption) ?_; refine S_op ?_; refine W_sub1 (by first | rfl | assumption) (by omega) (by omega) ?_; refine S_op ?_; refine W_index (by first | rfl | assumption) (by first | rfl | assumption) (by first | assumption | omega | decide) (by first | rfl | assumption) ?_; refine S_op ?_; refine W_field (by first | rfl | assumption) ?_; refine S_op ?_; refine W_loadKey (by first | rfl | assumption) (by assumption) (by first | assumption | omega) (by assumption) ?_)
          rw [hkq]
          refine S_op (W_sadd (by rfl) (by rfl) (by show k.size + 1 ≤ _; omega) ?_)
          (refine S_op ?_; refine W_build (by rfl) ?_)
          refine S_op ?_
          refine W_build1 (sz := 2) (v := .agg #[.string (k ++ ⟨#[120]⟩), .string ⟨#[]⟩]) hS (by omega) (by rfl) (by rfl) ?_
          intro H w b1 hG' hb1 _ _
          replace hG := hG.trans hG'
          replace hS := hG'.sub
          replace hl := hl.mono hG'.le
          replace hrow := hrow.mono hG'.le
          replace hx := NodeAt.mono hG'.le hx
          clear hG'
          have he1 : EntsAt H (some ⟨b1, 0, none⟩) [⟨k ++ ⟨#[120]⟩, ⟨#[]⟩⟩] := SlAt.of_row hb1
          skip
          (refine S_op ?_; refine W_call hS (by rfl) (leaf_c H (some ⟨b1, 0, none⟩) 1 [⟨k ++ ⟨#[120]⟩, ⟨#[]⟩⟩] he1 (by simp) (by simp)) ?_); rintro v H w hG' hv; replace hG := hG.trans hG'; replace hS := hG'.sub; replace hl := hl.mono hG'.le; replace hrow := hrow.mono hG'.le; replace hx := hx.mono hG'.le; clear hG'
          rcases hv with ⟨hno, rfl⟩ | ⟨hyes, b2, _, rfl, hy⟩
          · have h24 : k.size = 24 := by
              have hsz : (k ++ (⟨#[120]⟩ : ByteArray)).size = k.size + 1 := by simp [ByteArray.size_append]; rfl
              rcases Nat.lt_or_ge k.size 24 with h | h
              · exfalso
                have h1 : rKey (k ++ (⟨#[120]⟩ : ByteArray)) = 0 := by
                  unfold rKey
                  rw [if_neg (by intro e; have h7 := congrArg ByteArray.size e; rw [hsz] at h7; have h8 : (⟨#[]⟩ : ByteArray).size = 0 := rfl; omega), if_neg (by rw [hsz]; omega)]
                have h2 : leafB [⟨k ++ ⟨#[120]⟩, ⟨#[]⟩⟩] = true := by
                  have h6 : (⟨#[]⟩ : ByteArray).size = 0 := rfl
                  simp [leafB, riseB, entOk, h1, rValue, h6]
                rw [h2] at hno; cases hno
              · omega
            rw [← hkq] at h24
            (refine S_op ?_; refine W_moveTup (by first | rfl | assumption) ?_; refine S_op ?_; refine W_extract (by first | rfl | assumption) (by rfl) ?_; refine S_op ?_; refine W_extract (by first | rfl | assumption) (by rfl) ?_; refine S_op ?_; refine W_assignPtr (by first | rfl | assumption) ?_; refine S_op ?_; refine W_assignInt (by first | rfl | assumption) ?_; refine S_nil ?_; refine CW_seq ?_; refine CW_seq ?_; refine CW_region rfl ?_; refine S_op ?_; refine W_moveInt (by first | rfl | assumption) ?_; refine S_op ?_; refine W_neqT (by first | rfl | assumption) (by first | rfl | assumption) (by first | omega | rfl) ?_; refine S_nil ?_; refine CW_true (by first | rfl | assumption) ?_; refine CW_seq ?_; refine CW_region rfl ?_; refine S_op ?_; refine W_moveSl (by first | rfl | assumption) ?_; refine S_op ?_; refine W_moveSl (by first | rfl | assumption) ?_; refine S_op ?_; refine W_len (by first | rfl | assumption) ?_; refine S_op ?_; refine W_sub1 (by first | rfl | assumption) (by omega) (by omega) ?_; refine S_op ?_; refine W_index (by first | rfl | assumption) (by first | rfl | assumption) (by first | assumption | omega | decide) (by first | rfl | assumption) ?_; refine S_op ?_; refine W_field (by first | rfl | assumption) ?_; refine S_op ?_; refine W_loadKey (by first | rfl | assumption) (by assumption) (by first | assumption | omega) (by assumption) ?_; refine S_op ?_; refine W_lenS (by first | rfl | assumption) ?_; refine S_op ?_; refine W_eqlT (by first | rfl | assumption) (by first | rfl | assumption) (by first | omega | rfl) ?_; refine S_op ?_; refine W_assignBool (by first | rfl | assumption) ?_; refine S_nil ?_; refine CW_ret ?_)
            exact ⟨_, ResW_one (v := .bool _) rfl, H, hG, rfl⟩
          · (refine S_op ?_; refine W_moveTup (by first | rfl | assumption) ?_; refine S_op ?_; refine W_extract (by first | rfl | assumption) (by rfl) ?_; refine S_op ?_; refine W_extract (by first | rfl | assumption) (by rfl) ?_; refine S_op ?_; refine W_assignPtr (by first | rfl | assumption) ?_; refine S_op ?_; refine W_assignInt (by first | rfl | assumption) ?_; refine S_nil ?_; refine CW_seq ?_; refine CW_seq ?_; refine CW_region rfl ?_; refine S_op ?_; refine W_moveInt (by first | rfl | assumption) ?_; refine S_op ?_; refine W_neqF (by first | rfl | assumption) (by first | rfl | assumption) (by first | omega | rfl) ?_; refine S_nil ?_; refine CW_false (by first | rfl | assumption) ?_; refine CW_skip ?_; refine CW_seq ?_; refine CW_region rfl ?_; refine S_op ?_; refine W_movePtr (by first | rfl | assumption) ?_; refine S_op ?_; refine W_movePtr (by first | rfl | assumption) ?_)
            refine S_op ?_
            refine W_buildOnesO hG (by omega) (vs := [(Nd.leaf b l).ptr, (Nd.leaf b2 [⟨k ++ ⟨#[120]⟩, ⟨#[]⟩⟩]).ptr]) (by rfl) (by rfl) ?_
            intro w b9 hG' hG9 hb9 ho
            replace hl := hl.mono hG'.le
            replace hx := hx.mono hG'.le
            replace hy := hy.mono hG'.le
            replace hG := hG9
            replace hS := hG'.sub
            clear hG' hG9 hb9
            obtain ⟨g9, cs9, h9, hBg9, hmut9, htake9, hlen9⟩ := ho.mutL (by omega)
            cases h9
            rw [List.take_of_length_le (by omega)] at htake9
            have e9 : cs9 = [(Nd.leaf b l).ptr, (Nd.leaf b2 [⟨k ++ ⟨#[120]⟩, ⟨#[]⟩⟩]).ptr] := by rw [htake9]
            subst e9
            clear ho htake9 hlen9
            have hch : Nd.chain [Nd.leaf b l, Nd.leaf b2 [⟨k ++ ⟨#[120]⟩, ⟨#[]⟩⟩]] = true := by
              have h7 : (Nd.leaf b l).hi = k := hkq
              have h8 : (Nd.leaf b2 [⟨k ++ ⟨#[120]⟩, ⟨#[]⟩⟩]).lo = k ++ ⟨#[120]⟩ := rfl
              simp [Nd.chain, h7, h8, slt_longer]
            have hat : AllAt H 0 [Nd.leaf b l, Nd.leaf b2 [⟨k ++ ⟨#[120]⟩, ⟨#[]⟩⟩]] := by
              intro x hx'
              simp at hx'
              rcases hx' with rfl | rfl
              · exact hx
              · exact hy
            (refine S_op ?_; refine W_assignSl (by first | rfl | assumption) ?_; refine S_nil ?_; refine CW_seq ?_; refine CW_region rfl ?_; refine S_op ?_; refine W_moveSl (by first | rfl | assumption) ?_)
            refine S_op ?_
            refine W_callW (by rfl) ((branch_lent (n := 2) (c := 2) (ks := [Nd.leaf b l, Nd.leaf b2 [⟨k ++ ⟨#[120]⟩, ⟨#[]⟩⟩]]) hS hmut9 (by rfl) rfl hat (Nat.le_refl 2) (by omega) (by omega)).mono ?_)
            rintro v w ⟨H, hG', h1 | ⟨_, b3, hbg, hbn, rfl, hz⟩⟩
            · exact absurd ⟨Nat.le_refl 2, by omega, hch⟩ h1.1
            replace hl := hl.mono hG'.le
            replace hx := hx.mono hG'.le
            replace hy := hy.mono hG'.le
            replace hmut9 := hmut9.grow hG'
            replace hG := hG.trans hG'
            replace hS := hG'.sub
            clear hG' hbn hbg hat
            (refine S_op ?_; refine W_moveTup (by first | rfl | assumption) ?_; refine S_op ?_; refine W_extract (by first | rfl | assumption) (by rfl) ?_; refine S_op ?_; refine W_extract (by first | rfl | assumption) (by rfl) ?_; refine S_op ?_; refine W_assignPtr (by first | rfl | assumption) ?_; refine S_op ?_; refine W_assignInt (by first | rfl | assumption) ?_; refine S_nil ?_; refine CW_seq ?_; refine CW_seq ?_; refine CW_region rfl ?_; refine S_op ?_; refine W_moveInt (by first | rfl | assumption) ?_; refine S_op ?_; refine W_neqF (by first | rfl | assumption) (by first | rfl | assumption) (by first | omega | rfl) ?_; refine S_nil ?_; refine CW_false (by first | rfl | assumption) ?_; refine CW_skip ?_; refine CW_seq ?_; refine CW_region rfl ?_; refine S_op ?_; refine W_moveSl (by first | rfl | assumption) ?_; refine S_op ?_; refine W_index (by first | rfl | assumption) (by first | rfl | assumption) (by first | assumption | omega | decide) (by first | rfl | assumption) ?_)
            refine S_op0 (W_storeM (o := 0 + 0 * 1) (vs := [.pointer none]) (by rfl) (by rfl) hmut9 (by rfl) (OneCells.of_all (by rfl)) (by rfl) (Nat.le_of_ble_eq_true (by rfl)) ?_)
            intro w hgb hmut10
            replace hG := hG.grownBy hgb (fun g h => by cases h; exact ⟨hmut9.out, hBg9⟩)
            replace hS := hG.sub
            clear hgb hmut9 hmut10
            (refine S_nil ?_; refine CW_seq ?_; refine CW_region rfl ?_; refine S_op ?_; refine W_movePtr (by first | rfl | assumption) ?_)
            refine S_op ?_
            refine W_call hS (by rfl) (kidsN_c hz) ?_
            rintro v H3 w hG3 hv
            obtain ⟨H, A7, c7, _, hG', rfl, ho7⟩ := hv.thaw hG3
            clear hG3 hv
            replace ho7 := ho7.base hG.below.size
            replace hG := hG.trans hG'
            replace hS := hG'.sub
            replace hz := hz.mono hG'.le
            clear hG'
            have hk2 : (Nd.branch b3 [Nd.leaf b l, Nd.leaf b2 [⟨k ++ ⟨#[120]⟩, ⟨#[]⟩⟩]]).kids.length = 2 := rfl
            obtain ⟨g7, cs7, rfl, hBg7, hmut7, _, hlen7⟩ := ho7.mutL (by omega)
            have hc7 := ho7.cap
            have hk3 : 1 < (Nd.branch b3 [Nd.leaf b l, Nd.leaf b2 [⟨k ++ ⟨#[120]⟩, ⟨#[]⟩⟩]]).kids.length := by rw [hk2]; omega
            clear ho7
            (refine S_op ?_; refine W_assignSl (by first | rfl | assumption) ?_; refine S_nil ?_; refine CW_seq ?_; refine CW_region rfl ?_; refine S_op ?_; refine W_moveSl (by first | rfl | assumption) ?_; refine S_op ?_; refine W_index (by first | rfl | assumption) (by first | rfl | assumption) (by first | assumption | omega | decide) (by first | rfl | assumption) ?_)
            refine S_op0 (W_storeM (o := 0 + 1 * 1) (vs := [.pointer none]) (by rfl) (by rfl) hmut7 (by rfl) (OneCells.of_all (by rfl)) (by rfl) (by simp; omega) ?_)
            intro w hgb hmut10
            replace hG := hG.grownBy hgb (fun g h => by cases h; exact ⟨hmut7.out, hBg7⟩)
            replace hS := hG.sub
            clear hgb hmut7 hmut10
            (refine S_nil ?_; refine CW_seq ?_; refine CW_region rfl ?_; refine S_op ?_; refine W_movePtr (by first | rfl | assumption) ?_)
            have hkc : Fn Try.prog 22 [(Nd.branch b3 [Nd.leaf b l, Nd.leaf b2 [⟨k ++ ⟨#[120]⟩, ⟨#[]⟩⟩]]).ptr] H fun v H' => IsSl 1 v 2 [(Nd.leaf b l).ptr, (Nd.leaf b2 [⟨k ++ ⟨#[120]⟩, ⟨#[]⟩⟩]).ptr] H' := kids_c hz
            (refine S_op ?_; refine W_call hS (by rfl) (hkc) ?_); rintro v H w hG' ⟨A10, c10, rfl, hc10, hsl10, _⟩; replace hG := hG.trans hG'; replace hS := hG'.sub; replace hz := hz.mono hG'.le; clear hG'
            obtain ⟨b10, o10, rfl, hrow10⟩ : ∃ bq off, A10 = some ⟨bq, off, none⟩ ∧ Row H bq off [(Nd.leaf b l).ptr, (Nd.leaf b2 [⟨k ++ ⟨#[120]⟩, ⟨#[]⟩⟩]).ptr] := by
              rcases hsl10 with h | h
              · cases h
              · exact h
            (refine S_op ?_; refine W_assignSl (by first | rfl | assumption) ?_; refine S_nil ?_; refine CW_seq ?_; refine CW_region rfl ?_; refine S_op ?_; refine W_moveSl (by first | rfl | assumption) ?_; refine S_op ?_; refine W_len (by first | rfl | assumption) ?_; refine S_op ?_; refine W_eqlT (by first | rfl | assumption) (by first | rfl | assumption) (by first | omega | rfl) ?_; refine S_op ?_; refine W_moveBool (by first | rfl | assumption) ?_; refine S_want (by rfl) ?_; refine W_moveSl (by first | rfl | assumption) ?_; refine S_want (by rfl) ?_; refine W_index (by first | rfl | assumption) (by first | rfl | assumption) (by first | assumption | omega | decide) (by first | rfl | assumption) ?_)
            refine S_want (by rfl) ?_
            refine W_loadRow (j := 0 * 1) (by rfl) hrow10 (by rfl) hS ?_
            (refine S_want (by rfl) ?_; refine W_movePtr (by first | rfl | assumption) ?_; refine S_want (by rfl) ?_; refine W_peqT (by first | rfl | assumption) (by first | rfl | assumption) (by first | rfl | assumption) ?_; refine S_op ?_; refine W_pickT (by first | rfl | assumption) (by first | rfl | assumption) ?_; refine S_op ?_; refine W_moveBool (by first | rfl | assumption) ?_; refine S_want (by rfl) ?_; refine W_moveSl (by first | rfl | assumption) ?_; refine S_want (by rfl) ?_; refine W_index (by first | rfl | assumption) (by first | rfl | assumption) (by first | assumption | omega | decide) (by first | rfl | assumption) ?_)
            refine S_want (by rfl) ?_
            refine W_loadRow (j := 1 * 1) (by rfl) hrow10 (by rfl) hS ?_
            (refine S_want (by rfl) ?_; refine W_movePtr (by first | rfl | assumption) ?_; refine S_want (by rfl) ?_; refine W_peqT (by first | rfl | assumption) (by first | rfl | assumption) (by first | rfl | assumption) ?_; refine S_op ?_; refine W_pickT (by first | rfl | assumption) (by first | rfl | assumption) ?_; refine S_op ?_; refine W_assignBool (by first | rfl | assumption) ?_; refine S_nil ?_; refine CW_ret ?_)
            exact ⟨_, ResW_one (v := .bool _) rfl, H, hG, rfl⟩
end Go.Proofs.Ytlkbdgfipdeloaa
