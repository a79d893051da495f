/- DiffThree: it answers true. Conditions: sizes. -/
import Derived.Test.YtnjeoobcejlojaaDiff6
namespace Go.Proofs.Ytnjeoobcejlojaa
open Go.Proofs Go.RowKit
set_option linter.unusedVariables false
attribute [local irreducible] CW CWD SeqW OpW
set_option maxHeartbeats 8000000
theorem diffThree_c (H : HF) (A B C : Option Addr) (c d e : Nat) (a b k : List Op10) (hl : SlAt H A (ops10 a)) (hm : SlAt H B (ops10 b)) (hk : SlAt H C (ops10 k)) (ba : a.length ≤ 100000000000000) (bb : b.length ≤ 100000000000000) (bk : k.length ≤ 100000000000000) (sa : ∀ o ∈ a, o.Ok) (sb : ∀ o ∈ b, o.Ok) (sk : ∀ o ∈ k, o.Ok) :
    Fn Try.prog 6 [.slice A a.length c, .slice B b.length d, .slice C k.length e] H fun v _ => v = .bool true := by
  refine Fn_of_CW Try.func6 rfl Try.ntmps6 Try.results6 rfl fun w0 hS => ?_; have hG := Grow.refl hS
  (refine CW_seq ?_; refine CW_region rfl ?_; refine S_op ?_; refine W_assignBool (by first | rfl | assumption) ?_; refine S_nil ?_; refine CW_seq ?_; refine CW_seq ?_; refine CW_region rfl ?_)
  (refine S_op ?_; refine W_call hS (by rfl) (awake22_c H) ?_); rintro v H w hG' rfl; replace hG := hG.trans hG'; replace hS := hG'.sub; replace hl := hl.mono hG'.le; replace hm := hm.mono hG'.le; replace hk := hk.mono hG'.le; clear hG'
  (refine S_op ?_; refine W_not (by first | rfl | assumption) ?_; refine S_op ?_; refine W_moveBool (by first | rfl | assumption) ?_; refine S_want (by rfl) ?_; refine W_moveSl (by first | rfl | assumption) ?_)
  (refine S_want (by rfl) ?_; refine W_call hS (by rfl) (few22_c H A c a hl ba sa) ?_); rintro v H w hG' rfl; replace hG := hG.trans hG'; replace hS := hG'.sub; replace hl := hl.mono hG'.le; replace hm := hm.mono hG'.le; replace hk := hk.mono hG'.le; clear hG'
  cases hfa : few22B a with
  | false =>
    skip
    (refine S_want (by rfl) ?_; refine W_not (by first | rfl | assumption) ?_; refine S_op ?_; refine W_pickF (by first | rfl | assumption) (by first | rfl | assumption) ?_; refine S_op ?_; refine W_moveBool (by first | rfl | assumption) ?_; refine S_pass (by rfl) ?_; refine S_pass (by rfl) ?_; refine S_pass (by rfl) ?_; refine S_op ?_; refine W_pickT (by first | rfl | assumption) (by first | rfl | assumption) ?_; refine S_op ?_; refine W_moveBool (by first | rfl | assumption) ?_; refine S_pass (by rfl) ?_; refine S_pass (by rfl) ?_; refine S_pass (by rfl) ?_; refine S_op ?_; refine W_pickT (by first | rfl | assumption) (by first | rfl | assumption) ?_; refine S_nil ?_; refine CW_true (by first | rfl | assumption) ?_; refine CW_seq ?_; refine CW_region rfl ?_)
    (refine S_op ?_; refine W_call hS (by rfl) (awake22_c H) ?_); rintro v H w hG' rfl; replace hG := hG.trans hG'; replace hS := hG'.sub; clear hG'
    (refine S_op ?_; refine W_assignBool (by first | rfl | assumption) ?_; refine S_nil ?_; refine CW_ret ?_)
    exact ⟨_, ResW_one (v := .bool _) rfl, H, hG, rfl⟩
  | true =>
    have la := few22B_le hfa
    (refine S_want (by rfl) ?_; refine W_not (by first | rfl | assumption) ?_; refine S_op ?_; refine W_pickF (by first | rfl | assumption) (by first | rfl | assumption) ?_; refine S_op ?_; refine W_moveBool (by first | rfl | assumption) ?_; refine S_want (by rfl) ?_; refine W_moveSl (by first | rfl | assumption) ?_)
    (refine S_want (by rfl) ?_; refine W_call hS (by rfl) (few22_c H B d b hm bb sb) ?_); rintro v H w hG' rfl; replace hG := hG.trans hG'; replace hS := hG'.sub; replace hl := hl.mono hG'.le; replace hm := hm.mono hG'.le; replace hk := hk.mono hG'.le; clear hG'
    cases hfb : few22B b with
    | false =>
      skip
      (refine S_want (by rfl) ?_; refine W_not (by first | rfl | assumption) ?_; refine S_op ?_; refine W_pickF (by first | rfl | assumption) (by first | rfl | assumption) ?_; refine S_op ?_; refine W_moveBool (by first | rfl | assumption) ?_; refine S_pass (by rfl) ?_; refine S_pass (by rfl) ?_; refine S_pass (by rfl) ?_; refine S_op ?_; refine W_pickT (by first | rfl | assumption) (by first | rfl | assumption) ?_; refine S_nil ?_; refine CW_true (by first | rfl | assumption) ?_; refine CW_seq ?_; refine CW_region rfl ?_)
      (refine S_op ?_; refine W_call hS (by rfl) (awake22_c H) ?_); rintro v H w hG' rfl; replace hG := hG.trans hG'; replace hS := hG'.sub; clear hG'
      (refine S_op ?_; refine W_assignBool (by first | rfl | assumption) ?_; refine S_nil ?_; refine CW_ret ?_)
      exact ⟨_, ResW_one (v := .bool _) rfl, H, hG, rfl⟩
    | true =>
      have lb := few22B_le hfb
      (refine S_want (by rfl) ?_; refine W_not (by first | rfl | assumption) ?_; refine S_op ?_; refine W_pickF (by first | rfl | assumption) (by first | rfl | assumption) ?_; refine S_op ?_; refine W_moveBool (by first | rfl | assumption) ?_; refine S_want (by rfl) ?_; refine W_moveSl (by first | rfl | assumption) ?_)
      (refine S_want (by rfl) ?_; refine W_call hS (by rfl) (few22_c H C e k hk bk sk) ?_); rintro v H w hG' rfl; replace hG := hG.trans hG'; replace hS := hG'.sub; replace hl := hl.mono hG'.le; replace hm := hm.mono hG'.le; replace hk := hk.mono hG'.le; clear hG'
      cases hfk : few22B k with
      | false =>
        skip
        (refine S_want (by rfl) ?_; refine W_not (by first | rfl | assumption) ?_; refine S_op ?_; refine W_pickF (by first | rfl | assumption) (by first | rfl | assumption) ?_; refine S_nil ?_; refine CW_true (by first | rfl | assumption) ?_; refine CW_seq ?_; refine CW_region rfl ?_)
        (refine S_op ?_; refine W_call hS (by rfl) (awake22_c H) ?_); rintro v H w hG' rfl; replace hG := hG.trans hG'; replace hS := hG'.sub; clear hG'
        (refine S_op ?_; refine W_assignBool (by first | rfl | assumption) ?_; refine S_nil ?_; refine CW_ret ?_)
        exact ⟨_, ResW_one (v := .bool _) rfl, H, hG, rfl⟩
      | true =>
        have lk := few22B_le hfk
        (refine S_want (by rfl) ?_; refine W_not (by first | rfl | assumption) ?_; refine S_op ?_; refine W_pickF (by first | rfl | assumption) (by first | rfl | assumption) ?_; refine S_nil ?_; refine CW_false (by first | rfl | assumption) ?_; refine CW_skip ?_; refine CW_seq ?_; refine CW_region rfl ?_; refine S_op ?_; refine W_moveSl (by first | rfl | assumption) ?_)
        (refine S_op ?_; refine W_call hS (by rfl) (built22_c H none A c a hl (by omega) TreeAt.nil (by simp [Tr.items])) ?_); rintro v H w hG' ⟨x, rfl, hx, _, hxl⟩; replace hG := hG.trans hG'; replace hS := hG'.sub; replace hm := hm.mono hG'.le; replace hk := hk.mono hG'.le; clear hG'
        have zx : (Tr.items none).length = 0 := rfl
        (refine S_op ?_; refine W_moveSl (by first | rfl | assumption) ?_)
        (refine S_op ?_; refine W_call hS (by rfl) (built22_c H none B d b hm (by omega) TreeAt.nil (by simp [Tr.items])) ?_); rintro v H w hG' ⟨y, rfl, hy, _, hyl⟩; replace hG := hG.trans hG'; replace hS := hG'.sub; replace hx := hx.mono hG'.le; replace hk := hk.mono hG'.le; clear hG'
        have zy : (Tr.items none).length = 0 := rfl
        (refine S_op ?_; refine W_moveSl (by first | rfl | assumption) ?_)
        (refine S_op ?_; refine W_call hS (by rfl) (built22_c H none C e k hk (by omega) TreeAt.nil (by simp [Tr.items])) ?_); rintro v H w hG' ⟨z, rfl, hz, _, hzl⟩; replace hG := hG.trans hG'; replace hS := hG'.sub; replace hx := hx.mono hG'.le; replace hy := hy.mono hG'.le; clear hG'
        have zz : (Tr.items none).length = 0 := rfl
        have bo1 := ofM_len x.items y.items
        have bo2 := ofM_len y.items z.items
        have bo3 := ofM_len x.items z.items
        obtain ⟨f1, e1⟩ := done_of hx.rise hy.rise hy.at_.ok.2
        obtain ⟨f2, e2⟩ := done_of hy.rise hz.rise hz.at_.ok.2
        obtain ⟨f3, e3⟩ := done_of hx.rise hz.rise hz.at_.ok.2
        have f4 : FitL x.items (ofM x.items y.items ++ ofM y.items z.items) := fit_append f1 (by rw [e1]; exact f2)
        have e4 : doneL x.items (ofM x.items y.items ++ ofM y.items z.items) = z.items := by
          unfold doneL at e1 e2 ⊢
          rw [List.foldl_append, e1, e2]
        have bo4 : (ofM x.items y.items ++ ofM y.items z.items).length = (ofM x.items y.items).length + (ofM y.items z.items).length := List.length_append
        (refine S_op ?_; refine W_assignPtr (by first | rfl | assumption) ?_; refine S_op ?_; refine W_assignPtr (by first | rfl | assumption) ?_; refine S_op ?_; refine W_assignPtr (by first | rfl | assumption) ?_; refine S_nil ?_; refine CW_seq ?_; refine CW_region rfl ?_; refine S_op ?_; refine W_movePtr (by first | rfl | assumption) ?_; refine S_op ?_; refine W_movePtr (by first | rfl | assumption) ?_; refine S_op ?_; refine W_movePtr (by first | rfl | assumption) ?_)
        refine S_op ?_
        refine W_call hS (by rfl) (of_c hx hy (by omega) (by omega)) ?_
        rintro v H1 w1 hG1 hn
        obtain ⟨H2, A1, c1, _, hG2, rfl, hown⟩ := hn.thaw hG1
        clear hn hG1
        replace hown := hown.base hG.below.size
        replace hG := hG.trans hG2
        replace hS := hG.sub
        replace hx := hx.mono hG2.le
        replace hy := hy.mono hG2.le
        replace hz := hz.mono hG2.le
        clear hG2
        (refine S_op ?_; refine W_movePtr (by first | rfl | assumption) ?_; refine S_op ?_; refine W_movePtr (by first | rfl | assumption) ?_)
        (refine S_op ?_; refine W_call hS (by rfl) (of_c hy hz (by omega) (by omega)) ?_); rintro v H w hG' hn; replace hG := hG.trans hG'; replace hS := hG'.sub; replace hx := hx.mono hG'.le; replace hy := hy.mono hG'.le; replace hz := hz.mono hG'.le; replace hown := hown.grow hG'; clear hG'
        obtain ⟨A2, c2, rfl, hc2, hl2⟩ := hn.chgs
        clear hn
        skip
        refine S_op ?_
        refine W_append (news := chgs (ofM y.items z.items)) (by rfl) (by rfl) hG hown (SlAt.cells hl2 hS) (by rw [chgs_len]) (chgs_one _) (by decide) (by omega) (by omega) ?_
        intro A3 c3 w hG hown _ hA3
        clear hA3
        replace hS := hG.sub
        rw [← chgs_append, ← bo4] at hown
        obtain ⟨H, hle, hG, hn⟩ := hown.freezeN hG
        replace hS := hG.sub
        replace hx := hx.mono hle
        replace hy := hy.mono hle
        replace hz := hz.mono hle
        clear hown hle
        obtain ⟨A4, c4, e5, hc4, hl4⟩ := hn.chgs
        simp only [Value.slice.injEq] at e5
        obtain ⟨rfl, _, rfl⟩ := e5
        clear hn
        rw [← bo4]
        skip
        (refine S_op ?_; refine W_call hS (by rfl) (apply_c H x A3 c3 (ofM x.items y.items ++ ofM y.items z.items) hx hl4 f4 (by omega) (by omega)) ?_); rintro v H w hG' ⟨m, rfl, hmm, him, hml⟩; replace hG := hG.trans hG'; replace hS := hG'.sub; replace hx := hx.mono hG'.le; replace hz := hz.mono hG'.le; clear hG'
        rw [e4] at him
        (refine S_op ?_; refine W_moveTup (by first | rfl | assumption) ?_; refine S_op ?_; refine W_extract (by first | rfl | assumption) (by rfl) ?_; refine S_op ?_; refine W_extract (by first | rfl | assumption) (by rfl) ?_; refine S_op ?_; refine W_assignPtr (by first | rfl | assumption) ?_; refine S_op ?_; refine W_assignInt (by first | rfl | assumption) ?_; refine S_nil ?_; refine CW_seq ?_; refine CW_region rfl ?_; refine S_op ?_; refine W_movePtr (by first | rfl | assumption) ?_; refine S_op ?_; refine W_movePtr (by first | rfl | assumption) ?_; refine S_op ?_; refine W_movePtr (by first | rfl | assumption) ?_)
        (refine S_op ?_; refine W_call hS (by rfl) (of_c hx hz (by omega) (by omega)) ?_); rintro v H w hG' hn; replace hG := hG.trans hG'; replace hS := hG'.sub; replace hx := hx.mono hG'.le; replace hmm := hmm.mono hG'.le; clear hG'
        obtain ⟨A5, c5, rfl, hc5, hl5⟩ := hn.chgs
        clear hn
        skip
        (refine S_op ?_; refine W_call hS (by rfl) (apply_c H x A5 c5 (ofM x.items z.items) hx hl5 f3 (by omega) (by omega)) ?_); rintro v H w hG' ⟨n, rfl, hnn, hin, hnl⟩; replace hG := hG.trans hG'; replace hS := hG'.sub; replace hmm := hmm.mono hG'.le; clear hG'
        rw [e3] at hin
        (refine S_op ?_; refine W_moveTup (by first | rfl | assumption) ?_; refine S_op ?_; refine W_extract (by first | rfl | assumption) (by rfl) ?_; refine S_op ?_; refine W_extract (by first | rfl | assumption) (by rfl) ?_; refine S_op ?_; refine W_assignPtr (by first | rfl | assumption) ?_; refine S_op ?_; refine W_assignInt (by first | rfl | assumption) ?_; refine S_nil ?_; refine CW_seq ?_; refine CW_region rfl ?_; refine S_op ?_; refine W_moveInt (by first | rfl | assumption) ?_; refine S_op ?_; refine W_eqlT (by first | rfl | assumption) (by first | rfl | assumption) (by first | omega | rfl) ?_; refine S_op ?_; refine W_moveBool (by first | rfl | assumption) ?_; refine S_want (by rfl) ?_; refine W_moveInt (by first | rfl | assumption) ?_; refine S_want (by rfl) ?_; refine W_eqlT (by first | rfl | assumption) (by first | rfl | assumption) (by first | omega | rfl) ?_; refine S_op ?_; refine W_pickT (by first | rfl | assumption) (by first | rfl | assumption) ?_; refine S_op ?_; refine W_moveBool (by first | rfl | assumption) ?_; refine S_want (by rfl) ?_; refine W_movePtr (by first | rfl | assumption) ?_)
        (refine S_want (by rfl) ?_; refine W_call hS (by rfl) (items_t hmm.at_ (by omega)) ?_); rintro v H w hG' ⟨A6, c6, rfl, _, hl6⟩; replace hG := hG.trans hG'; replace hS := hG'.sub; replace hnn := hnn.mono hG'.le; clear hG'
        (refine S_want (by rfl) ?_; refine W_movePtr (by first | rfl | assumption) ?_)
        (refine S_want (by rfl) ?_; refine W_call hS (by rfl) (items_t hnn.at_ (by omega)) ?_); rintro v H w hG' ⟨A7, c7, rfl, _, hl7⟩; replace hG := hG.trans hG'; replace hS := hG'.sub; replace hl6 := hl6.mono hG'.le; clear hG'
        skip
        (refine S_want (by rfl) ?_; refine W_call hS (by rfl) (same_c H A6 A7 c6 c7 m.items n.items hl6 hl7 (by omega)) ?_); rintro v H w hG' rfl; replace hG := hG.trans hG'; replace hS := hG'.sub; clear hG'
        rw [decide_eq_true (him.trans hin.symm)]
        (refine S_op ?_; refine W_pickT (by first | rfl | assumption) (by first | rfl | assumption) ?_; refine S_op ?_; refine W_assignBool (by first | rfl | assumption) ?_; refine S_nil ?_; refine CW_ret ?_)
        exact ⟨_, ResW_one (v := .bool _) rfl, H, hG, by simp⟩
end Go.Proofs.Ytnjeoobcejlojaa
