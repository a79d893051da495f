/- built: a list made of any entries. Conditions: sizes. -/
import Derived.Test.YtaimilhkfmpdoaaSame
import Derived.Test.YtaimilhkfmpdoaaPure2
import Derived.Test.YtaimilhkfmpdoaaLaw03
namespace Go.Proofs.Ytaimilhkfmpdoaa
open Go.Proofs Go.RowKit
set_option linter.unusedVariables false
attribute [local irreducible] CW SeqW OpW
set_option maxHeartbeats 4000000
theorem fewB_le {l : List Ent} (h : fewB l = true) : l.length ≤ 300 := by simp [fewB] at h; exact h.1
theorem built_c (H : HF) (A : Option Addr) (c : Nat) (l : List Ent) (hl : EntsAt H A l) (hb : l.length ≤ 1000) :
    Fn Try.prog 33 [.slice A l.length c] H fun v H' => IsEnts v (builtL l) H' := by
  refine Fn_of_CW Try.func33 rfl Try.ntmps33 Try.results33 rfl fun w hS => ?_
  (refine CW_seq ?_; refine CW_region rfl ?_; refine S_op ?_; refine W_assignSl (by first | rfl | assumption) ?_; refine S_nil ?_; refine CW_seq ?_; refine CW_region rfl ?_; refine S_op ?_; refine W_assignSl (by first | rfl | assumption) ?_; refine S_nil ?_; refine CW_seq ?_; refine CW_seq ?_; refine CW_region rfl ?_; refine S_op ?_; refine W_moveSl (by first | rfl | assumption) ?_; refine S_op ?_; refine W_len (by first | rfl | assumption) ?_; refine S_op ?_; refine W_moveInt (by first | rfl | assumption) ?_; refine S_nil ?_; refine CW_block ?_)
  refine CW_loopM [3, 4, 7, 8, 9, 10, 11, 12, 13, 14, 15, 16]
    (fun m u w2 => ∃ (i : Nat) (out : List Ent) (H2 : HF) (A2 : Option Addr) (c2 : Nat), u 7 = .int .i64 (i : Int) ∧ u 3 = .slice A2 out.length c2 ∧ out.length ≤ c2 ∧ EntsAt H2 A2 out ∧ Grow H w H2 w2 ∧ i ≤ l.length ∧ out.length ≤ i ∧ l.length - i ≤ m ∧ builtGo (l.drop i) out = builtL l)
    (m := l.length) ⟨0, [], H, none, 0, rfl, rfl, Nat.le_refl _, .inl rfl, Grow.refl hS, by omega, by simp, by omega, rfl⟩ ?_
  rintro m u w2 ⟨i, out, H2, A2, c2, h7, h3, hc2, ho2, hG2, hi, hn, hm, hf⟩
  have hS2 := hG2.sub
  have hl2 := hl.mono hG2.le
  by_cases hlt : i < l.length
  · obtain ⟨b, off, hA, hrow⟩ := hl2.some hlt
    rw [ent_drop hlt] at hf
    (refine CW_seq ?_; refine CW_region rfl ?_; refine S_op ?_; refine W_lssT (by first | rfl | assumption) (by first | rfl | assumption) (by first | omega | rfl) ?_; refine S_nil ?_; refine CW_seq ?_; refine CW_true (by first | rfl | assumption) ?_; refine CW_skip ?_; refine CW_seq ?_; refine CW_block ?_; refine CW_seq ?_; refine CW_region rfl ?_; refine S_op ?_; refine W_moveInt (by first | rfl | assumption) ?_; refine S_op ?_; refine W_assignInt (by first | rfl | assumption) ?_; refine S_nil ?_; refine CW_region rfl ?_; refine S_op ?_; refine W_moveSl (by first | rfl | assumption) ?_; refine S_op ?_; refine W_moveSl (by first | rfl | assumption) ?_; refine S_op ?_; refine W_moveInt (by first | rfl | assumption) ?_; refine S_op ?_; refine W_index (by first | rfl | assumption) (by first | rfl | assumption) (by first | assumption | omega | decide) (by first | rfl | assumption) ?_; refine S_op ?_; refine W_loadEnt (by first | rfl | assumption) (by assumption) (by first | assumption | omega) (by assumption) ?_)
    refine S_op ?_
    refine W_call hS2 (by rfl) (with_c H2 A2 c2 out (ent l i) ho2 hc2 (by omega)) ?_
    rintro v H3 w3 hG3 ⟨A3, c3, rfl, hc3, ho3⟩
    have hlen := withL_length_le out (ent l i)
    (refine S_op ?_; refine W_assignSl (by first | rfl | assumption) ?_; refine S_nil ?_; refine CW_region rfl ?_; refine S_op ?_; refine W_add1 (by first | rfl | assumption) (by omega) ?_; refine S_op ?_; refine W_moveInt (by first | rfl | assumption) ?_; refine S_nil ?_)
    exact ⟨(by repeat (first | exact AgreeOff.over | refine AgreeOff.upd rfl ?_ | refine AgreeOff.over2 rfl ?_)), m - 1, by omega, i + 1, _, H3, A3, c3, rfl, rfl, hc3, ho3, hG2.trans hG3, by omega, by omega, by omega, hf⟩
  · rw [List.drop_eq_nil_of_le (by omega)] at hf
    simp only [builtGo] at hf
    (refine CW_seq ?_; refine CW_region rfl ?_; refine S_op ?_; refine W_lssF (by first | rfl | assumption) (by first | rfl | assumption) (by first | omega | rfl) ?_; refine S_nil ?_; refine CW_seq ?_; refine CW_false (by first | rfl | assumption) ?_; refine CW_exit ?_; refine CW_seq ?_; refine CW_region rfl ?_; refine S_op ?_; refine W_moveSl (by first | rfl | assumption) ?_; refine S_op ?_; refine W_assignSl (by first | rfl | assumption) ?_; refine S_nil ?_; refine CW_ret ?_)
    rw [← hf]
    exact ⟨_, ResW_one (v := .slice _ _ _) rfl, H2, hG2, A2, c2, rfl, hc2, ho2⟩
end Go.Proofs.Ytaimilhkfmpdoaa
