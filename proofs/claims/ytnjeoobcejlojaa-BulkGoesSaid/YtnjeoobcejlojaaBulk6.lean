/- Law 23's awake. Conditions: none. -/
import Derived.Test.YtnjeoobcejlojaaBulk5
import Derived.Test.YtnjeoobcejlojaaHeightC
namespace Go.Proofs.Ytnjeoobcejlojaa
open Go.Proofs Go.RowKit
set_option linter.unusedVariables false
attribute [local irreducible] CW CWD SeqW OpW
set_option maxHeartbeats 4000000
theorem awake23_c (H : HF) : Fn Try.prog 30 [] H fun v _ => v = .bool true := by
  refine Fn_of_CW Try.func30 rfl Try.ntmps30 Try.results30 rfl fun w hS => ?_; have hG := Grow.refl hS; have hS0 := hS
  (refine CW_seq ?_; refine CW_region rfl ?_; refine S_op ?_; refine W_assignBool (by first | rfl | assumption) ?_; refine S_nil ?_; refine CW_seq ?_; refine CW_region rfl ?_; refine S_op ?_; refine W_build (by rfl) ?_; refine S_op ?_; refine W_build (by rfl) ?_)
  refine S_op ?_
  refine W_buildParts (cs := entCells [⟨⟨#[97]⟩, ⟨#[]⟩⟩, ⟨⟨#[98]⟩, ⟨#[]⟩⟩]) hS (by omega) (by rfl) (by rfl) ?_
  intro H w g hG' hg _
  replace hG := hG.trans hG'
  replace hS := hG'.sub
  clear hG'
  have hl : EntsAt H (some ⟨g, 0, none⟩) [⟨⟨#[97]⟩, ⟨#[]⟩⟩, ⟨⟨#[98]⟩, ⟨#[]⟩⟩] := SlAt.of_row hg
  have c0 : checkL [⟨⟨#[97]⟩, ⟨#[]⟩⟩, ⟨⟨#[98]⟩, ⟨#[]⟩⟩] = 0 := by
    have p1 : putE ⟨⟨#[97]⟩, ⟨#[]⟩⟩ = 0 := by decide
    have p2 : putE ⟨⟨#[98]⟩, ⟨#[]⟩⟩ = 0 := by decide
    have p3 : riseB [⟨⟨#[97]⟩, ⟨#[]⟩⟩, ⟨⟨#[98]⟩, ⟨#[]⟩⟩] = true := riseB_cons.2 ⟨fun e he => by simp at he; subst he; simp [slt, Op.bytesLess], riseB_cons.2 ⟨fun e he => by (cases he), by simp [riseB]⟩⟩
    have p4 : chkL [⟨⟨#[97]⟩, ⟨#[]⟩⟩, ⟨⟨#[98]⟩, ⟨#[]⟩⟩] = 0 := by rw [chk_cons, p1, if_neg (by simp), chk_cons, p2, if_neg (by simp)]; rfl
    unfold checkL
    rw [p4, if_neg (by simp), if_pos p3]
  have c1 := build_c H (some ⟨g, 0, none⟩) 2 [⟨⟨#[97]⟩, ⟨#[]⟩⟩, ⟨⟨#[98]⟩, ⟨#[]⟩⟩] hl (by simp) (by simp)
  rw [c0] at c1
  skip
  (refine S_op ?_; refine W_call hS (by rfl) (c1) ?_); rintro v H w hG' ⟨t, rfl, _, ht⟩; replace hG := hG.trans hG'; replace hS := hG'.sub; clear hG'
  clear c1
  obtain ⟨ht, hit⟩ := ht rfl
  have hh := height_refH ht
  rw [hit] at hh
  have hh : t.height ≤ 1 := hh
  cases t with
  | none => simp [Tr.items] at hit
  | some x =>
    obtain ⟨h, x⟩ := x
    have h0 : h = 0 := by simp only [Tr.height] at hh; omega
    subst h0
    have hx : NodeAt H 0 x := ht.at_
    have hsz : Nd.size 0 x = 2 := by
      have : Nd.items 0 x = [⟨⟨#[97]⟩, ⟨#[]⟩⟩, ⟨⟨#[98]⟩, ⟨#[]⟩⟩] := hit
      show x.ents.length = 2
      have e : x.ents = Nd.items 0 x := rfl
      rw [e, this]; rfl
    have c2 := size_c hx
    rw [hsz] at c2
    (refine S_op ?_; refine W_moveTup (by first | rfl | assumption) ?_; refine S_op ?_; refine W_extract (by first | rfl | assumption) (by rfl) ?_; refine S_op ?_; refine W_extract (by first | rfl | assumption) (by rfl) ?_; refine S_op ?_; refine W_assignPtr (by first | rfl | assumption) ?_; refine S_op ?_; refine W_assignInt (by first | rfl | assumption) ?_; refine S_nil ?_; refine CW_seq ?_; refine CW_region rfl ?_; refine S_op ?_; refine W_moveInt (by first | rfl | assumption) ?_; refine S_op ?_; refine W_eqlT (by first | rfl | assumption) (by first | rfl | assumption) (by first | omega | rfl) ?_; refine S_op ?_; refine W_moveBool (by first | rfl | assumption) ?_; refine S_want (by rfl) ?_; refine W_movePtr (by first | rfl | assumption) ?_)
    (refine S_want (by rfl) ?_; refine W_call hS (by rfl) (c2) ?_); rintro v H w hG' rfl; replace hG := hG.trans hG'; replace hS := hG'.sub; clear hG'
    (refine S_want (by rfl) ?_; refine W_eqlT (by first | rfl | assumption) (by first | rfl | assumption) (by first | omega | rfl) ?_; refine S_op ?_; refine W_pickT (by first | rfl | assumption) (by first | rfl | assumption) ?_; refine S_op ?_; refine W_assignBool (by first | rfl | assumption) ?_; refine S_nil ?_; refine CW_ret ?_)
    exact ⟨_, ResW_one (v := .bool _) rfl, H, hG, rfl⟩
end Go.Proofs.Ytnjeoobcejlojaa
