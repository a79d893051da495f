/- NodeNil: it answers true. Conditions: none. -/
import Derived.Test.YtlkbdgfipdeloaaNode5
import Derived.Test.YtlkbdgfipdeloaaConv
namespace Go.Proofs.Ytlkbdgfipdeloaa
open Go.Proofs Go.RowKit
set_option linter.unusedVariables false
attribute [local irreducible] CW SeqW OpW
set_option maxHeartbeats 4000000
theorem awake9_c (H : HF) : Fn Try.prog 15 [] H fun v _ => v = .bool true := by
  refine Fn_of_CW Try.func15 rfl Try.ntmps15 Try.results15 rfl fun w hS => ?_; have hG := Grow.refl hS; have hS0 := hS
  (refine CW_seq ?_; refine CW_region rfl ?_; refine S_op ?_; refine W_assignBool (by first | rfl | assumption) ?_; refine S_nil ?_; refine CW_seq ?_; refine CW_region rfl ?_; refine S_op ?_; refine W_build (by rfl) ?_)
  refine S_op ?_
  refine W_build1 (sz := 2) (v := .agg #[.string ⟨#[97]⟩, .string ⟨#[]⟩]) hS (by omega) (by rfl) (by rfl) ?_
  intro H w g hG' hg _ _
  replace hG := hG.trans hG'
  replace hS := hG'.sub
  clear hG'
  have hl : EntsAt H (some ⟨g, 0, none⟩) [⟨⟨#[97]⟩, ⟨#[]⟩⟩] := SlAt.of_row hg
  skip
  (refine S_op ?_; refine W_call hS (by rfl) (leaf_c H (some ⟨g, 0, none⟩) 1 [⟨⟨#[97]⟩, ⟨#[]⟩⟩] hl (by simp) (by simp)) ?_); rintro v H w hG' hv; replace hG := hG.trans hG'; replace hS := hG'.sub; clear hG'
  rcases hv with ⟨h1, _⟩ | ⟨_, b, _, rfl, hx⟩
  · exact absurd h1 (by decide)
  · (refine S_op ?_; refine W_moveTup (by first | rfl | assumption) ?_; refine S_op ?_; refine W_extract (by first | rfl | assumption) (by rfl) ?_; refine S_op ?_; refine W_extract (by first | rfl | assumption) (by rfl) ?_; refine S_op ?_; refine W_assignPtr (by first | rfl | assumption) ?_; refine S_op ?_; refine W_assignInt (by first | rfl | assumption) ?_; refine S_nil ?_; refine CW_seq ?_; refine CW_region rfl ?_; refine S_op ?_; refine W_moveInt (by first | rfl | assumption) ?_; refine S_op ?_; refine W_eqlT (by first | rfl | assumption) (by first | rfl | assumption) (by first | omega | rfl) ?_; refine S_op ?_; refine W_moveBool (by first | rfl | assumption) ?_; refine S_want (by rfl) ?_; refine W_movePtr (by first | rfl | assumption) ?_; refine S_want (by rfl) ?_; refine W_pneqnil (by first | rfl | assumption) (by first | rfl | assumption) ?_; refine S_op ?_; refine W_pickT (by first | rfl | assumption) (by first | rfl | assumption) ?_; refine S_op ?_; refine W_moveBool (by first | rfl | assumption) ?_; refine S_want (by rfl) ?_; refine W_movePtr (by first | rfl | assumption) ?_)
    (refine S_want (by rfl) ?_; refine W_call hS (by rfl) (height_c hx) ?_); rintro v H w hG' rfl; replace hG := hG.trans hG'; replace hS := hG'.sub; replace hx := hx.mono hG'.le; clear hG'
    (refine S_want (by rfl) ?_; refine W_eqlT (by first | rfl | assumption) (by first | rfl | assumption) (by first | omega | rfl) ?_; refine S_op ?_; refine W_pickT (by first | rfl | assumption) (by first | rfl | assumption) ?_; refine S_op ?_; refine W_moveBool (by first | rfl | assumption) ?_; refine S_want (by rfl) ?_; refine W_movePtr (by first | rfl | assumption) ?_)
    (refine S_want (by rfl) ?_; refine W_call hS (by rfl) (size_c hx) ?_); rintro v H w hG' rfl; replace hG := hG.trans hG'; replace hS := hG'.sub; replace hx := hx.mono hG'.le; clear hG'
    rw [show Nd.size 0 (Nd.leaf b [⟨⟨#[97]⟩, ⟨#[]⟩⟩]) = 1 from rfl]
    (refine S_want (by rfl) ?_; refine W_eqlT (by first | rfl | assumption) (by first | rfl | assumption) (by first | omega | rfl) ?_; refine S_op ?_; refine W_pickT (by first | rfl | assumption) (by first | rfl | assumption) ?_; refine S_op ?_; refine W_assignBool (by first | rfl | assumption) ?_; refine S_nil ?_; refine CW_ret ?_)
    exact ⟨_, ResW_one (v := .bool _) rfl, H, hG, rfl⟩
theorem full_zero {H : HF} {b : Nat} (hr : Raw H b none 0 0 none 0 0 0 ⟨#[]⟩ ⟨#[]⟩) : Fn Try.prog 25 [.pointer (some ⟨b, 0, none⟩)] H fun v _ => v = .bool true := by
  refine Fn_of_CW Try.func25 rfl Try.ntmps25 Try.results25 rfl fun w hS => ?_; have hG := Grow.refl hS; have hS0 := hS
  obtain ⟨E, hb⟩ := hr
  (refine CW_seq ?_; refine CW_region rfl ?_; refine S_op ?_; refine W_assignBool (by first | rfl | assumption) ?_; refine S_nil ?_; refine CW_seq ?_; refine CW_seq ?_; refine CW_region rfl ?_; refine S_op ?_; refine W_movePtr (by first | rfl | assumption) ?_; refine S_op ?_; refine W_peqnil (by first | rfl | assumption) (by first | rfl | assumption) ?_; refine S_nil ?_; refine CW_false (by first | rfl | assumption) ?_; refine CW_skip ?_; refine CW_seq ?_; refine CW_region rfl ?_; refine S_op ?_; refine W_movePtr (by first | rfl | assumption) ?_; refine S_op ?_; refine W_nilCheck (by first | rfl | assumption) ?_; refine S_op ?_; refine W_field (by first | rfl | assumption) ?_; refine S_op ?_; refine W_loadHL (by first | rfl | assumption) (by assumption) (by rfl) (by assumption) ?_)
  (refine S_op ?_; refine W_call hS (by rfl) (containsFunc_Node (α := Nat) (fun _ => .bool true) (fun _ => false) H none 0 [] (.inl rfl) (by simp) (fun _ _ e he => by cases he)) ?_); rintro v H w hG' rfl; replace hG := hG.trans hG'; replace hS := hG'.sub; clear hG'
  (refine S_op ?_; refine W_not (by first | rfl | assumption) ?_; refine S_op ?_; refine W_assignBool (by first | rfl | assumption) ?_; refine S_nil ?_; refine CW_ret ?_)
  exact ⟨_, ResW_one (v := .bool _) rfl, H, hG, rfl⟩
theorem nones_branch (n : Nat) : branchB (List.replicate n (none : Tr)) = false := by
  unfold branchB
  cases n with
  | zero => rfl
  | succ n => simp [trs, Tr.height]
theorem nones_val (n : Nat) : (List.replicate n (none : Tr)).map Tr.val = List.replicate n (.pointer none) := by
  rw [List.map_replicate]; rfl
theorem add_empty : (⟨#[]⟩ : ByteArray) ++ ⟨#[]⟩ = ⟨#[]⟩ := by rfl
theorem nodeNil_c (H : HF) (z : Bool) (n : Int) (hn0 : 0 ≤ n) (hn1 : n ≤ 255) : Fn Try.prog 6 [.bool z, .int .u8 n] H fun v _ => v = .bool true := by
  refine Fn_of_CW Try.func6 rfl Try.ntmps6 Try.results6 rfl fun w hS => ?_; have hG := Grow.refl hS; have hS0 := hS
  (refine CW_seq ?_; refine CW_region rfl ?_; refine S_op ?_; refine W_assignBool (by first | rfl | assumption) ?_; refine S_nil ?_; refine CW_seq ?_; refine CW_seq ?_; refine CW_region rfl ?_)
  (refine S_op ?_; refine W_call hS (by rfl) (awake9_c H) ?_); rintro v H w hG' rfl; replace hG := hG.trans hG'; replace hS := hG'.sub; clear hG'
  cases z with
  | false =>
    (refine S_op ?_; refine W_not (by first | rfl | assumption) ?_; refine S_nil ?_; refine CW_false (by first | rfl | assumption) ?_; refine CW_skip ?_; refine CW_seq ?_; refine CW_region rfl ?_; refine S_op ?_; refine W_assignPtr (by first | rfl | assumption) ?_; refine S_nil ?_; refine CW_seq ?_; refine CW_seq ?_; refine CW_region rfl ?_; refine S_op ?_; refine W_moveBool (by first | rfl | assumption) ?_; refine S_nil ?_; refine CW_false (by first | rfl | assumption) ?_; refine CW_skip ?_; refine CW_seq ?_; refine CW_region rfl ?_; refine S_op ?_; refine W_movePtr (by first | rfl | assumption) ?_)
    (refine S_op ?_; refine W_call hS (by rfl) (ends_nil (H := H)) ?_); rintro v H w hG' rfl; replace hG := hG.trans hG'; replace hS := hG'.sub; clear hG'
    have hG0 := hG.below.size
    (refine S_op ?_; refine W_moveTup (by first | rfl | assumption) ?_; refine S_op ?_; refine W_extract (by first | rfl | assumption) (by rfl) ?_; refine S_op ?_; refine W_extract (by first | rfl | assumption) (by rfl) ?_; refine S_op ?_; refine W_assignStr (by first | rfl | assumption) ?_; refine S_op ?_; refine W_assignStr (by first | rfl | assumption) ?_; refine S_nil ?_; refine CW_seq ?_; refine CW_region rfl ?_; refine S_op ?_; refine W_moveInt (by first | rfl | assumption) ?_)
    obtain ⟨q, hq⟩ : ∃ q : Nat, n.tmod 8 = (q : Int) := ⟨(n.tmod 8).toNat, by
      have := Int.tmod_nonneg 8 hn0
      omega⟩
    have hq8 : q < 8 := by
      have := Int.tmod_lt_of_pos n (show (0 : Int) < 8 by omega)
      omega
    refine S_op (W_rem (by rfl) (by rfl) (by omega) hq ?_)
    refine S_op ?_
    refine W_make (l := q) (c := q) (z := .pointer none) hS (by rfl) (by rfl) (Nat.le_refl _) (by omega) (by omega) (made_one (z := .pointer none) q rfl) ?_
    intro w g hG' hgw hm
    replace hG := hG.trans hG'
    obtain ⟨H, T, hle, hG'', hH, _⟩ := hm.freeze hG (Nat.le_trans hG0 (by omega))
    replace hG := hG''
    replace hS := hG.sub
    have hsl : SlAt H (some ⟨g, 0, none⟩) ((List.replicate q (none : Tr)).map Tr.val) := by rw [nones_val]; exact SlAt.of_row hH
    skip
    have c1 := branch_c H (some ⟨g, 0, none⟩) q (List.replicate q none) hsl (fun t ht => by rw [(List.mem_replicate.1 ht).2]; trivial) (by simp) (by simp; omega) (by
      simp only [trs]
      cases q with
      | zero => simp [Tr.height]
      | succ q => simp [Tr.height])
    rw [List.length_replicate] at c1
    (refine S_op ?_; refine W_call hS (by rfl) (c1) ?_); rintro v H w hG' hv; replace hG := hG.trans hG'; replace hS := hG'.sub; clear hG'
    rcases hv with ⟨_, rfl⟩ | ⟨h1, _⟩
    · (refine S_op ?_; refine W_moveTup (by first | rfl | assumption) ?_; refine S_op ?_; refine W_extract (by first | rfl | assumption) (by rfl) ?_; refine S_op ?_; refine W_extract (by first | rfl | assumption) (by rfl) ?_; refine S_op ?_; refine W_assignPtr (by first | rfl | assumption) ?_; refine S_op ?_; refine W_assignInt (by first | rfl | assumption) ?_; refine S_nil ?_; refine CW_seq ?_; refine CW_region rfl ?_; refine S_op ?_; refine W_movePtr (by first | rfl | assumption) ?_)
      (refine S_op ?_; refine W_call hS (by rfl) (height_nil (H := H)) ?_); rintro v H w hG' rfl; replace hG := hG.trans hG'; replace hS := hG'.sub; clear hG'
      (refine S_op ?_; refine W_eqlT (by first | rfl | assumption) (by first | rfl | assumption) (by first | omega | rfl) ?_; refine S_op ?_; refine W_moveBool (by first | rfl | assumption) ?_; refine S_want (by rfl) ?_; refine W_movePtr (by first | rfl | assumption) ?_)
      (refine S_want (by rfl) ?_; refine W_call hS (by rfl) (size_nil (H := H)) ?_); rintro v H w hG' rfl; replace hG := hG.trans hG'; replace hS := hG'.sub; clear hG'
      (refine S_want (by rfl) ?_; refine W_eqlT (by first | rfl | assumption) (by first | rfl | assumption) (by first | omega | rfl) ?_; refine S_op ?_; refine W_pickT (by first | rfl | assumption) (by first | rfl | assumption) ?_; refine S_op ?_; refine W_moveBool (by first | rfl | assumption) ?_; refine S_want (by rfl) ?_; refine W_movePtr (by first | rfl | assumption) ?_)
      (refine S_want (by rfl) ?_; refine W_call hS (by rfl) (entries_nil (H := H)) ?_); rintro v H w hG' rfl; replace hG := hG.trans hG'; replace hS := hG'.sub; clear hG'
      (refine S_want (by rfl) ?_; refine W_len (by first | rfl | assumption) ?_; refine S_want (by rfl) ?_; refine W_movePtr (by first | rfl | assumption) ?_)
      (refine S_want (by rfl) ?_; refine W_call hS (by rfl) (kids_nil (H := H)) ?_); rintro v H w hG' rfl; replace hG := hG.trans hG'; replace hS := hG'.sub; clear hG'
      (refine S_want (by rfl) ?_; refine W_len (by first | rfl | assumption) ?_; refine S_want (by rfl) ?_; refine W_addN (by first | rfl | assumption) (by first | rfl | assumption) (by omega) ?_; refine S_want (by rfl) ?_; refine W_eqlT (by first | rfl | assumption) (by first | rfl | assumption) (by first | omega | rfl) ?_; refine S_op ?_; refine W_pickT (by first | rfl | assumption) (by first | rfl | assumption) ?_; refine S_op ?_; refine W_moveBool (by first | rfl | assumption) ?_; refine S_want (by rfl) ?_; refine W_moveStr (by first | rfl | assumption) ?_; refine S_want (by rfl) ?_; refine W_moveStr (by first | rfl | assumption) ?_)
      refine S_want (by rfl) ?_
      refine W_sadd (by rfl) (by rfl) (by decide) ?_
      rw [add_empty]
      (refine S_want (by rfl) ?_; refine W_seqlT (by first | rfl | assumption) (by first | rfl | assumption) (by first | assumption | rfl) ?_; refine S_op ?_; refine W_pickT (by first | rfl | assumption) (by first | rfl | assumption) ?_; refine S_op ?_; refine W_moveBool (by first | rfl | assumption) ?_; refine S_want (by rfl) ?_; refine W_movePtr (by first | rfl | assumption) ?_)
      (refine S_want (by rfl) ?_; refine W_call hS (by rfl) (full_t (H := H) (t := none) trivial) ?_); rintro v H w hG' rfl; replace hG := hG.trans hG'; replace hS := hG'.sub; clear hG'
      rw [show Tr.full none = true from rfl]
      (refine S_op ?_; refine W_pickT (by first | rfl | assumption) (by first | rfl | assumption) ?_; refine S_op ?_; refine W_moveBool (by first | rfl | assumption) ?_; refine S_want (by rfl) ?_; refine W_movePtr (by first | rfl | assumption) ?_; refine S_want (by rfl) ?_; refine W_peqnil (by first | rfl | assumption) (by first | rfl | assumption) ?_; refine S_op ?_; refine W_pickT (by first | rfl | assumption) (by first | rfl | assumption) ?_; refine S_op ?_; refine W_moveBool (by first | rfl | assumption) ?_; refine S_want (by rfl) ?_; refine W_moveInt (by first | rfl | assumption) ?_; refine S_want (by rfl) ?_; refine W_eqlT (by first | rfl | assumption) (by first | rfl | assumption) (by first | omega | rfl) ?_; refine S_op ?_; refine W_pickT (by first | rfl | assumption) (by first | rfl | assumption) ?_; refine S_op ?_; refine W_assignBool (by first | rfl | assumption) ?_; refine S_nil ?_; refine CW_ret ?_)
      exact ⟨_, ResW_one (v := .bool _) rfl, H, hG, rfl⟩
    · rw [nones_branch] at h1; cases h1
  | true =>
    (refine S_op ?_; refine W_not (by first | rfl | assumption) ?_; refine S_nil ?_; refine CW_false (by first | rfl | assumption) ?_; refine CW_skip ?_; refine CW_seq ?_; refine CW_region rfl ?_; refine S_op ?_; refine W_assignPtr (by first | rfl | assumption) ?_; refine S_nil ?_; refine CW_seq ?_; refine CW_seq ?_; refine CW_region rfl ?_; refine S_op ?_; refine W_moveBool (by first | rfl | assumption) ?_; refine S_nil ?_; refine CW_true (by first | rfl | assumption) ?_; refine CW_region rfl ?_; refine S_op ?_; refine W_build (by rfl) ?_)
    refine S_op ?_
    refine W_boxF hS (by rfl) ?_
    intro H w b hG' _ _ hb
    replace hG := hG.trans hG'
    replace hS := hG'.sub
    have hr : Raw H b none 0 0 none 0 0 0 ⟨#[]⟩ ⟨#[]⟩ := ⟨_, hb⟩
    clear hG' hb
    (refine S_op ?_; refine W_assignPtr (by first | rfl | assumption) ?_; refine S_nil ?_; refine CW_seq ?_; refine CW_region rfl ?_; refine S_op ?_; refine W_movePtr (by first | rfl | assumption) ?_)
    (refine S_op ?_; refine W_call hS (by rfl) (ends_raw hr) ?_); rintro v H w hG' rfl; replace hG := hG.trans hG'; replace hS := hG'.sub; replace hr := hr.mono hG'.le; clear hG'
    have hG0 := hG.below.size
    (refine S_op ?_; refine W_moveTup (by first | rfl | assumption) ?_; refine S_op ?_; refine W_extract (by first | rfl | assumption) (by rfl) ?_; refine S_op ?_; refine W_extract (by first | rfl | assumption) (by rfl) ?_; refine S_op ?_; refine W_assignStr (by first | rfl | assumption) ?_; refine S_op ?_; refine W_assignStr (by first | rfl | assumption) ?_; refine S_nil ?_; refine CW_seq ?_; refine CW_region rfl ?_; refine S_op ?_; refine W_moveInt (by first | rfl | assumption) ?_)
    obtain ⟨q, hq⟩ : ∃ q : Nat, n.tmod 8 = (q : Int) := ⟨(n.tmod 8).toNat, by
      have := Int.tmod_nonneg 8 hn0
      omega⟩
    have hq8 : q < 8 := by
      have := Int.tmod_lt_of_pos n (show (0 : Int) < 8 by omega)
      omega
    refine S_op (W_rem (by rfl) (by rfl) (by omega) hq ?_)
    refine S_op ?_
    refine W_make (l := q) (c := q) (z := .pointer none) hS (by rfl) (by rfl) (Nat.le_refl _) (by omega) (by omega) (made_one (z := .pointer none) q rfl) ?_
    intro w g hG' hgw hm
    replace hG := hG.trans hG'
    obtain ⟨H, T, hle, hG'', hH, _⟩ := hm.freeze hG (Nat.le_trans hG0 (by omega))
    replace hG := hG''
    replace hS := hG.sub
    have hsl : SlAt H (some ⟨g, 0, none⟩) ((List.replicate q (none : Tr)).map Tr.val) := by rw [nones_val]; exact SlAt.of_row hH
    skip
    have c1 := branch_c H (some ⟨g, 0, none⟩) q (List.replicate q none) hsl (fun t ht => by rw [(List.mem_replicate.1 ht).2]; trivial) (by simp) (by simp; omega) (by
      simp only [trs]
      cases q with
      | zero => simp [Tr.height]
      | succ q => simp [Tr.height])
    rw [List.length_replicate] at c1
    replace hr := hr.mono hle
    (refine S_op ?_; refine W_call hS (by rfl) (c1) ?_); rintro v H w hG' hv; replace hG := hG.trans hG'; replace hS := hG'.sub; replace hr := hr.mono hG'.le; clear hG'
    rcases hv with ⟨_, rfl⟩ | ⟨h1, _⟩
    · (refine S_op ?_; refine W_moveTup (by first | rfl | assumption) ?_; refine S_op ?_; refine W_extract (by first | rfl | assumption) (by rfl) ?_; refine S_op ?_; refine W_extract (by first | rfl | assumption) (by rfl) ?_; refine S_op ?_; refine W_assignPtr (by first | rfl | assumption) ?_; refine S_op ?_; refine W_assignInt (by first | rfl | assumption) ?_; refine S_nil ?_; refine CW_seq ?_; refine CW_region rfl ?_; refine S_op ?_; refine W_movePtr (by first | rfl | assumption) ?_)
      (refine S_op ?_; refine W_call hS (by rfl) (height_raw hr) ?_); rintro v H w hG' rfl; replace hG := hG.trans hG'; replace hS := hG'.sub; replace hr := hr.mono hG'.le; clear hG'
      (refine S_op ?_; refine W_eqlT (by first | rfl | assumption) (by first | rfl | assumption) (by first | omega | rfl) ?_; refine S_op ?_; refine W_moveBool (by first | rfl | assumption) ?_; refine S_want (by rfl) ?_; refine W_movePtr (by first | rfl | assumption) ?_)
      (refine S_want (by rfl) ?_; refine W_call hS (by rfl) (size_raw hr (by omega) (by omega)) ?_); rintro v H w hG' rfl; replace hG := hG.trans hG'; replace hS := hG'.sub; replace hr := hr.mono hG'.le; clear hG'
      (refine S_want (by rfl) ?_; refine W_eqlT (by first | rfl | assumption) (by first | rfl | assumption) (by first | omega | rfl) ?_; refine S_op ?_; refine W_pickT (by first | rfl | assumption) (by first | rfl | assumption) ?_; refine S_op ?_; refine W_moveBool (by first | rfl | assumption) ?_; refine S_want (by rfl) ?_; refine W_movePtr (by first | rfl | assumption) ?_)
      (refine S_want (by rfl) ?_; refine W_call hS (by rfl) (entries_raw (l := []) hr (by simp) (.inl rfl) (by simp)) ?_); rintro v H w hG' ⟨A1, c1, rfl, _, _⟩; replace hG := hG.trans hG'; replace hS := hG'.sub; replace hr := hr.mono hG'.le; clear hG'
      rw [show ([] : List Ent).length = 0 from rfl]
      (refine S_want (by rfl) ?_; refine W_len (by first | rfl | assumption) ?_; refine S_want (by rfl) ?_; refine W_movePtr (by first | rfl | assumption) ?_)
      (refine S_want (by rfl) ?_; refine W_call hS (by rfl) (kids_raw (vs := []) hr (by simp) (.inl rfl) (by intro u hu; cases hu) (by simp)) ?_); rintro v H w hG' ⟨A2, c2, rfl, _, _⟩; replace hG := hG.trans hG'; replace hS := hG'.sub; replace hr := hr.mono hG'.le; clear hG'
      rw [show ([] : List Value).length = 0 from rfl]
      (refine S_want (by rfl) ?_; refine W_len (by first | rfl | assumption) ?_; refine S_want (by rfl) ?_; refine W_addN (by first | rfl | assumption) (by first | rfl | assumption) (by omega) ?_; refine S_want (by rfl) ?_; refine W_eqlT (by first | rfl | assumption) (by first | rfl | assumption) (by first | omega | rfl) ?_; refine S_op ?_; refine W_pickT (by first | rfl | assumption) (by first | rfl | assumption) ?_; refine S_op ?_; refine W_moveBool (by first | rfl | assumption) ?_; refine S_want (by rfl) ?_; refine W_moveStr (by first | rfl | assumption) ?_; refine S_want (by rfl) ?_; refine W_moveStr (by first | rfl | assumption) ?_)
      refine S_want (by rfl) ?_
      refine W_sadd (by rfl) (by rfl) (by decide) ?_
      rw [add_empty]
      (refine S_want (by rfl) ?_; refine W_seqlT (by first | rfl | assumption) (by first | rfl | assumption) (by first | assumption | rfl) ?_; refine S_op ?_; refine W_pickT (by first | rfl | assumption) (by first | rfl | assumption) ?_; refine S_op ?_; refine W_moveBool (by first | rfl | assumption) ?_; refine S_want (by rfl) ?_; refine W_movePtr (by first | rfl | assumption) ?_)
      (refine S_want (by rfl) ?_; refine W_call hS (by rfl) (full_zero hr) ?_); rintro v H w hG' rfl; replace hG := hG.trans hG'; replace hS := hG'.sub; clear hG'
      (refine S_op ?_; refine W_pickT (by first | rfl | assumption) (by first | rfl | assumption) ?_; refine S_op ?_; refine W_moveBool (by first | rfl | assumption) ?_; refine S_want (by rfl) ?_; refine W_movePtr (by first | rfl | assumption) ?_; refine S_want (by rfl) ?_; refine W_peqnil (by first | rfl | assumption) (by first | rfl | assumption) ?_; refine S_op ?_; refine W_pickT (by first | rfl | assumption) (by first | rfl | assumption) ?_; refine S_op ?_; refine W_moveBool (by first | rfl | assumption) ?_; refine S_want (by rfl) ?_; refine W_moveInt (by first | rfl | assumption) ?_; refine S_want (by rfl) ?_; refine W_eqlT (by first | rfl | assumption) (by first | rfl | assumption) (by first | omega | rfl) ?_; refine S_op ?_; refine W_pickT (by first | rfl | assumption) (by first | rfl | assumption) ?_; refine S_op ?_; refine W_assignBool (by first | rfl | assumption) ?_; refine S_nil ?_; refine CW_ret ?_)
      exact ⟨_, ResW_one (v := .bool _) rfl, H, hG, rfl⟩
    · rw [nones_branch] at h1; cases h1
end Go.Proofs.Ytlkbdgfipdeloaa
