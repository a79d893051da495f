/- node.Branch, Full: walked. Conditions: sizes. -/
import Derived.Test.YtgaabmoknpifnaaNode3
namespace Go.Proofs.Ytgaabmoknpifnaa
open Go.Proofs Go.RowKit
set_option linter.unusedVariables false
attribute [local irreducible] CW SeqW OpW
set_option maxHeartbeats 4000000
theorem height_c {H : HF} {h : Nat} {x : Nd h} (hx : NodeAt H h x) : Fn Try.prog 71 [x.ptr] H fun v _ => v = .int .i64 ((h + 1 : Nat) : Int) := by
  obtain ⟨A, c, B, d, hr, _⟩ := hx.raw
  exact height_raw hr
theorem height_t {H : HF} {t : Tr} (ht : Tr.At H t) : Fn Try.prog 71 [t.val] H fun v _ => v = .int .i64 (t.height : Int) := by
  cases t with
  | none => exact height_nil
  | some x => exact height_c ht
theorem ptr_one {h : Nat} (ks : List (Nd h)) : OneCells (ks.map Nd.ptr) := by
  intro u hu
  simp only [List.mem_map] at hu
  obtain ⟨k, _, rfl⟩ := hu
  rfl
theorem any_not {α : Type} (p : α → Bool) (l : List α) : (!(l.any fun x => !p x)) = l.all p := by
  induction l with
  | nil => rfl
  | cons x l ih => simp only [List.any_cons, List.all_cons, Bool.not_or, Bool.not_not, ih]
theorem entriesN_c {H : HF} {h : Nat} {x : Nd h} (hx : NodeAt H h x) : Fn Try.prog 65 [x.ptr] H fun v H' => IsNew H 32 2 v (Nd.own h x).length (entCells (Nd.own h x)) H' := by
  obtain ⟨A, c, B, d, hr, h1, h2, h3, h4⟩ := hx.raw
  refine entriesN_raw hr h1 h3 ?_
  cases h with
  | zero => have := hx.ok; simp only [Nd.Ok, leafB, Bool.and_eq_true, decide_eq_true_eq] at this; show x.ents.length ≤ _; omega
  | succ h => simp [Nd.own]
theorem entries_c {H : HF} {h : Nat} {x : Nd h} (hx : NodeAt H h x) : Fn Try.prog 65 [x.ptr] H fun v H' => IsEnts v (Nd.own h x) H' :=
  (entriesN_c hx).mono fun v H' _ h => h.sl.ents
theorem kidsN_c {H : HF} {h : Nat} {x : Nd (h + 1)} (hx : NodeAt H (h + 1) x) : Fn Try.prog 66 [x.ptr] H fun v H' => IsNew H 24 1 v x.kids.length (x.kids.map Nd.ptr) H' := by
  obtain ⟨A, c, B, d, hr, h1, h2, h3, h4⟩ := hx.raw
  have := kidsN_raw (vs := x.kids.map Nd.ptr) hr h2 h4 (ptr_one _) (by have := hx.ok.2.1; simp; omega)
  simp only [List.length_map] at this
  exact this
theorem kids_c {H : HF} {h : Nat} {x : Nd (h + 1)} (hx : NodeAt H (h + 1) x) : Fn Try.prog 66 [x.ptr] H fun v H' => IsSl 1 v x.kids.length (x.kids.map Nd.ptr) H' :=
  (kidsN_c hx).mono fun v H' _ h => h.sl
theorem kids_leaf {H : HF} {x : Nd 0} (hx : NodeAt H 0 x) : Fn Try.prog 66 [x.ptr] H fun v H' => v = .slice none 0 0 := by
  obtain ⟨h1, A, c, ⟨E, hb⟩, h2, h3⟩ := hx
  show Fn Try.prog 66 [.pointer (some ⟨x.blk, 0, none⟩)] H fun v H' => v = .slice none 0 0
  refine Fn_of_CW Try.func66 rfl Try.ntmps66 Try.results66 rfl fun w hS => ?_; have hG := Grow.refl hS; have hS0 := hS
  (refine CW_seq ?_; refine CW_region rfl ?_; refine S_op ?_; refine W_assignSl (by first | rfl | assumption) ?_; refine S_nil ?_; refine CW_seq ?_; refine CW_seq ?_; refine CW_region rfl ?_; refine S_op ?_; refine W_movePtr (by first | rfl | assumption) ?_; refine S_op ?_; refine W_peqnil (by first | rfl | assumption) (by first | rfl | assumption) ?_; refine S_nil ?_; refine CW_false (by first | rfl | assumption) ?_; refine CW_skip ?_; refine CW_seq ?_; refine CW_region rfl ?_; refine S_op ?_; refine W_movePtr (by first | rfl | assumption) ?_; refine S_op ?_; refine W_nilCheck (by first | rfl | assumption) ?_; refine S_op ?_; refine W_field (by first | rfl | assumption) ?_; refine S_op ?_; refine W_loadHL (by first | rfl | assumption) (by assumption) (by rfl) (by assumption) ?_)
  (refine S_op ?_; refine W_call hS (by rfl) (cloneNil_Node H) ?_); rintro v H w hG' rfl; replace hG := hG.trans hG'; replace hS := hG'.sub; clear hG'
  (refine S_op ?_; refine W_assignSl (by first | rfl | assumption) ?_; refine S_nil ?_; refine CW_ret ?_)
  exact ⟨_, ResW_one (v := .slice _ _ _) rfl, H, hG, rfl⟩
theorem entries_branch {H : HF} {h : Nat} {x : Nd (h + 1)} (hx : NodeAt H (h + 1) x) : Fn Try.prog 65 [x.ptr] H fun v H' => v = .slice none 0 0 := by
  obtain ⟨h1, ⟨B, d, ⟨E, hb⟩, h2, h3⟩, h4⟩ := hx
  show Fn Try.prog 65 [.pointer (some ⟨x.blk, 0, none⟩)] H fun v H' => v = .slice none 0 0
  refine Fn_of_CW Try.func65 rfl Try.ntmps65 Try.results65 rfl fun w hS => ?_; have hG := Grow.refl hS; have hS0 := hS
  (refine CW_seq ?_; refine CW_region rfl ?_; refine S_op ?_; refine W_assignSl (by first | rfl | assumption) ?_; refine S_nil ?_; refine CW_seq ?_; refine CW_seq ?_; refine CW_region rfl ?_; refine S_op ?_; refine W_movePtr (by first | rfl | assumption) ?_; refine S_op ?_; refine W_peqnil (by first | rfl | assumption) (by first | rfl | assumption) ?_; refine S_nil ?_; refine CW_false (by first | rfl | assumption) ?_; refine CW_skip ?_; refine CW_seq ?_; refine CW_region rfl ?_; refine S_op ?_; refine W_movePtr (by first | rfl | assumption) ?_; refine S_op ?_; refine W_nilCheck (by first | rfl | assumption) ?_; refine S_op ?_; refine W_field (by first | rfl | assumption) ?_; refine S_op ?_; refine W_loadHL (by first | rfl | assumption) (by assumption) (by rfl) (by assumption) ?_)
  (refine S_op ?_; refine W_call hS (by rfl) (cloneNil_Ent H) ?_); rintro v H w hG' rfl; replace hG := hG.trans hG'; replace hS := hG'.sub; clear hG'
  (refine S_op ?_; refine W_assignSl (by first | rfl | assumption) ?_; refine S_nil ?_; refine CW_ret ?_)
  exact ⟨_, ResW_one (v := .slice _ _ _) rfl, H, hG, rfl⟩
theorem ends_c {H : HF} {h : Nat} {x : Nd h} (hx : NodeAt H h x) : Fn Try.prog 64 [x.ptr] H fun v _ => v = .tuple #[.string x.lo, .string x.hi] := by
  obtain ⟨A, c, B, d, hr, _⟩ := hx.raw
  exact ends_raw hr
end Go.Proofs.Ytgaabmoknpifnaa
