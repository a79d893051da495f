/- node.Branch, Full: walked. Conditions: sizes. -/
import Derived.Test.YtnjeoobcejlojaaNode3
namespace Go.Proofs.Ytnjeoobcejlojaa
open Go.Proofs Go.RowKit
set_option linter.unusedVariables false
attribute [local irreducible] CW SeqW OpW
set_option maxHeartbeats 4000000
theorem height_c {H : HF} {h : Nat} {x : Nd h} (hx : NodeAt H h x) : Fn Try.prog 45 [x.ptr] H fun v _ => v = .int .i64 ((h + 1 : Nat) : Int) := by
  obtain ⟨A, c, B, d, hr, _⟩ := hx.raw
  exact height_raw hr
theorem height_t {H : HF} {t : Tr} (ht : Tr.At H t) : Fn Try.prog 45 [t.val] H fun v _ => v = .int .i64 (t.height : Int) := by
  cases t with
  | none => exact height_nil
  | some x => exact height_c ht
theorem enough_c {H : HF} {h : Nat} {x : Nd h} (hx : NodeAt H h x) : Fn Try.prog 88 [x.ptr] H fun v _ => v = .bool (Nd.enough h x) := by
  obtain ⟨A, c, B, d, hr, _⟩ := hx.raw
  refine (enough_raw hr).mono ?_
  rintro v H' _ rfl
  cases h with
  | zero => rfl
  | succ h => simp [Nd.enough, Nd.kptrs]
theorem ptr_one {h : Nat} (ks : List (Nd h)) : OneCells (ks.map Nd.ptr) := by
  intro u hu
  simp only [List.mem_map] at hu
  obtain ⟨k, _, rfl⟩ := hu
  rfl
theorem full1_c {h : Nat} (ih : ∀ (H : HF) (x : Nd h), NodeAt H h x → Fn Try.prog 62 [x.ptr] H fun v _ => v = .bool (Nd.full h x)) (H : HF) (x : Nd h) (hx : NodeAt H h x) :
    Fn Try.prog 87 [x.ptr] H fun v _ => v = .bool (!(Nd.enough h x && Nd.full h x)) := by
  refine Fn_of_CW Try.func87 rfl Try.ntmps87 Try.results87 rfl fun w hS => ?_; have hG := Grow.refl hS; have hS0 := hS
  (refine CW_seq ?_; refine CW_region rfl ?_; refine S_op ?_; refine W_assignBool (by first | rfl | assumption) ?_; refine S_nil ?_; refine CW_seq ?_; refine CW_region rfl ?_; refine S_op ?_; refine W_movePtr (by first | rfl | assumption) ?_)
  (refine S_op ?_; refine W_call hS (by rfl) (enough_c hx) ?_); rintro v H w hG' rfl; replace hG := hG.trans hG'; replace hS := hG'.sub; replace hx := hx.mono hG'.le; clear hG'
  cases he : Nd.enough h x with
  | false =>
    (refine S_op ?_; refine W_not (by first | rfl | assumption) ?_; refine S_op ?_; refine W_moveBool (by first | rfl | assumption) ?_; refine S_pass (by rfl) ?_; refine S_pass (by rfl) ?_; refine S_pass (by rfl) ?_; refine S_op ?_; refine W_pickT (by first | rfl | assumption) (by first | rfl | assumption) ?_; refine S_op ?_; refine W_assignBool (by first | rfl | assumption) ?_; refine S_nil ?_; refine CW_ret ?_)
    exact ⟨_, ResW_one (v := .bool _) rfl, H, hG, rfl⟩
  | true =>
    (refine S_op ?_; refine W_not (by first | rfl | assumption) ?_; refine S_op ?_; refine W_moveBool (by first | rfl | assumption) ?_; refine S_want (by rfl) ?_; refine W_movePtr (by first | rfl | assumption) ?_)
    (refine S_want (by rfl) ?_; refine W_call hS (by rfl) (ih H x hx) ?_); rintro v H w hG' rfl; replace hG := hG.trans hG'; replace hS := hG'.sub; replace hx := hx.mono hG'.le; clear hG'
    cases Nd.full h x with
    | true =>
      (refine S_want (by rfl) ?_; refine W_not (by first | rfl | assumption) ?_; refine S_op ?_; refine W_pickF (by first | rfl | assumption) (by first | rfl | assumption) ?_; refine S_op ?_; refine W_assignBool (by first | rfl | assumption) ?_; refine S_nil ?_; refine CW_ret ?_)
      exact ⟨_, ResW_one (v := .bool _) rfl, H, hG, rfl⟩
    | false =>
      (refine S_want (by rfl) ?_; refine W_not (by first | rfl | assumption) ?_; refine S_op ?_; refine W_pickF (by first | rfl | assumption) (by first | rfl | assumption) ?_; refine S_op ?_; refine W_assignBool (by first | rfl | assumption) ?_; refine S_nil ?_; refine CW_ret ?_)
      exact ⟨_, ResW_one (v := .bool _) rfl, H, hG, rfl⟩
theorem any_not {α : Type} (p : α → Bool) (l : List α) : (!(l.any fun x => !p x)) = l.all p := by
  induction l with
  | nil => rfl
  | cons x l ih => simp only [List.any_cons, List.all_cons, Bool.not_or, Bool.not_not, ih]
theorem full_c (h : Nat) : ∀ (H : HF) (x : Nd h), NodeAt H h x → Fn Try.prog 62 [x.ptr] H fun v _ => v = .bool (Nd.full h x) := by
  induction h with
  | zero =>
    intro H x hx
    refine Fn_of_CW Try.func62 rfl Try.ntmps62 Try.results62 rfl fun w hS => ?_; have hG := Grow.refl hS; have hS0 := hS
    obtain ⟨A, c, B, d, ⟨E, hb⟩, _⟩ := hx.raw
    (refine CW_seq ?_; refine CW_region rfl ?_; refine S_op ?_; refine W_assignBool (by first | rfl | assumption) ?_; refine S_nil ?_; refine CW_seq ?_; refine CW_seq ?_; refine CW_region rfl ?_; refine S_op ?_; refine W_movePtr (by first | rfl | assumption) ?_; refine S_op ?_; refine W_peqnil (by first | rfl | assumption) (by first | rfl | assumption) ?_; refine S_nil ?_; refine CW_false (by first | rfl | assumption) ?_; refine CW_skip ?_; refine CW_seq ?_; refine CW_region rfl ?_; refine S_op ?_; refine W_movePtr (by first | rfl | assumption) ?_; refine S_op ?_; refine W_nilCheck (by first | rfl | assumption) ?_; refine S_op ?_; refine W_field (by first | rfl | assumption) ?_; refine S_op ?_; refine W_loadHL (by first | rfl | assumption) (by assumption) (by rfl) (by assumption) ?_)
    (refine S_op ?_; refine W_call hS (by rfl) (containsFunc_Node (α := Nat) (fun _ => .bool true) (fun _ => false) H B d [] (.inl rfl) (by simp) (fun _ _ e he => by cases he)) ?_); rintro v H w hG' rfl; replace hG := hG.trans hG'; replace hS := hG'.sub; clear hG'
    (refine S_op ?_; refine W_not (by first | rfl | assumption) ?_; refine S_op ?_; refine W_assignBool (by first | rfl | assumption) ?_; refine S_nil ?_; refine CW_ret ?_)
    exact ⟨_, ResW_one (v := .bool _) rfl, H, hG, rfl⟩
  | succ h ih =>
    intro H x hx
    refine Fn_of_CW Try.func62 rfl Try.ntmps62 Try.results62 rfl fun w hS => ?_; have hG := Grow.refl hS; have hS0 := hS
    obtain ⟨⟨h2, h6, hok, hrise⟩, ⟨B, d, ⟨E, hb⟩, hd, hsl⟩, hks⟩ := hx
    (refine CW_seq ?_; refine CW_region rfl ?_; refine S_op ?_; refine W_assignBool (by first | rfl | assumption) ?_; refine S_nil ?_; refine CW_seq ?_; refine CW_seq ?_; refine CW_region rfl ?_; refine S_op ?_; refine W_movePtr (by first | rfl | assumption) ?_; refine S_op ?_; refine W_peqnil (by first | rfl | assumption) (by first | rfl | assumption) ?_; refine S_nil ?_; refine CW_false (by first | rfl | assumption) ?_; refine CW_skip ?_; refine CW_seq ?_; refine CW_region rfl ?_; refine S_op ?_; refine W_movePtr (by first | rfl | assumption) ?_; refine S_op ?_; refine W_nilCheck (by first | rfl | assumption) ?_; refine S_op ?_; refine W_field (by first | rfl | assumption) ?_; refine S_op ?_; refine W_loadHL (by first | rfl | assumption) (by assumption) (by rfl) (by assumption) ?_)
    (refine S_op ?_; refine W_call hS (by rfl) (containsFunc_Node Nd.ptr (fun k => !(Nd.enough h k && Nd.full h k)) H B d x.kids hsl (by omega) (fun H' hle k hk => full1_c ih H' k ((hks k hk).mono hle))) ?_); rintro v H w hG' rfl; replace hG := hG.trans hG'; replace hS := hG'.sub; clear hG'
    (refine S_op ?_; refine W_not (by first | rfl | assumption) ?_; refine S_op ?_; refine W_assignBool (by first | rfl | assumption) ?_; refine S_nil ?_; refine CW_ret ?_)
    exact ⟨_, ResW_one (v := .bool _) rfl, H, hG, by rw [any_not]; rfl⟩
theorem full_t {H : HF} {t : Tr} (ht : Tr.At H t) : Fn Try.prog 62 [t.val] H fun v _ => v = .bool t.full := by
  cases t with
  | none =>
    show Fn Try.prog 62 [.pointer none] H fun v _ => v = .bool true
    refine Fn_of_CW Try.func62 rfl Try.ntmps62 Try.results62 rfl fun w hS => ?_; have hG := Grow.refl hS; have hS0 := hS
    (refine CW_seq ?_; refine CW_region rfl ?_; refine S_op ?_; refine W_assignBool (by first | rfl | assumption) ?_; refine S_nil ?_; refine CW_seq ?_; refine CW_seq ?_; refine CW_region rfl ?_; refine S_op ?_; refine W_movePtr (by first | rfl | assumption) ?_; refine S_op ?_; refine W_peqnil (by first | rfl | assumption) (by first | rfl | assumption) ?_; refine S_nil ?_; refine CW_true (by first | rfl | assumption) ?_; refine CW_seq ?_; refine CW_region rfl ?_; refine S_op ?_; refine W_assignBool (by first | rfl | assumption) ?_; refine S_nil ?_; refine CW_ret ?_)
    exact ⟨_, ResW_one (v := .bool _) rfl, H, hG, rfl⟩
  | some x => exact full_c _ _ _ ht
theorem entriesN_c {H : HF} {h : Nat} {x : Nd h} (hx : NodeAt H h x) : Fn Try.prog 51 [x.ptr] H fun v H' => IsNew H 60 2 v (Nd.own h x).length (entCells (Nd.own h x)) H' := by
  obtain ⟨A, c, B, d, hr, h1, h2, h3, h4⟩ := hx.raw
  refine entriesN_raw hr h1 h3 ?_
  cases h with
  | zero => have := hx.ok; simp only [Nd.Ok, leafB, Bool.and_eq_true, decide_eq_true_eq] at this; show x.ents.length ≤ _; omega
  | succ h => simp [Nd.own]
theorem entries_c {H : HF} {h : Nat} {x : Nd h} (hx : NodeAt H h x) : Fn Try.prog 51 [x.ptr] H fun v H' => IsEnts v (Nd.own h x) H' :=
  (entriesN_c hx).mono fun v H' _ h => h.sl.ents
theorem kidsN_c {H : HF} {h : Nat} {x : Nd (h + 1)} (hx : NodeAt H (h + 1) x) : Fn Try.prog 52 [x.ptr] H fun v H' => IsNew H 35 1 v x.kids.length (x.kids.map Nd.ptr) H' := by
  obtain ⟨A, c, B, d, hr, h1, h2, h3, h4⟩ := hx.raw
  have := kidsN_raw (vs := x.kids.map Nd.ptr) hr h2 h4 (ptr_one _) (by have := hx.ok.2.1; simp; omega)
  simp only [List.length_map] at this
  exact this
theorem kids_c {H : HF} {h : Nat} {x : Nd (h + 1)} (hx : NodeAt H (h + 1) x) : Fn Try.prog 52 [x.ptr] H fun v H' => IsSl 1 v x.kids.length (x.kids.map Nd.ptr) H' :=
  (kidsN_c hx).mono fun v H' _ h => h.sl
theorem kids_leaf {H : HF} {x : Nd 0} (hx : NodeAt H 0 x) : Fn Try.prog 52 [x.ptr] H fun v H' => v = .slice none 0 0 := by
  obtain ⟨h1, A, c, ⟨E, hb⟩, h2, h3⟩ := hx
  show Fn Try.prog 52 [.pointer (some ⟨x.blk, 0, none⟩)] H fun v H' => v = .slice none 0 0
  refine Fn_of_CW Try.func52 rfl Try.ntmps52 Try.results52 rfl fun w hS => ?_; have hG := Grow.refl hS; have hS0 := hS
  (refine CW_seq ?_; refine CW_region rfl ?_; refine S_op ?_; refine W_assignSl (by first | rfl | assumption) ?_; refine S_nil ?_; refine CW_seq ?_; refine CW_seq ?_; refine CW_region rfl ?_; refine S_op ?_; refine W_movePtr (by first | rfl | assumption) ?_; refine S_op ?_; refine W_peqnil (by first | rfl | assumption) (by first | rfl | assumption) ?_; refine S_nil ?_; refine CW_false (by first | rfl | assumption) ?_; refine CW_skip ?_; refine CW_seq ?_; refine CW_region rfl ?_; refine S_op ?_; refine W_movePtr (by first | rfl | assumption) ?_; refine S_op ?_; refine W_nilCheck (by first | rfl | assumption) ?_; refine S_op ?_; refine W_field (by first | rfl | assumption) ?_; refine S_op ?_; refine W_loadHL (by first | rfl | assumption) (by assumption) (by rfl) (by assumption) ?_)
  (refine S_op ?_; refine W_call hS (by rfl) (cloneNil_Node H) ?_); rintro v H w hG' rfl; replace hG := hG.trans hG'; replace hS := hG'.sub; clear hG'
  (refine S_op ?_; refine W_assignSl (by first | rfl | assumption) ?_; refine S_nil ?_; refine CW_ret ?_)
  exact ⟨_, ResW_one (v := .slice _ _ _) rfl, H, hG, rfl⟩
theorem entries_branch {H : HF} {h : Nat} {x : Nd (h + 1)} (hx : NodeAt H (h + 1) x) : Fn Try.prog 51 [x.ptr] H fun v H' => v = .slice none 0 0 := by
  obtain ⟨h1, ⟨B, d, ⟨E, hb⟩, h2, h3⟩, h4⟩ := hx
  show Fn Try.prog 51 [.pointer (some ⟨x.blk, 0, none⟩)] H fun v H' => v = .slice none 0 0
  refine Fn_of_CW Try.func51 rfl Try.ntmps51 Try.results51 rfl fun w hS => ?_; have hG := Grow.refl hS; have hS0 := hS
  (refine CW_seq ?_; refine CW_region rfl ?_; refine S_op ?_; refine W_assignSl (by first | rfl | assumption) ?_; refine S_nil ?_; refine CW_seq ?_; refine CW_seq ?_; refine CW_region rfl ?_; refine S_op ?_; refine W_movePtr (by first | rfl | assumption) ?_; refine S_op ?_; refine W_peqnil (by first | rfl | assumption) (by first | rfl | assumption) ?_; refine S_nil ?_; refine CW_false (by first | rfl | assumption) ?_; refine CW_skip ?_; refine CW_seq ?_; refine CW_region rfl ?_; refine S_op ?_; refine W_movePtr (by first | rfl | assumption) ?_; refine S_op ?_; refine W_nilCheck (by first | rfl | assumption) ?_; refine S_op ?_; refine W_field (by first | rfl | assumption) ?_; refine S_op ?_; refine W_loadHL (by first | rfl | assumption) (by assumption) (by rfl) (by assumption) ?_)
  (refine S_op ?_; refine W_call hS (by rfl) (cloneNil_Ent H) ?_); rintro v H w hG' rfl; replace hG := hG.trans hG'; replace hS := hG'.sub; clear hG'
  (refine S_op ?_; refine W_assignSl (by first | rfl | assumption) ?_; refine S_nil ?_; refine CW_ret ?_)
  exact ⟨_, ResW_one (v := .slice _ _ _) rfl, H, hG, rfl⟩
theorem ends_c {H : HF} {h : Nat} {x : Nd h} (hx : NodeAt H h x) : Fn Try.prog 108 [x.ptr] H fun v _ => v = .tuple #[.string x.lo, .string x.hi] := by
  obtain ⟨A, c, B, d, hr, _⟩ := hx.raw
  exact ends_raw hr
theorem size_c {H : HF} {h : Nat} {x : Nd h} (hx : NodeAt H h x) : Fn Try.prog 28 [x.ptr] H fun v _ => v = .int .i64 (Nd.size h x : Int) := by
  obtain ⟨A, c, B, d, hr, h1, h2, h3, h4⟩ := hx.raw
  cases h with
  | zero =>
    have := hx.ok; simp only [Nd.Ok, leafB, Bool.and_eq_true, decide_eq_true_eq] at this
    exact size_raw hr (by show x.ents.length ≤ _; omega) (by simp [Nd.kptrs])
  | succ h =>
    have := hx.ok.2.1
    refine (size_raw hr (by simp [Nd.own]) (by simp [Nd.kptrs]; omega)).mono ?_
    rintro v _ _ rfl
    simp [Nd.own, Nd.kptrs, Nd.size]
end Go.Proofs.Ytnjeoobcejlojaa
