/- Clients in a slice. Conditions: each law's own premises. -/
import Derived.Test.YtglhnfficliaoaaCli5
namespace Go.Proofs.Ytglhnfficliaoaa
open Go.Proofs Go.RowKit
set_option linter.unusedVariables false
section
variable {H H' : HF} {w w' : World} {B n mb g : Nat} {bs : Nat → Nat} {ks : Nat → Cl} {t : Tr} {s c : Nat}
theorem Sys.otherO {row : Option Nat} (h : Sys H w B n mb g bs ks t s c) (hS : Sub H w) (ho : ∀ r, row = some r → H r = none) (hg : w.grownBy w' row) (hr : ∀ r, row = some r → ¬ sysS n mb g bs r) : Sys H w' B n mb g bs ks t s c :=
  h.turn (S := fun j => row = some j) ((Turn.refl hS).grownBy hg fun j e => ⟨ho j e, .inr e⟩) fun j hj e => hr j e hj
theorem Mut.rebase {b : Nat} {cs : List Value} (h : Mut H w b cs) (ho : H' b = none) : Mut H' w b cs := ⟨ho, h.at_⟩
/-- More of the world joins the persistent part, beside the system. -/
theorem Sys.rebase (h : Sys H w B n mb g bs ks t s c) (hle : HLe H H') (ho : ∀ j, sysS n mb g bs j → H' j = none) : Sys H' w B n mb g bs ks t s c := by
  refine ⟨⟨h.mem.cell.rebase (ho _ (.inl rfl)), ?_⟩, h.tree.mono hle, fun q hq => (h.cl q hq).mut.rebase (ho _ (.inr (.inr ⟨q, hq, rfl⟩))), fun q hq => (h.good q hq).mono hle, h.ownM, h.own, h.dist⟩
  rcases h.mem.words with ⟨e, _⟩ | ⟨g', e, hne, h2⟩
  · cases e
  · cases e
    exact .inr ⟨g, rfl, hne, h2.rebase (ho _ (.inr (.inl rfl)))⟩
end
/-- Pointers to blocks. -/
def ptrs (bs : Nat → Nat) (n : Nat) : List Value := (List.range n).map fun q => .pointer (some ⟨bs q, 0, none⟩)
theorem ptrs_len (bs : Nat → Nat) (n : Nat) : (ptrs bs n).length = n := by simp [ptrs]
theorem ptrs_get {bs : Nat → Nat} {n q : Nat} (h : q < n) : (ptrs bs n)[q]? = some (.pointer (some ⟨bs q, 0, none⟩)) := by simp [ptrs, h]
theorem ptrs_succ (bs : Nat → Nat) (n b : Nat) : ptrs (setB bs n b) (n + 1) = ptrs bs n ++ [.pointer (some ⟨b, 0, none⟩)] := by
  simp only [ptrs, List.range_succ, List.map_append, List.map_cons, List.map_nil, setB_same]
  congr 1
  apply List.map_congr_left
  intro q hq
  rw [setB_other (by have := List.mem_range.1 hq; omega)]
theorem ptrs_some {H : HF} {A : Option Addr} {bs : Nat → Nat} {n q : Nat} (h : SlAt H A (ptrs bs n)) (hq : q < n) : ∃ b off, A = some ⟨b, off, none⟩ ∧ Row H b off (ptrs bs n) := by
  rcases h with h | h
  · have := ptrs_len bs n; rw [h] at this; simp only [List.length_nil] at this; omega
  · exact h
theorem setF_zero (n : Nat) : setF (fun _ => cl0) n cl0 = fun _ => cl0 := by funext i; simp [setF]
theorem W_callP {P : Program} {k : FuncId} {r : Option Nat} {f : Fr} {w : World} {K : Value → World → Prop} {d : Option Nat} {ty : TypeId} {pos : String} {af : Array Edge} {g : Option (Nat × Bool)} [FnCall P k] {args : Array Operand} {at_ : Array TypeId} {vs : List Value} {X : Value}
    (ha : args.toList.map (ev f) = vs) (hc : CallW P k vs.toArray w (fun v w' => v = X ∧ w' = w)) (hk : K X w) : OpW P r ⟨d, .call { callee := .value (.func k), args := args, argTypes := at_ }, ty, pos, af, g⟩ f w K :=
  W_callW ha (hc.mono fun v w' ⟨e1, e2⟩ => by subst e1 e2; exact hk)
theorem nth_set_same {α : Type} [Inhabited α] {l : List α} {q : Nat} {x : α} (h : q < l.length) : nth (l.set q x) q = x := by simp [nth, h]
theorem nth_set_other {α : Type} [Inhabited α] {l : List α} {p q : Nat} {x : α} (h : p ≠ q) : nth (l.set q x) p = nth l p := by simp [nth, Ne.symm h]
/-- A client more; its block is new. -/
theorem sys_add2 {H : HF} {w : World} {B n mb g : Nat} {bs : Nat → Nat} {t : Tr} {s c : Nat} (hS : Sub H w) (hB : B ≤ w.heap.size) (h : Sys H w B n mb g bs (fun _ => cl0) t s c) :
    CallW Try.prog 15 [.pointer (some ⟨mb, 0, none⟩)].toArray w fun v w' => ∃ b, v = .pointer (some ⟨b, 0, none⟩) ∧ Grow H w H w' ∧ w.heap.size ≤ b ∧ Sys H w' B (n + 1) mb g (setB bs n b) (fun _ => cl0) t s c := by
  refine (cliNew_c (.pointer (some ⟨mb, 0, none⟩)) rfl w hS).mono ?_
  rintro v w' ⟨b, rfl, hG, hb, hcl⟩
  have h2 := h.grow hG
  have hlt : ∀ i, i < n → bs i ≠ b := fun i hi => by have := h.lt (.inr (.inr ⟨i, hi, rfl⟩)); omega
  refine ⟨b, rfl, hG, hb, ⟨h2.mem, h2.tree, fun q hq => ?_, fun q hq => ClGood.zero H, h2.ownM, fun q hq => ?_, fun p q hp hq hne => ?_⟩⟩
  · by_cases e : q = n
    · subst e; rw [setB_same]; exact hcl
    · rw [setB_other e]; exact h2.cl q (by omega)
  · by_cases e : q = n
    · subst e
      rw [setB_same]
      have h3 := h.lt (.inl rfl)
      have h4 := h.lt (.inr (.inl rfl))
      exact ⟨by omega, by omega, by omega⟩
    · rw [setB_other e]; exact h2.own q (by omega)
  · by_cases e : p = n
    · by_cases e2 : q = n
      · omega
      · rw [e, setB_same, setB_other e2]; exact (hlt q (by omega)).symm
    · by_cases e2 : q = n
      · rw [e2, setB_same, setB_other e]; exact hlt p (by omega)
      · rw [setB_other e, setB_other e2]; exact h2.dist p q (by omega) (by omega) hne
theorem sysS_succ {n mb g : Nat} {bs : Nat → Nat} {b j : Nat} (h : sysS (n + 1) mb g (setB bs n b) j) : sysS n mb g bs j ∨ j = b := by
  rcases h with h | h | ⟨q, hq, rfl⟩
  · exact .inl (.inl h)
  · exact .inl (.inr (.inl h))
  · by_cases e : q = n
    · subst e; exact .inr (setB_same _ _ _)
    · rw [setB_other e]; exact .inl (.inr (.inr ⟨q, by omega, rfl⟩))
/-- How long a tree is behind a step. -/
theorem treeF_len {H : HF} {k : Cl} {t : Tr} (hg : ClGood H k) (ht : TreeAt H t) : (treeF k t).items.length ≤ t.items.length + 1 := by
  unfold treeF
  by_cases hs : swaps k t = true
  · rw [if_pos hs]
    simp only [swaps, Bool.and_eq_true, decide_eq_true_eq] at hs
    obtain ⟨m1, m2, _⟩ := hg.made (by omega)
    have e := Tr.unique ht.at_ m1.at_ hs.2
    rw [m2.items, ← e]
    exact doesL_len _ _
  · rw [if_neg hs]; omega
end Go.Proofs.Ytglhnfficliaoaa
