/- node.Leaf, node.Branch that are lent a row of the caller's own. Conditions: sizes. -/
import Derived.Test.YtlkbdgfipdeloaaNewNode
import Derived.Test.YtlkbdgfipdeloaaNewOwn
namespace Go.Proofs.Ytlkbdgfipdeloaa
open Go.Proofs Go.RowKit
set_option linter.unusedVariables false
theorem trOf_map_inj {h h' : Nat} {ks : List (Nd h)} {ks' : List (Nd h')} (h0 : ks ≠ []) (e : ks.map trOf = ks'.map trOf) : ∃ q : h' = h, q ▸ ks' = ks := by
  have inj : ∀ (a b : List (Nd h)), a.map trOf = b.map trOf → b = a := by
    intro a
    induction a with
    | nil => intro b hb; cases b <;> simp at hb ⊢
    | cons x a ih =>
      intro b hb
      cases b with
      | nil => simp at hb
      | cons y b =>
        simp only [List.map_cons, List.cons.injEq] at hb
        have h1 : y = x := by
          have := hb.1
          simp only [trOf, Option.some.injEq, Sigma.mk.injEq, true_and] at this
          exact (eq_of_heq this).symm
        rw [h1, ih b hb.2]
  cases ks with
  | nil => exact absurd rfl h0
  | cons k ks =>
    cases ks' with
    | nil => simp at e
    | cons k' ks' =>
      have h1 : trOf k = trOf k' := by simp only [List.map_cons, List.cons.injEq] at e; exact e.1
      have h2 : h' = h := by
        simp only [trOf, Option.some.injEq, Sigma.mk.injEq] at h1
        exact h1.1.symm
      subst h2
      exact ⟨rfl, inj _ _ e⟩
theorem branchK_c (H : HF) (A : Option Addr) (n c : Nat) {h : Nat} (ks : List (Nd h)) (hn : ks.length = n) (hl : SlAt H A (ks.map Nd.ptr)) (hk : AllAt H h ks) (hc : n ≤ c) (hb : n ≤ 1000000) (hht : h + 1 ≤ 1000000) :
    Fn Try.prog 21 [.slice A n c] H fun v H' => (¬ (2 ≤ n ∧ n ≤ 6 ∧ Nd.chain ks = true) ∧ v = .tuple #[.pointer none, .int .i64 1]) ∨
      ((2 ≤ n ∧ n ≤ 6 ∧ Nd.chain ks = true) ∧ ∃ b, H b = none ∧ v = .tuple #[(Nd.branch b ks).ptr, .int .i64 0] ∧ BranchNew H H' h b ks) := by
  subst hn
  have h0 : (trs (ks.map trOf) 0).height ≤ 1000000 := by
    cases ks with
    | nil => simp [trs, Tr.height]
    | cons k ks => rw [trs_map (by simp)]; exact hht
  have hm := branchNew_c H A c (ks.map trOf) (by rw [val_map]; exact hl) (by
    intro t ht
    obtain ⟨k, hk1, rfl⟩ := List.mem_map.1 ht
    exact hk k hk1) (by simpa using hc) (by simpa using hb) h0
  rw [List.length_map] at hm
  refine hm.mono ?_
  rintro v H' _ (⟨h1, h2⟩ | ⟨h1, h', ks', b, h3, h4, h5, h6⟩)
  · refine .inl ⟨fun ⟨q1, q2, q3⟩ => ?_, h2⟩
    rw [branchB_of q1 q2 q3] at h1; cases h1
  · obtain ⟨h7, h8, h9, _⟩ := id h6
    have hlen : ks.length = ks'.length := by have := congrArg List.length h3; simpa using this
    have hne : ks ≠ [] := by intro e; subst e; simp at hlen; omega
    obtain ⟨q, hq⟩ := trOf_map_inj hne h3
    subst q
    subst hq
    exact .inr ⟨⟨h7, h8, h9⟩, b, h4, h5, h6⟩
/-- node.Branch, lent the kids. -/
theorem branch_lent {H : HF} {w : World} {g n c : Nat} {xs : List Value} {h : Nat} {ks : List (Nd h)} (hS : Sub H w) (hm : Mut H w g xs) (hx : xs.take n = ks.map Nd.ptr) (hn : ks.length = n) (hk : AllAt H h ks) (hc : n ≤ c) (hb : n ≤ 1000000) (hht : h + 1 ≤ 1000000) :
    CallW Try.prog 21 #[.slice (some ⟨g, 0, none⟩) n c] w fun v w' => ∃ H', Grow H w H' w' ∧ ((¬ (2 ≤ n ∧ n ≤ 6 ∧ Nd.chain ks = true) ∧ v = .tuple #[.pointer none, .int .i64 1]) ∨
      ((2 ≤ n ∧ n ≤ 6 ∧ Nd.chain ks = true) ∧ ∃ b, b ≠ g ∧ H b = none ∧ v = .tuple #[(Nd.branch b ks).ptr, .int .i64 0] ∧ NodeAt H' (h + 1) (.branch b ks))) := by
  refine (CallW.lent (args := [.slice (some ⟨g, 0, none⟩) n c]) (R := fun o v H' => (¬ (2 ≤ n ∧ n ≤ 6 ∧ Nd.chain ks = true) ∧ v = .tuple #[.pointer none, .int .i64 1]) ∨ ((2 ≤ n ∧ n ≤ 6 ∧ Nd.chain ks = true) ∧ ∃ b, ins H g o b = none ∧ v = .tuple #[(Nd.branch b ks).ptr, .int .i64 0] ∧ BranchNew (ins H g o) H' h b ks)) hS hm (fun o _ ho => branchK_c _ _ n c ks hn (by rw [← hx]; exact ho.take n) (hk.mono (HLe.ins hm.out)) hc hb hht)).mono ?_
  rintro v w' ⟨o, H3, hle, hg, h1 | ⟨h1, b, h2, h3, h4⟩⟩
  · exact ⟨_, hg, .inl h1⟩
  · have hbg : b ≠ g := by intro e; subst e; rw [ins_self] at h2; cases h2
    refine ⟨_, hg, .inr ⟨h1, b, hbg, by rw [ins_other hbg] at h2; exact h2, h3, h4.lent hk hm.out hle h2⟩⟩
/-- node.Leaf, lent the entries. -/
theorem leaf_lent {H : HF} {w : World} {g n c : Nat} {xs : List Value} {l : List Ent} (hS : Sub H w) (hm : Mut H w g xs) (hx : xs.take (n * 2) = entCells l) (hn : l.length = n) (hc : n ≤ c) (hb : n ≤ 1000000) :
    CallW Try.prog 18 #[.slice (some ⟨g, 0, none⟩) n c] w fun v w' => ∃ H', Grow H w H' w' ∧ ((leafB l = false ∧ v = .tuple #[.pointer none, .int .i64 1]) ∨
      (leafB l = true ∧ ∃ b, b ≠ g ∧ H b = none ∧ v = .tuple #[(Nd.leaf b l).ptr, .int .i64 0] ∧ NodeAt H' 0 (.leaf b l))) := by
  subst hn
  refine (CallW.lent (args := [.slice (some ⟨g, 0, none⟩) l.length c]) (R := fun o v H' => (leafB l = false ∧ v = .tuple #[.pointer none, .int .i64 1]) ∨ (leafB l = true ∧ ∃ b, ins H g o b = none ∧ v = .tuple #[(Nd.leaf b l).ptr, .int .i64 0] ∧ LeafNew (ins H g o) H' b l)) hS hm (fun o _ ho => leafNew_c _ _ c l (by unfold EntsAt; rw [← hx]; exact ho.take _) hc hb)).mono ?_
  rintro v w' ⟨o, H3, hle, hg, h1 | ⟨h1, b, h2, h3, h4⟩⟩
  · exact ⟨_, hg, .inl h1⟩
  · have hbg : b ≠ g := by intro e; subst e; rw [ins_self] at h2; cases h2
    refine ⟨_, hg, .inr ⟨h1, b, hbg, by rw [ins_other hbg] at h2; exact h2, h3, h4.lent h1 h2⟩⟩
end Go.Proofs.Ytlkbdgfipdeloaa
