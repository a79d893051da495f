/- Clients and their memory: what a step makes of them. Conditions: sizes. -/
import Derived.Test.YtglhnfficliaoaaCli3
namespace Go.Proofs.Ytglhnfficliaoaa
open Go.Proofs Go.RowKit
set_option linter.unusedVariables false
attribute [local irreducible] CW CWD SeqW OpW
set_option maxHeartbeats 4000000
/-- A client's state that can be. -/
structure ClGood (H : HF) (k : Cl) : Prop where
  stage : k.stage ≤ 3
  call : k.stage ≠ 0 → checkE k.x = 0
  left : k.stage = 2 → 1 ≤ k.left
  made : 2 ≤ k.stage → TreeAt H k.old ∧ MadeOf H k.old k.x k.new ∧ k.rep = doesR k.old.items k.x ∧ k.left ≤ k.old.height ∧ k.old.items.length ≤ 800000
  swap : k.stage = 3 → k.new ≠ k.old
theorem ClGood.mono {H H' : HF} {k : Cl} (h : ClGood H k) (hle : HLe H H') : ClGood H' k :=
  ⟨h.stage, h.call, h.left, fun h2 => by obtain ⟨a, b, c⟩ := h.made h2; exact ⟨a.mono hle, b.mono hle, c⟩, h.swap⟩
theorem ClGood.idle {H : HF} {k : Cl} (h : k.stage = 0) : ClGood H k := ⟨by omega, fun h2 => absurd h h2, (fun h2 => by omega), (fun h2 => by omega), (fun h2 => by omega)⟩
theorem ClGood.fresh {H : HF} {k : Cl} (h : k.stage = 1) (hx : checkE k.x = 0) : ClGood H k := ⟨by omega, fun _ => hx, (fun h2 => by omega), (fun h2 => by omega), (fun h2 => by omega)⟩
theorem ClGood.read {H : HF} {k : Cl} (h : k.stage = 2) (hx : checkE k.x = 0) (hl : 1 ≤ k.left) (h2 : TreeAt H k.old ∧ MadeOf H k.old k.x k.new ∧ k.rep = doesR k.old.items k.x ∧ k.left ≤ k.old.height ∧ k.old.items.length ≤ 800000) : ClGood H k :=
  ⟨by omega, fun _ => hx, fun _ => hl, fun _ => h2, (fun h2 => by omega)⟩
theorem ClGood.swapping {H : HF} {k : Cl} (h : k.stage = 3) (hx : checkE k.x = 0) (hn : k.new ≠ k.old) (h2 : TreeAt H k.old ∧ MadeOf H k.old k.x k.new ∧ k.rep = doesR k.old.items k.x ∧ k.left ≤ k.old.height ∧ k.old.items.length ≤ 800000) : ClGood H k :=
  ⟨by omega, fun _ => hx, (fun h2 => by omega), fun _ => h2, fun _ => hn⟩
theorem ClGood.zero (H : HF) : ClGood H cl0 := ClGood.idle rfl
/-- What a step makes of a client and of the tree (n: what its call makes of the tree): the client, the answer, whether it ends, the tree. -/
def stepF (k : Cl) (t n : Tr) : Cl × Rep4 × Bool :=
  if k.stage = 1 then lookedK { k with old := t, new := n, left := t.height, rep := doesR t.items k.x }
  else if k.stage = 2 then lookedK { k with left := k.left - 1 } else swapK k t
def swaps (k : Cl) (t : Tr) : Bool := decide (k.stage = 3) && sameT t k.old
def treeF (k : Cl) (t : Tr) : Tr := if swaps k t = true then k.new else t
theorem lookedK_cases {H : HF} {k : Cl} (hx : checkE k.x = 0) (h1 : TreeAt H k.old) (h2 : MadeOf H k.old k.x k.new) (h3 : k.rep = doesR k.old.items k.x) (h4 : k.left ≤ k.old.height) (h5 : k.old.items.length ≤ 800000) :
    ClGood H (lookedK k).1 ∧ (lookedK k).1.x = k.x ∧ (lookedK k).1.tries = k.tries ∧
    ((0 < k.left ∧ lookedK k = ({ k with stage := 2 }, rep0, false)) ∨ (k.left = 0 ∧ k.new = k.old ∧ lookedK k = (endK k, k.rep, true)) ∨ (k.left = 0 ∧ k.new ≠ k.old ∧ lookedK k = ({ k with stage := 3 }, rep0, false))) := by
  unfold lookedK
  by_cases hl : 0 < k.left
  · rw [if_pos hl]
    exact ⟨ClGood.read rfl hx hl ⟨h1, h2, h3, h4, h5⟩, rfl, rfl, .inl ⟨hl, rfl⟩⟩
  · rw [if_neg hl]
    have hl0 : k.left = 0 := by omega
    by_cases hs : sameT k.new k.old = true
    · rw [if_pos hs]
      exact ⟨ClGood.idle rfl, rfl, rfl, .inr (.inl ⟨hl0, Tr.unique h2.at_.at_ h1.at_ hs, rfl⟩)⟩
    · rw [if_neg hs]
      have hne : k.new ≠ k.old := fun e => hs (by rw [e]; exact sameT_refl _)
      exact ⟨ClGood.swapping rfl hx hne ⟨h1, h2, h3, h4, h5⟩, rfl, rfl, .inr (.inr ⟨hl0, hne, rfl⟩)⟩
section
variable {H : HF} {w : World} {ccb mb : Nat} {A : Option Addr} {k : Cl} {t : Tr} {s c : Nat}
theorem step_all (hS : Sub H w) (hk : k.stage ≠ 0) (hg : ClGood H k) (cc : CliAt H w ccb (.pointer (some ⟨mb, 0, none⟩)) k) (hm : IsMem H w mb A ([t].map Tr.val) s c) (hb : ¬ memS mb A ccb) (hs : s ≤ 1000000000) (hcc : c ≤ 1000000000) (htr : k.tries ≤ 1000000000) (ht : TreeAt H t) (hti : t.items.length ≤ 800000) :
    CallW Try.prog 18 [.pointer (some ⟨ccb, 0, none⟩)].toArray w fun v w' => ∃ H' n, Turn (stepS ccb mb A) H w H' w' ∧ (k.stage = 1 → MadeOf H' t k.x n) ∧ TreeAt H' (treeF k t) ∧
      (∃ s', s' ≤ s + 1 ∧ IsMem H' w' mb A ([treeF k t].map Tr.val) s' (if swaps k t = true then c + 1 else c)) ∧
      CliAt H' w' ccb (.pointer (some ⟨mb, 0, none⟩)) (stepF k t n).1 ∧ ClGood H' (stepF k t n).1 ∧
      v = .tuple #[.agg (repCells (stepF k t n).2.1).toArray, .bool (stepF k t n).2.2, .int .i64 0] := by
  have h3 := hg.stage
  rcases (by omega : k.stage = 1 ∨ k.stage = 2 ∨ k.stage = 3) with h | h | h
  · have e1 : swaps k t = false := by simp [swaps, h]
    refine (step_load hS h cc hm hb hs ht hti (hg.call hk)).mono ?_
    rintro v w' ⟨H', n, hT, hn, ht', hm', cc', rfl⟩
    have e2 : stepF k t n = lookedK { k with old := t, new := n, left := t.height, rep := doesR t.items k.x } := by simp [stepF, h]
    refine ⟨H', n, hT, fun _ => hn, by rw [treeF, e1]; exact ht', ⟨s + 1, by omega, by rw [treeF, e1]; exact hm'⟩, by rw [e2]; exact cc', ?_, by rw [e2]⟩
    rw [e2]
    exact (lookedK_cases (k := { k with old := t, new := n, left := t.height, rep := doesR t.items k.x }) (hg.call hk) ht' hn rfl (Nat.le_refl _) hti).1
  · have e1 : swaps k t = false := by simp [swaps, h]
    obtain ⟨m1, m2, m3, m4, m5⟩ := hg.made (by omega)
    have hh := m1.height
    refine (step_read hS h (hg.left h) cc m1.at_ m2.at_.at_ (by omega)).mono ?_
    rintro v w' ⟨H', hT, cc', rfl⟩
    have e2 : stepF k t t = lookedK { k with left := k.left - 1 } := by simp [stepF, h]
    refine ⟨H', t, hT.wider fun j _ e => .inl e, fun h2 => by omega, by rw [treeF, e1]; exact ht.mono hT.le, ⟨s, by omega, by rw [treeF, e1]; exact hm.turn hT fun j hj e => hb (by rw [← e]; exact hj)⟩, by rw [e2]; exact cc', ?_, by rw [e2]⟩
    rw [e2]
    exact (lookedK_cases (k := { k with left := k.left - 1 }) (hg.call hk) (m1.mono hT.le) (m2.mono hT.le) m3 (by show k.left - 1 ≤ k.old.height; omega) m5).1
  · obtain ⟨m1, m2, m3, m4, m5⟩ := hg.made (by omega)
    have e1 : swaps k t = sameT t k.old := by simp [swaps, h]
    have e2 : ∀ n, stepF k t n = swapK k t := fun n => by simp [stepF, h]
    refine (step_swap hS h cc m1.at_ ht.at_ hm hb hs hcc htr).mono ?_
    rintro v w' ⟨H', hT, hm', cc', rfl⟩
    refine ⟨H', t, hT, fun h2 => by omega, ?_, ⟨s + 1, by omega, by rw [treeF, e1]; exact hm'⟩, by rw [e2]; exact cc', ?_, by rw [e2]⟩
    · rw [treeF, e1]
      split
      · exact m2.at_.mono hT.le
      · exact ht.mono hT.le
    · rw [e2]
      unfold swapK
      split
      · exact ClGood.idle rfl
      · exact ClGood.fresh rfl (hg.call hk)
end
/-! ### Some clients of one memory -/
def setF (ks : Nat → Cl) (q : Nat) (k : Cl) : Nat → Cl := fun i => if i = q then k else ks i
theorem setF_same (ks : Nat → Cl) (q : Nat) (k : Cl) : setF ks q k q = k := by simp [setF]
theorem setF_other {ks : Nat → Cl} {q i : Nat} {k : Cl} (h : i ≠ q) : setF ks q k i = ks i := by simp [setF, h]
/-- A memory of one word, and n clients; all lies at B or behind. -/
structure Sys (H : HF) (w : World) (B n mb g : Nat) (bs : Nat → Nat) (ks : Nat → Cl) (t : Tr) (s c : Nat) : Prop where
  mem : IsMem H w mb (some ⟨g, 0, none⟩) ([t].map Tr.val) s c
  tree : TreeAt H t
  cl : ∀ q, q < n → CliAt H w (bs q) (.pointer (some ⟨mb, 0, none⟩)) (ks q)
  good : ∀ q, q < n → ClGood H (ks q)
  ownM : B ≤ mb ∧ B ≤ g
  own : ∀ q, q < n → B ≤ bs q ∧ bs q ≠ mb ∧ bs q ≠ g
  dist : ∀ p q, p < n → q < n → p ≠ q → bs p ≠ bs q
def sysS (n mb g : Nat) (bs : Nat → Nat) : Nat → Prop := fun j => j = mb ∨ j = g ∨ ∃ q, q < n ∧ j = bs q
section
variable {H H' : HF} {w w' : World} {B n mb g : Nat} {bs : Nat → Nat} {ks : Nat → Cl} {t : Tr} {s c : Nat}
theorem memS_of {j : Nat} (h : memS mb (some ⟨g, 0, none⟩) j) : j = mb ∨ j = g := by
  rcases h with rfl | ⟨a, e, rfl⟩
  · exact .inl rfl
  · cases e; exact .inr rfl
theorem Sys.turn {S : Nat → Prop} (h : Sys H w B n mb g bs ks t s c) (hT : Turn S H w H' w') (hs : ∀ j, sysS n mb g bs j → ¬ S j) : Sys H' w' B n mb g bs ks t s c :=
  ⟨h.mem.turn hT (fun j hj => hs j (by
      rcases memS_of hj with e | e
      · exact .inl e
      · exact .inr (.inl e))), h.tree.mono hT.le, fun q hq => (h.cl q hq).turn hT (hs _ (.inr (.inr ⟨q, hq, rfl⟩))), fun q hq => (h.good q hq).mono hT.le, h.ownM, h.own, h.dist⟩
theorem Sys.grow (h : Sys H w B n mb g bs ks t s c) (hG : Grow H w H' w') : Sys H' w' B n mb g bs ks t s c := h.turn (S := fun _ => False) hG.turn fun _ _ h => h
theorem Sys.other {row : Nat} (h : Sys H w B n mb g bs ks t s c) (hS : Sub H w) (ho : H row = none) (hg : w.grownBy w' (some row)) (hr : ¬ sysS n mb g bs row) : Sys H w' B n mb g bs ks t s c :=
  h.turn (S := fun j => j = row) ((Turn.refl hS).grownBy hg fun j e => by cases e; exact ⟨ho, .inr rfl⟩) fun j hj e => hr (by rw [← e]; exact hj)
theorem Sys.lt (h : Sys H w B n mb g bs ks t s c) {j : Nat} (hj : sysS n mb g bs j) : j < w.heap.size := by
  rcases hj with rfl | rfl | ⟨q, hq, rfl⟩
  · exact h.mem.cell.lt
  · rcases h.mem.words with ⟨e, _⟩ | ⟨g', e, _, h2⟩
    · cases e
    · cases e; exact h2.lt
  · exact (h.cl q hq).lt
theorem Sys.ge (h : Sys H w B n mb g bs ks t s c) {j : Nat} (hj : sysS n mb g bs j) : B ≤ j := by
  rcases hj with rfl | rfl | ⟨q, hq, rfl⟩
  · exact h.ownM.1
  · exact h.ownM.2
  · exact (h.own q hq).1
theorem Sys.out (h : Sys H w B n mb g bs ks t s c) {j : Nat} (hj : sysS n mb g bs j) : H j = none := by
  rcases hj with rfl | rfl | ⟨q, hq, rfl⟩
  · exact h.mem.cell.out
  · rcases h.mem.words with ⟨e, _⟩ | ⟨g', e, _, h2⟩
    · cases e
    · cases e; exact h2.out
  · exact (h.cl q hq).mut.out
/-- A client steps. -/
theorem sys_step (hS : Sub H w) (h : Sys H w B n mb g bs ks t s c) {q : Nat} (hq : q < n) (hk : (ks q).stage ≠ 0) (hs : s ≤ 1000000000) (hc : c ≤ 1000000000) (htr : (ks q).tries ≤ 1000000000) (hti : t.items.length ≤ 800000) :
    CallW Try.prog 18 [.pointer (some ⟨bs q, 0, none⟩)].toArray w fun v w' => ∃ H' m s', Turn (sysS n mb g bs) H w H' w' ∧ s' ≤ s + 1 ∧ ((ks q).stage = 1 → MadeOf H' t (ks q).x m) ∧
      Sys H' w' B n mb g bs (setF ks q (stepF (ks q) t m).1) (treeF (ks q) t) s' (if swaps (ks q) t = true then c + 1 else c) ∧
      v = .tuple #[.agg (repCells (stepF (ks q) t m).2.1).toArray, .bool (stepF (ks q) t m).2.2, .int .i64 0] := by
  have hb : ¬ memS mb (some ⟨g, 0, none⟩) (bs q) := fun e => by
    rcases memS_of e with e | e
    · exact (h.own q hq).2.1 e
    · exact (h.own q hq).2.2 e
  refine (step_all hS hk (h.good q hq) (h.cl q hq) h.mem hb hs hc htr h.tree hti).mono ?_
  rintro v w' ⟨H', m, hT, hm, ht, ⟨s', hs', hmem⟩, hcl, hgd, rfl⟩
  refine ⟨H', m, s', hT.wider (fun j _ hj => ?_), hs', hm, ⟨hmem, ht, fun p hp => ?_, fun p hp => ?_, h.ownM, h.own, h.dist⟩, rfl⟩
  · rcases hj with rfl | hj
    · exact .inr (.inr ⟨q, hq, rfl⟩)
    · rcases memS_of hj with e | e
      · exact .inl e
      · exact .inr (.inl e)
  · by_cases e : p = q
    · subst e; rw [setF_same]; exact hcl
    · rw [setF_other e]
      refine (h.cl p hp).turn hT ?_
      rintro (e2 | e2)
      · exact h.dist p q hp hq e e2
      · rcases memS_of e2 with e3 | e3
        · exact (h.own p hp).2.1 e3
        · exact (h.own p hp).2.2 e3
  · by_cases e : p = q
    · subst e; rw [setF_same]; exact hgd
    · rw [setF_other e]; exact (h.good p hp).mono hT.le
/-- A client begins a call. -/
theorem sys_call (hS : Sub H w) (h : Sys H w B n mb g bs ks t s c) {q : Nat} (hq : q < n) (hk : (ks q).stage = 0) (x : Call) (hx : checkE x = 0) :
    CallW Try.prog 17 [.pointer (some ⟨bs q, 0, none⟩), .agg (callCells x).toArray].toArray w fun v w' => ∃ H', Turn (sysS n mb g bs) H w H' w' ∧ v = .int .i64 0 ∧
      Sys H' w' B n mb g bs (setF ks q { ks q with x := x, stage := 1, tries := 0 }) t s c := by
  refine (call_yes x hS hk hx (h.cl q hq)).mono ?_
  rintro v w' ⟨H', hT, rfl, hcl⟩
  have hgd : ClGood H' { ks q with x := x, stage := 1, tries := 0 } := ClGood.fresh rfl hx
  refine ⟨H', hT.wider (fun j _ hj => .inr (.inr ⟨q, hq, hj⟩)), rfl, ⟨h.mem.turn hT (fun j hj e => ?_), h.tree.mono hT.le, fun p hp => ?_, fun p hp => ?_, h.ownM, h.own, h.dist⟩⟩
  · have e : j = bs q := e
    subst e
    rcases memS_of hj with e | e
    · exact (h.own q hq).2.1 e
    · exact (h.own q hq).2.2 e
  · by_cases e : p = q
    · subst e; rw [setF_same]; exact hcl
    · rw [setF_other e]; exact (h.cl p hp).turn hT (h.dist p q hp hq e)
  · by_cases e : p = q
    · subst e; rw [setF_same]; exact hgd
    · rw [setF_other e]; exact (h.good p hp).mono hT.le
/-- The tree that stands there. -/
theorem root_c (hS : Sub H w) (h : Sys H w B n mb g bs ks t s c) (hs : s ≤ 1000000000) : CallW Try.prog 25 [.pointer (some ⟨mb, 0, none⟩)].toArray w fun v w' => ∃ H', Turn (sysS n mb g bs) H w H' w' ∧ v = t.val ∧ Sys H' w' B n mb g bs ks t (s + 1) c := by
  refine CallW_of_CW Try.func25 rfl Try.ntmps25 Try.results25 rfl ?_
  (refine CW_seq ?_; refine CW_region rfl ?_; refine S_op ?_; refine W_assignPtr (by first | rfl | assumption) ?_; refine S_nil ?_; refine CW_seq ?_; refine CW_region rfl ?_; refine S_op ?_; refine W_movePtr (by first | rfl | assumption) ?_)
  refine S_op ?_
  refine W_callW (by rfl) ((load_yes_Tr (q := 0) hS h.mem (by simp) hs).mono ?_)
  rintro v w' ⟨rfl, hT, hm⟩
  rw [show nth [t] 0 = t from rfl]
  (refine S_op ?_; refine W_moveTup (by first | rfl | assumption) ?_; refine S_op ?_; refine W_extract (by first | rfl | assumption) (by rfl) ?_; refine S_op ?_; refine W_extract (by first | rfl | assumption) (by rfl) ?_; refine S_op ?_; refine W_assignPtr (by first | rfl | assumption) ?_; refine S_op ?_; refine W_assignInt (by first | rfl | assumption) ?_; refine S_nil ?_; refine CW_seq ?_; refine CW_region rfl ?_; refine S_op ?_; refine W_movePtr (by first | rfl | assumption) ?_; refine S_op ?_; refine W_assignPtr (by first | rfl | assumption) ?_; refine S_nil ?_; refine CW_ret ?_)
  refine ⟨_, ResW_one (v := Tr.val t) rfl, H, hT.wider (fun j _ hj => ?_), rfl, ⟨hm, h.tree, fun q hq => (h.cl q hq).turn hT fun e => ?_, h.good, h.ownM, h.own, h.dist⟩⟩
  · rcases memS_of hj with e | e
    · exact .inl e
    · exact .inr (.inl e)
  · rcases memS_of e with e | e
    · exact (h.own q hq).2.1 e
    · exact (h.own q hq).2.2 e
end
end Go.Proofs.Ytglhnfficliaoaa
