/- bulk.built, walked. Conditions: keys rise, entries can be; sizes. -/
import Derived.Test.YtnjeoobcejlojaaBulk3
import Derived.Test.YtnjeoobcejlojaaTreeC
import Derived.Test.YtnjeoobcejlojaaRes
namespace Go.Proofs.Ytnjeoobcejlojaa
open Go.Proofs Go.RowKit
set_option linter.unusedVariables false
attribute [local irreducible] CW CWD SeqW OpW CallV
set_option maxHeartbeats 8000000
theorem rise_part : ∀ {ps : List (List Ent)} {p : List Ent}, riseB ps.flatten = true → p ∈ ps → riseB p = true
  | q :: ps, p, h, hp => by
    rw [List.flatten_cons, riseB_append] at h
    rcases List.mem_cons.1 hp with rfl | hp
    · exact h.1
    · exact rise_part h.2.1 hp
theorem getD_mem {α : Type} {l : List α} {i : Nat} {d : α} (h : i < l.length) : l.getD i d ∈ l := by
  rw [List.getD_eq_getElem?_getD, List.getElem?_eq_getElem h]; exact List.getElem_mem h
theorem getD_here {α : Type} {xs pre rest : List α} {x d : α} (h : xs = pre ++ x :: rest) : pre.length < xs.length ∧ xs.getD pre.length d = x := by
  subst h; simp
theorem lists_pos {n m : Nat} (hm : 0 < m) (h : lists n m = 0) : n = 0 := by
  unfold lists at h
  rw [Nat.div_eq_zero_iff] at h
  omega
/-- The parts can be leaves. -/
theorem part_leaf {l : List Ent} (hr : riseB l = true) (ho : ∀ e ∈ l, entOk e = true) {i : Nat} (hi : i < lists l.length 4) : leafB ((partsL l (lists l.length 4)).getD i []) = true := by
  have hm : (partsL l (lists l.length 4)).getD i [] ∈ partsL l (lists l.length 4) := getD_mem (by rw [partsL_len]; exact hi)
  obtain ⟨p, hp⟩ : ∃ p, (partsL l (lists l.length 4)).getD i [] = p := ⟨_, rfl⟩
  rw [hp] at hm ⊢
  have hf := partsL_flat (lists l.length 4) l (fun h => List.eq_nil_of_length_eq_zero (lists_pos (by decide) h))
  have h1 : riseB p = true := rise_part (by rw [hf]; exact hr) hm
  have h2 : p.all entOk = true := List.all_eq_true.2 fun e he => ho e (by rw [← hf]; exact List.mem_flatten.2 ⟨p, hm, he⟩)
  have h3 : p.length ∈ dealP l.length (lists l.length (2 * 2)) := by rw [← partsL_sizes]; exact List.mem_map.2 ⟨p, hm, rfl⟩
  obtain ⟨h4, _, h5⟩ := deal_size (by decide) h3
  simp only [leafB, h1, h2, Bool.and_true, Bool.and_eq_true, decide_eq_true_eq]
  omega
theorem dealN_at {H : HF} {h : Nat} : ∀ (k : Nat) (A : Option Addr) (c : Nat) (l : List (Nd h)), SlAt H A (l.map Nd.ptr) → l.length ≤ c → ∀ i, i < k → ∃ A' c', (dealV 1 A l.length c k).getD i undef = .slice A' ((partsL l k).getD i []).length c' ∧ ((partsL l k).getD i []).length ≤ c' ∧ SlAt H A' (((partsL l k).getD i []).map Nd.ptr)
  | 0, _, _, _, _, _, i, h => by omega
  | k + 1, A, c, l, hl, hc, i, h => by
    have hp := part_le l.length k
    unfold dealV partsL
    cases i with
    | zero =>
      simp only [List.getD_cons_zero]
      exact ⟨A, c, by rw [List.length_take, Nat.min_eq_left hp], by rw [List.length_take]; omega, by rw [List.map_take]; exact SlAt.take hl _⟩
    | succ i =>
      simp only [List.getD_cons_succ]
      have h4 := SlAt.drop (l := (l.length + k) / (k + 1)) (sz := 1) (n := l.length) hl (by simp) hc
      rw [Nat.mul_one, ← List.map_drop] at h4
      have := dealN_at k (slAddr A c ((l.length + k) / (k + 1)) 1) (c - (l.length + k) / (k + 1)) (l.drop ((l.length + k) / (k + 1))) h4 (by rw [List.length_drop]; omega) i (by omega)
      rw [List.length_drop] at this
      exact this
theorem flat_flat {α β : Type} (f : α → List β) : ∀ (ps : List (List α)), (ps.map fun q => q.flatMap f).flatten = ps.flatten.flatMap f
  | [] => rfl
  | p :: ps => by rw [List.map_cons, List.flatten_cons, List.flatten_cons, List.flatMap_append, flat_flat]
/-- The parts can be branches. -/
theorem part_branch {h : Nat} {ns : List (Nd h)} (h2 : 2 ≤ ns.length) (hok : ∀ k ∈ ns, Nd.Ok h k) (hr : riseB (ns.flatMap (Nd.items h)) = true) {p : List (Nd h)} (hp : p ∈ partsL ns (lists ns.length 6)) :
    2 ≤ p.length ∧ p.length ≤ 6 ∧ (∀ k ∈ p, k ∈ ns) ∧ Nd.chain p = true ∧ (1 < lists ns.length 6 → 3 ≤ p.length) := by
  have hf := partsL_flat (lists ns.length 6) ns (fun h => List.eq_nil_of_length_eq_zero (lists_pos (by decide) h))
  have hm : ∀ k ∈ p, k ∈ ns := fun k hk => by rw [← hf]; exact List.mem_flatten.2 ⟨p, hp, hk⟩
  have h3 : p.length ∈ dealP ns.length (lists ns.length (2 * 3)) := by rw [← partsL_sizes]; exact List.mem_map.2 ⟨p, hp, rfl⟩
  obtain ⟨h4, h5, h6⟩ := deal_size (by decide) h3
  refine ⟨?_, h4, hm, ?_, h5⟩
  · rcases Nat.lt_or_ge 1 (lists ns.length 6) with hl | hl
    · have := h5 hl; omega
    · have h7 : lists ns.length 6 = 1 := by have : lists ns.length 6 ≠ 0 := fun e => by have := lists_pos (by decide) e; omega
                                            omega
      rw [h7] at hp
      simp [partsL] at hp
      rw [hp]
      simpa using h2
  · rw [Nd.chain_iff (fun k hk => hok k (hm k hk))]
    have h8 : riseB ((partsL ns (lists ns.length 6)).map fun q => q.flatMap (Nd.items h)).flatten = true := by
      rw [flat_flat, hf]; exact hr
    exact rise_part h8 (List.mem_map.2 ⟨p, hp, rfl⟩)
/-- A level of the tree that is built of l. -/
structure Level (H : HF) (l : List Ent) (h : Nat) (ns : List (Nd h)) : Prop where
  at_ : AllAt H h ns
  items : ns.flatMap (Nd.items h) = l
  full : ∀ k ∈ ns, Nd.full h k = true
  enough : 1 < ns.length → ∀ k ∈ ns, Nd.enough h k = true
  low : h + ns.length ≤ l.length
theorem Level.mono {H H' : HF} {l : List Ent} {h : Nat} {ns : List (Nd h)} (k : Level H l h ns) (hle : HLe H H') : Level H' l h ns := ⟨k.at_.mono hle, k.items, k.full, k.enough, k.low⟩
/-- The next level. -/
theorem Level.next {H H' : HF} {l : List Ent} {h : Nat} {ns : List (Nd h)} {ms : List (Nd (h + 1))} (k : Level H l h ns) (h2 : 1 < ns.length) (hr : riseB l = true) (hm : AllAt H' (h + 1) ms) (he : ms.map Nd.kids = partsL ns (lists ns.length 6)) : Level H' l (h + 1) ms ∧ ms.length < ns.length := by
  have hf := partsL_flat (lists ns.length 6) ns (fun h => List.eq_nil_of_length_eq_zero (lists_pos (by decide) h))
  have hlen : ms.length = lists ns.length 6 := by rw [← partsL_len (lists ns.length 6) ns, ← he, List.length_map]
  have hlt : lists ns.length 6 < ns.length := by unfold lists; omega
  have hk : ∀ m ∈ ms, 2 ≤ m.kids.length ∧ m.kids.length ≤ 6 ∧ (∀ k ∈ m.kids, k ∈ ns) ∧ Nd.chain m.kids = true ∧ (1 < lists ns.length 6 → 3 ≤ m.kids.length) := fun m hm2 =>
    part_branch h2 k.at_.ok (by rw [k.items]; exact hr) (by rw [← he]; exact List.mem_map.2 ⟨m, hm2, rfl⟩)
  refine ⟨⟨hm, ?_, ?_, ?_, by have := k.low; omega⟩, by omega⟩
  · rw [← k.items, ← hf, ← he]
    have e : ms.flatMap (Nd.items (h + 1)) = ((ms.map Nd.kids).map fun q => q.flatMap (Nd.items h)).flatten := by
      rw [List.map_map, List.flatMap_def]; rfl
    rw [e, flat_flat]
  · intro m hm2
    show m.kids.all _ = true
    rw [List.all_eq_true]
    intro x hx
    have := (hk m hm2).2.2.1 x hx
    rw [k.enough h2 x this, k.full x this]; rfl
  · intro h3 m hm2
    have := (hk m hm2).2.2.2.2 (by omega)
    show decide (3 ≤ m.kids.length) = true
    exact decide_eq_true this
/-- The first level. -/
theorem Level.first {H : HF} {l : List Ent} {ns : List (Nd 0)} (hm : AllAt H 0 ns) (he : ns.map Nd.ents = partsL l (lists l.length 4)) : Level H l 0 ns := by
  have hf := partsL_flat (lists l.length 4) l (fun h => List.eq_nil_of_length_eq_zero (lists_pos (by decide) h))
  have hlen : ns.length = lists l.length 4 := by rw [← partsL_len (lists l.length 4) l, ← he, List.length_map]
  refine ⟨hm, ?_, fun _ _ => rfl, ?_, by rw [hlen]; unfold lists; omega⟩
  · conv => rhs; rw [← hf, ← he]
    rw [List.flatMap_def]; rfl
  · intro h2 k hk
    have h3 : k.ents.length ∈ dealP l.length (lists l.length (2 * 2)) := by
      rw [← partsL_sizes]
      exact List.mem_map.2 ⟨k.ents, by rw [← he]; exact List.mem_map.2 ⟨k, hk, rfl⟩, rfl⟩
    have := (deal_size (by decide) h3).2.1 (by rw [← hlen]; exact h2)
    show decide (2 ≤ k.ents.length) = true
    exact decide_eq_true this
/-- The nodes gathered so far: in c3b's slice. -/
def GatN {h : Nat} (Hs : HF) (c3b : Nat) (Q : Nat → List (Nd h) → Prop) (A : Option Addr) (n c : Nat) (cs : List Value) (pre : List Value) (H : HF) (w : World) : Prop :=
  HLe Hs H ∧ Mut H w c3b [.slice A n c] ∧ n = pre.length ∧ (∀ a, A = some a → a.block ≠ c3b) ∧ ∃ ns : List (Nd h), ns.length = n ∧ cs = ns.map Nd.ptr ∧ AllAt H h ns ∧ Q n ns
theorem GatN.abides {h : Nat} {Hs : HF} {c3b : Nat} {Q : Nat → List (Nd h) → Prop} (A : Option Addr) (n c : Nat) (cs : List Value) : Abides [c3b] (GatN Hs c3b Q A n c cs) := by
  rintro S pre H w H' w' hs hT ⟨h1, h2, h3, h4, ns, h5, h6, h7, h8⟩
  exact ⟨h1.trans hT.le, h2.turn hT (hs _ (by simp)), h3, h4, ns, h5, h6, h7.mono hT.le, h8⟩
theorem ptrs_one {h : Nat} (ns : List (Nd h)) : OneCells (ns.map Nd.ptr) := by
  intro u hu
  obtain ⟨k, _, rfl⟩ := List.mem_map.1 hu
  rfl
theorem MarkAt.ne {H : HF} {w : World} {D b : Nat} {cs : List Value} (hM : MarkAt H w D) (hm : Mut H w b cs) : b ≠ D := by
  rintro rfl
  obtain ⟨T, h⟩ := hm.at_
  rw [hM.at_] at h; cases h
/-- All marks lie there. -/
def Marks (ds : List Nat) (H : HF) (w : World) : Prop := ∀ D ∈ ds, MarkAt H w D
theorem Marks.grow {ds : List Nat} {H H' : HF} {w w' : World} (h : Marks ds H w) (hG : Grow H w H' w') : Marks ds H' w' := fun D hD => (h D hD).grow hG
theorem Marks.turn {ds : List Nat} {S : Nat → Prop} {H H' : HF} {w w' : World} (h : Marks ds H w) (hT : Turn S H w H' w') (hs : ∀ D ∈ ds, ¬ S D) : Marks ds H' w' := fun D hD => (h D hD).turn hT (hs D hD)
theorem Marks.other {ds : List Nat} {H : HF} {w w' : World} {row : Option Nat} (h : Marks ds H w) (hg : w.grownBy w' row) (hr : ∀ D ∈ ds, row ≠ some D) : Marks ds H w' := fun D hD => (h D hD).other hg (hr D hD)
theorem built_c (H0 : HF) (A : Option Addr) (c : Nat) (l : List Ent) (hl : EntsAt H0 A l) (hc : l.length ≤ c) (hr : riseB l = true) (ho : ∀ e ∈ l, entOk e = true) (hb : l.length ≤ 100000) :
    Fn Try.prog 58 [.slice A l.length c] H0 fun v H' => ∃ t, v = Tr.val t ∧ TreeAt H' t ∧ t.items = l := by
  refine Fn_of_CWD Try.func58 rfl Try.ntmps58 Try.results58 rfl fun w0 hS => ?_; have hS0 := hS; have hG := Grow.refl hS
  (refine CWD_seq ?_; refine CWD_region rfl ?_; refine S_op ?_; refine W_assignPtr (by first | rfl | assumption) ?_; refine S_nil ?_; refine CWD_seq ?_; refine CWD_region rfl ?_)
  (refine S_op (W_alloc hS ?_)); intro w c3b hG' c3h c3; replace c3h := Nat.le_trans hG.below.size (Nat.le_of_eq c3h); replace hG := hG.trans hG'; replace hS := hG'.sub; clear hG'
  (refine S_nil ?_; refine CWD_seq ?_; refine CWD_seq ?_; refine CWD_region rfl ?_; refine S_op ?_; refine W_moveSl (by first | rfl | assumption) ?_)
  have c3w := c3.lt
  have hsz0 := hG.below.size
  (refine S_op ?_; refine W_callW (by rfl) ((dealE_c (A := A) (n := l.length) (c := c) (most := 4) hS).mono ?_)); rintro v w ⟨H, hG', ⟨b1, b2, T, rfl, hb1, hm1, hb2⟩⟩; replace hl := hl.mono hG'.le; replace c3 := c3.grow hG'; replace hG := hG.trans hG'; replace hS := hG'.sub; clear hG'
  have hb1' : w0.heap.size ≤ b1 := by omega
  have h31 : c3b ≠ b1 := fun e => by have := c3w; omega
  (refine S_nil ?_; refine CWD_block ?_)
  refine CWD_range (S := fun k => k = b1) (HoldV H0 w0 [c3b] 35 1 (GatN (h := 0) H c3b (fun n ns => ns.map Nd.ents = (partsL l (lists l.length 4)).take n))) neverI
    (HoldV.good GatN.abides) neverI.stable ⟨hG, ?_, ?_, none, 0, 0, [], Own.nil _ _ _ _ _, (fun _ h => by cases h), HLe.refl _, c3, rfl, (fun _ h => by cases h), [], rfl, rfl, (fun _ h => by cases h), rfl⟩
    rfl hS (fun _ => rfl) (by decide) (fun w1 hg => dealE_it hc (by omega) (by decide) (by decide) (hm1.grow hg) hb2) (fun k e => by rw [e]; exact hm1.lt) ?_ ?_ ?_ ?_
  · intro k e
    subst e
    exact ⟨hb1', hm1.lt⟩
  · intro b hb
    simp at hb
    subst hb
    exact ⟨h31, c3.lt⟩
  · intro l1 x W
    (refine CW_region rfl ?_; refine S_op ?_; refine W_assign rfl ?_; refine S_nil ?_)
    refine ⟨rfl, ?_⟩
    clear c3 hG hS
    rintro l1 X pre rest H W hx hS ⟨hGw, hXs, hbs, A2, n2, c2, cs, hown, hXA, hle, c3, rfl, hA3, ns, hnl, rfl, hns, hQ⟩ _
    obtain ⟨hlt, hgx⟩ := getD_here (d := undef) hx
    rw [dealV_len] at hlt
    have hp := dealE_at (lists l.length 4) A c l (hl.mono hle) hc pre.length hlt
    rw [hgx] at hp
    obtain ⟨p, hpp⟩ : ∃ p, (partsL l (lists l.length 4)).getD pre.length [] = p := ⟨_, rfl⟩
    have hlf := part_leaf hr ho hlt
    rw [hpp] at hp hlf
    obtain ⟨A5, c5, rfl, hc5, hp5⟩ := hp
    have hG := hGw
    have hp4 : p.length ≤ 4 := by simp only [leafB, Bool.and_eq_true, decide_eq_true_eq] at hlf; omega
    (refine CW_block ?_; refine CW_seq ?_; refine CW_region rfl ?_; refine S_op ?_; refine W_moveSl (by first | rfl | assumption) ?_)
    refine S_op ?_
    refine W_call hS (by rfl) (leaf_c H A5 c5 p hp5 hc5 (by omega)) ?_
    rintro v H1 w1 hG' (⟨h1, _⟩ | ⟨_, b, hbn, rfl, hnew⟩)
    · rw [hlf] at h1; cases h1
    have hpl : pre.length < 100000 := by
      have h1 : lists l.length 4 ≤ l.length := by unfold lists; omega
      omega
    have hT := hG'.turn (S := notIn X)
    have hsz1 := hG'.below.size
    replace hG := hG.trans hG'
    replace hS := hG'.sub
    replace hown := hown.grow hG'
    replace hle := hle.trans hG'.le
    replace hns := hns.mono hG'.le
    replace c3 := c3.grow hG'
    skip
    clear hG'
    (refine S_op ?_; refine W_moveTup (by first | rfl | assumption) ?_; refine S_op ?_; refine W_extract (by first | rfl | assumption) (by rfl) ?_; refine S_op ?_; refine W_extract (by first | rfl | assumption) (by rfl) ?_; refine S_op ?_; refine W_assignPtr (by first | rfl | assumption) ?_; refine S_op ?_; refine W_assignInt (by first | rfl | assumption) ?_; refine S_nil ?_; refine CW_region rfl ?_; refine S_op ?_; refine W_loadM (by first | rfl | assumption) (by assumption) (by rfl) ?_; refine S_op ?_; refine W_movePtr (by first | rfl | assumption) ?_)
    refine S_op ?_
    refine W_build1 (sz := 1) (v := (Nd.leaf b p).ptr) hS (by omega) (by rfl) (by rfl) ?_
    intro H2 w2 bb hG' hb' _ _
    replace hT := hT.trans (hG'.turn (S := notIn X))
    have hsz2 := hG'.below.size
    replace hG := hG.trans hG'
    replace hS := hG'.sub
    replace hown := hown.grow hG'
    replace hle := hle.trans hG'.le
    replace hns := hns.mono hG'.le
    replace hnew := hnew.mono hG'.le
    replace c3 := c3.grow hG'
    skip
    clear hG'
    refine S_op ?_
    refine W_append (news := [(Nd.leaf b p).ptr]) (by rfl) (by rfl) hG hown ((SlAt.of_row hb').cells hS) (by rfl) (by intro u hu; simp at hu; subst hu; rfl) (by decide) (by omega) (by omega) ?_
    intro A6 c6 w3 hG2 hown2 hgb hA6
    have hrow : (Value.slice A2 pre.length c2).ownBlock ≠ some c3b := by
      intro e
      cases A2 with
      | none => simp [Value.ownBlock] at e
      | some a => simp [Value.ownBlock] at e; exact hA3 a rfl e
    replace c3 := c3.other hgb hrow
    skip
    replace hT := hT.grownBy hgb (fun g h => by
      cases A2 with
      | none => simp [Value.ownBlock] at h
      | some a => simp [Value.ownBlock] at h; subst h; exact ⟨hown.out a rfl, .inr (hXA a rfl)⟩)
    have hn2 : ∀ a, A6 = some a → a.block ≠ c3b := by
      intro a ha
      rcases hA6 with ⟨rfl, _⟩ | ⟨g, rfl, hg⟩
      · exact hA3 a ha
      · cases ha
        intro e
        have h3 := (hbs c3b (by simp)).2
        simp only at e
        omega
    have hX2 : ∀ a, A6 = some a → ¬ X a.block := by
      intro a ha h
      rcases hA6 with ⟨rfl, _⟩ | ⟨g, rfl, hg⟩
      · exact hXA a ha h
      · cases ha; have := (hXs g h).2; omega
    replace hG := hG2
    replace hS := hG2.sub
    skip
    (refine S_op0 (W_storeM (o := 0) (vs := [.slice A6 (pre.length + 1) c6]) (by rfl) (by rfl) c3 (by rfl) (OneCells.of_all (by rfl)) (by rfl) (Nat.le_of_ble_eq_true (by rfl)) ?_)); intro w hgb' hm'; replace hG := hG.grownBy hgb' (fun g h => by cases h; exact ⟨c3.out, c3h⟩); replace hS := hG.sub; replace c3 : Mut _ w c3b ([.slice A6 (pre.length + 1) c6]) := hm'; clear hm'; skip
    replace hT := hT.grownBy hgb' (fun g h => by cases h; exact ⟨c3.out, .inr (hbs _ (by simp)).1⟩)
    skip
    replace hown2 := hown2.other hgb' (fun a ha e => hn2 a ha (by first | exact Option.some.inj e | exact (Option.some.inj e).symm))
    have hXs5 : ∀ j, X j → w0.heap.size ≤ j ∧ j < w.heap.size := fun j hj => ⟨(hXs j hj).1, Nat.lt_of_lt_of_le (hXs j hj).2 hT.size⟩
    have hbs5 : ∀ b ∈ [c3b], ¬ X b ∧ b < w.heap.size := fun b hb => ⟨(hbs b hb).1, Nat.lt_of_lt_of_le (hbs b hb).2 hT.size⟩
    (refine S_nil ?_)
    exact ⟨H2, hT, hG, hXs5, hbs5, A6, _, c6, _, hown2, hX2, hle, c3, by simp, hn2, ns ++ [Nd.leaf b p], by simp [hnl], by simp, hns.append (fun k hk => by simp at hk; subst hk; exact hnew), (by
      have hQ : ns.map Nd.ents = (partsL l (lists l.length 4)).take pre.length := hQ
      show (ns ++ [Nd.leaf b p]).map Nd.ents = (partsL l (lists l.length 4)).take (pre.length + 1)
      rw [List.map_append, hQ, take_succ' (by rw [partsL_len]; exact hlt)]
      congr 1
      rw [← hpp, List.getD_eq_getElem?_getD, List.getElem?_eq_getElem (by rw [partsL_len]; exact hlt)]; rfl)⟩
  · clear c3 hG hS
    rintro D X H w hD hM hS _ hXs hXD ⟨hG, hXw, hbX, A2, n2, c2, cs, hown, hXA, hle, c3, rfl, hA3, ns, hnl, rfl, hns, hQ⟩
    have hQ : ns.map Nd.ents = (partsL l (lists l.length 4)).take (dealV 2 A l.length c (lists l.length 4)).length := hQ
    rw [dealV_len] at hown c3 hQ hnl
    rw [List.take_of_length_le (by rw [partsL_len]; exact Nat.le_refl _)] at hQ
    have hDw := (hXw D hXD).1
    have hDo : ∀ a, A2 = some a → a.block ≠ D := fun a ha e => hXA a ha (by rw [e]; exact hXD)
    rw [← hnl] at hown c3
    have hlv := Level.first hns hQ
    clear hXw hXD hXA hbX hle hns hQ hnl
    (refine CWD_seq ?_; refine CWD_block ?_)
    refine CWD_loopM [7, 8, 9, 10, 23, 24, 25, 26, 27, 28, 29, 30, 31, 32, 33, 34, 35, 36, 37, 38]
      (fun m ds u w2 => ∃ (h : Nat) (ns : List (Nd h)) (A2 : Option Addr) (c2 : Nat) (H2 : HF), Grow H0 w0 H2 w2 ∧ Own H2 w2 w0.heap.size 35 1 A2 ns.length c2 (ns.map Nd.ptr) ∧ Mut H2 w2 c3b [.slice A2 ns.length c2] ∧ (∀ a, A2 = some a → a.block ≠ c3b) ∧ Level H2 l h ns ∧ Marks ds H2 w2 ∧ (∀ D ∈ ds, w0.heap.size ≤ D ∧ ∀ a, A2 = some a → a.block ≠ D) ∧ ds.Nodup ∧ ns.length ≤ m)
      (m := ns.length) ⟨0, ns, A2, c2, H, hG, hown, c3, hA3, hlv, (fun E hE => by simp at hE; subst hE; exact hM), (fun E hE => by simp at hE; subst hE; exact ⟨hDw, hDo⟩), by simp, Nat.le_refl _⟩ ?_
    clear hG hown c3 hA3 hlv hM hDw hDo hS
    rintro m ds u w ⟨h, ns, A2, c2, H, hG, hown, c3, hA3, hlv, hms, hds, hnd, hm⟩
    have hS := hG.sub
    obtain ⟨H1, hle1, hG1, hsl1, hoth⟩ := hown.freeze hG
    have hcap := hown.cap
    by_cases h2 : 1 < ns.length
    · replace c3 : Mut H1 w c3b _ := ⟨(hoth c3b (fun a ha e => hA3 a ha e.symm)).trans c3.out, c3.at_⟩
      replace hms : Marks ds H1 w := fun D hD => ⟨(hoth D (fun a ha e => (hds D hD).2 a ha e.symm)).trans (hms D hD).out, (hms D hD).at_⟩
      replace hlv := hlv.mono hle1
      clear hown hoth hG hle1
      have hG := hG1
      replace hS := hG.sub
      clear hG1
      have hlow := hlv.low
      (refine CWD_seq ?_; refine CWD_seq ?_; refine CWD_region rfl ?_; refine S_op ?_; refine W_loadM (by first | rfl | assumption) (by assumption) (by rfl) ?_; refine S_op ?_; refine W_len (by first | rfl | assumption) ?_; refine S_op ?_; refine W_gtrT (by first | rfl | assumption) (by first | rfl | assumption) (by first | omega | rfl) ?_; refine S_nil ?_; refine CWD_true (by first | rfl | assumption) ?_; refine CWD_skip ?_; refine CWD_block ?_; refine CWD_seq ?_; refine CWD_region rfl ?_)
      (refine S_op (W_alloc hS ?_)); intro w c7b hG' c7h c7; have n_c3_c7 : c3b ≠ c7b := (by have h1 := c3.lt; omega); replace c7h := Nat.le_trans hG.below.size (Nat.le_of_eq c7h); replace hG := hG.trans hG'; replace hS := hG'.sub; replace c3 := c3.grow hG'; replace hms := hms.grow hG'; clear hG'
      have c7w := c7.lt
      have c3w' := c3.lt
      have hmw := fun D hD => (hms D hD).lt
      have h7m : ∀ D ∈ ds, c7b ≠ D := fun D hD => (hms D hD).ne c7
      have h3m : ∀ D ∈ ds, c3b ≠ D := fun D hD => (hms D hD).ne c3
      have hszw := hG.below.size
      (refine S_nil ?_; refine CWD_seq ?_; refine CWD_seq ?_; refine CWD_region rfl ?_; refine S_op ?_; refine W_loadM (by first | rfl | assumption) (by assumption) (by rfl) ?_)
      (refine S_op ?_; refine W_callW (by rfl) ((dealN_c (A := A2) (n := ns.length) (c := c2) (most := 6) hS).mono ?_)); rintro v w ⟨H, hG', ⟨b1, b2, T, rfl, hb1, hm1, hb2⟩⟩; replace hlv := hlv.mono hG'.le; replace hsl1 := hsl1.mono hG'.le; replace c3 := c3.grow hG'; replace c7 := c7.grow hG'; replace hms := hms.grow hG'; replace hG := hG.trans hG'; replace hS := hG'.sub; clear hG'
      have hb1w : w0.heap.size ≤ b1 := by omega
      (refine S_nil ?_; refine CWD_block ?_)
      refine CWD_range (S := fun k => k = b1) (HoldV H0 w0 (c7b :: c3b :: ds) 35 1 (fun A n c cs pre H2 w2 => GatN (h := h + 1) H c7b (fun n ms => ms.map Nd.kids = (partsL ns (lists ns.length 6)).take n) A n c cs pre H2 w2 ∧ Mut H2 w2 c3b [.slice A2 ns.length c2] ∧ Marks ds H2 w2 ∧ (∀ a, A = some a → a.block ∉ c3b :: ds))) neverI
        (HoldV.good ?_) neverI.stable ⟨hG, ?_, ?_, none, 0, 0, [], Own.nil _ _ _ _ _, (fun _ h => by cases h), ⟨HLe.refl _, c7, rfl, (fun _ h => by cases h), [], rfl, rfl, (fun _ h => by cases h), rfl⟩, c3, hms, (fun _ h => by cases h)⟩
        rfl hS (fun _ => rfl) (by decide) (fun w1 hg => dealN_it hcap (by omega) (by decide) (by decide) (hm1.grow hg) hb2) (fun k e => by rw [e]; exact hm1.lt) ?_ ?_ ?_ ?_
      · rintro A n c cs S pre H w H' w' hs hT ⟨g1, g2, g3, g4⟩
        exact ⟨GatN.abides A n c cs S pre H w H' w' (fun b hb => hs b (by simp at hb; subst hb; simp)) hT g1, g2.turn hT (hs _ (by simp)), g3.turn hT (fun D hD => hs D (by simp [hD])), g4⟩
      · intro k e
        subst e
        exact ⟨hb1w, hm1.lt⟩
      · intro b hb
        simp at hb
        rcases hb with rfl | rfl | hb
        · exact ⟨by omega, c7.lt⟩
        · exact ⟨by omega, c3.lt⟩
        · exact ⟨by have := hmw b hb; omega, (hms b hb).lt⟩
      · intro l1 x W
        (refine CW_region rfl ?_; refine S_op ?_; refine W_assign rfl ?_; refine S_nil ?_)
        refine ⟨rfl, ?_⟩
        clear c3 c7 hms hG hS
        have hdl := fun (H2 : HF) (hle : HLe H H2) => dealN_at (lists ns.length 6) A2 c2 ns (hsl1.mono hle) hcap
        rintro l1 X pre rest H W hx hS ⟨hGw, hXs, hbs, A2, n2, c2, cs, hown, hXA, ⟨hle, c7, rfl, hA3, ms, hnl, rfl, hns, hQ⟩, c3, hms, hA9⟩ _
        obtain ⟨hlt, hgx⟩ := getD_here (d := undef) hx
        rw [dealV_len] at hlt
        obtain ⟨A5, c5, hxe, hc5, hp5⟩ := hdl H hle pre.length hlt
        rw [hgx] at hxe
        obtain ⟨p, hpp⟩ : ∃ p, (partsL ns (lists ns.length 6)).getD pre.length [] = p := ⟨_, rfl⟩
        have hpm : p ∈ partsL ns (lists ns.length 6) := by rw [← hpp]; exact getD_mem (by rw [partsL_len]; exact hlt)
        rw [hpp] at hxe hc5 hp5
        subst hxe
        have hlv' := hlv.mono hle
        obtain ⟨g2, g6, gm, gch, _⟩ := part_branch h2 hlv'.at_.ok (by rw [hlv'.items]; exact hr) hpm
        have hG := hGw
        have hpl : pre.length < 100000 := by
          have h1 : lists ns.length 6 ≤ ns.length := by unfold lists; omega
          omega
        have hrow9 : ∀ b' ∈ c3b :: ds, (Value.slice A2 pre.length c2).ownBlock ≠ some b' := by
          intro b' hb' e
          cases A2 with
          | none => simp [Value.ownBlock] at e
          | some a => simp [Value.ownBlock] at e; exact hA9 a rfl (by rw [e]; exact hb')
        (refine CW_block ?_; refine CW_seq ?_; refine CW_region rfl ?_; refine S_op ?_; refine W_moveSl (by first | rfl | assumption) ?_)
        refine S_op ?_
        refine W_call hS (by rfl) (branchU_c H A5 c5 h p hp5 (fun k hk => hlv'.at_ k (gm k hk)) hc5 g2 g6 gch (by omega)) ?_
        rintro v H1 w1 hG' ⟨b, rfl, hnew, hbn⟩
        have hT := hG'.turn (S := notIn X)
        have hsz1 := hG'.below.size
        replace hG := hG.trans hG'
        replace hS := hG'.sub
        replace hown := hown.grow hG'
        replace hle := hle.trans hG'.le
        replace hns := hns.mono hG'.le
        replace c7 := c7.grow hG'
        (replace c3 := c3.grow hG'; replace hms := hms.grow hG')
        clear hG'
        (refine S_op ?_; refine W_moveTup (by first | rfl | assumption) ?_; refine S_op ?_; refine W_extract (by first | rfl | assumption) (by rfl) ?_; refine S_op ?_; refine W_extract (by first | rfl | assumption) (by rfl) ?_; refine S_op ?_; refine W_assignPtr (by first | rfl | assumption) ?_; refine S_op ?_; refine W_assignInt (by first | rfl | assumption) ?_; refine S_nil ?_; refine CW_region rfl ?_; refine S_op ?_; refine W_loadM (by first | rfl | assumption) (by assumption) (by rfl) ?_; refine S_op ?_; refine W_movePtr (by first | rfl | assumption) ?_)
        refine S_op ?_
        refine W_build1 (sz := 1) (v := (Nd.branch b p).ptr) hS (by omega) (by rfl) (by rfl) ?_
        intro H2 w2 bb hG' hb' _ _
        replace hT := hT.trans (hG'.turn (S := notIn X))
        have hsz2 := hG'.below.size
        replace hG := hG.trans hG'
        replace hS := hG'.sub
        replace hown := hown.grow hG'
        replace hle := hle.trans hG'.le
        replace hns := hns.mono hG'.le
        replace hnew := hnew.mono hG'.le
        replace c7 := c7.grow hG'
        (replace c3 := c3.grow hG'; replace hms := hms.grow hG')
        clear hG'
        refine S_op ?_
        refine W_append (news := [(Nd.branch b p).ptr]) (by rfl) (by rfl) hG hown ((SlAt.of_row hb').cells hS) (by rfl) (by intro u hu; simp at hu; subst hu; rfl) (by decide) (by omega) (by omega) ?_
        intro A6 c6 w3 hG2 hown2 hgb hA6
        have hrow : (Value.slice A2 pre.length c2).ownBlock ≠ some c7b := by
          intro e
          cases A2 with
          | none => simp [Value.ownBlock] at e
          | some a => simp [Value.ownBlock] at e; exact hA3 a rfl e
        replace c7 := c7.other hgb hrow
        (replace c3 := c3.other hgb (hrow9 c3b (by simp)); replace hms := hms.other hgb (fun D hD => hrow9 D (by simp [hD])))
        replace hT := hT.grownBy hgb (fun g h => by
          cases A2 with
          | none => simp [Value.ownBlock] at h
          | some a => simp [Value.ownBlock] at h; subst h; exact ⟨hown.out a rfl, .inr (hXA a rfl)⟩)
        have hn2 : ∀ a, A6 = some a → a.block ≠ c7b := by
          intro a ha
          rcases hA6 with ⟨rfl, _⟩ | ⟨g, rfl, hg⟩
          · exact hA3 a ha
          · cases ha
            intro e
            have h3 := (hbs c7b (by simp)).2
            simp only at e
            omega
        have hX2 : ∀ a, A6 = some a → ¬ X a.block := by
          intro a ha h
          rcases hA6 with ⟨rfl, _⟩ | ⟨g, rfl, hg⟩
          · exact hXA a ha h
          · cases ha; have := (hXs g h).2; omega
        replace hG := hG2
        replace hS := hG2.sub
        skip
        (refine S_op0 (W_storeM (o := 0) (vs := [.slice A6 (pre.length + 1) c6]) (by rfl) (by rfl) c7 (by rfl) (OneCells.of_all (by rfl)) (by rfl) (Nat.le_of_ble_eq_true (by rfl)) ?_)); intro w hgb' hm'; replace hG := hG.grownBy hgb' (fun g h => by cases h; exact ⟨c7.out, c7h⟩); replace hS := hG.sub; replace c7 : Mut _ w c7b ([.slice A6 (pre.length + 1) c6]) := hm'; clear hm'; skip
        replace hT := hT.grownBy hgb' (fun g h => by cases h; exact ⟨c7.out, .inr (hbs _ (by simp)).1⟩)
        (replace c3 := c3.other hgb' (by intro e; cases e; exact n_c3_c7 rfl); replace hms := hms.other hgb' (fun D hD e => h7m D hD (Option.some.inj e)))
        replace hown2 := hown2.other hgb' (fun a ha e => hn2 a ha (by first | exact Option.some.inj e | exact (Option.some.inj e).symm))
        have hXs5 : ∀ j, X j → w0.heap.size ≤ j ∧ j < w.heap.size := fun j hj => ⟨(hXs j hj).1, Nat.lt_of_lt_of_le (hXs j hj).2 hT.size⟩
        have hbs5 : ∀ b ∈ (c7b :: c3b :: ds), ¬ X b ∧ b < w.heap.size := fun b hb => ⟨(hbs b hb).1, Nat.lt_of_lt_of_le (hbs b hb).2 hT.size⟩
        (refine S_nil ?_)
        have hn9 : ∀ a, A6 = some a → a.block ∉ c3b :: ds := by
          intro a ha
          rcases hA6 with ⟨rfl, _⟩ | ⟨g, rfl, hg⟩
          · exact hA9 a ha
          · cases ha
            intro hin
            have h3 := (hbs g (List.mem_cons_of_mem _ hin)).2
            omega
        exact ⟨H2, hT, hG, hXs5, hbs5, A6, _, c6, _, hown2, hX2, ⟨hle, c7, by simp, hn2, ms ++ [Nd.branch b p], by simp [hnl], by simp, hns.append (fun k hk => by simp at hk; subst hk; exact hnew), (by
          have hQ : ms.map Nd.kids = (partsL ns (lists ns.length 6)).take pre.length := hQ
          show (ms ++ [Nd.branch b p]).map Nd.kids = (partsL ns (lists ns.length 6)).take (pre.length + 1)
          rw [List.map_append, hQ, take_succ' (by rw [partsL_len]; exact hlt)]
          congr 1
          rw [← hpp, List.getD_eq_getElem?_getD, List.getElem?_eq_getElem (by rw [partsL_len]; exact hlt)]; rfl)⟩, c3, hms, hn9⟩
      · clear c3 c7 hms hG hS
        rintro D X H w hD hM hS _ hXs hXD ⟨hG, hXw, hbX, A9, n9, c9, cs, hown, hXA, ⟨hle, c7, rfl, hA7, ms, hnl, rfl, hns, hQ⟩, c3, hms, hA9⟩
        have hQ : ms.map Nd.kids = (partsL ns (lists ns.length 6)).take (dealV 1 A2 ns.length c2 (lists ns.length 6)).length := hQ
        rw [dealV_len] at hown c7 hQ hnl
        rw [List.take_of_length_le (by rw [partsL_len]; exact Nat.le_refl _)] at hQ
        rw [← hnl] at hown c7
        obtain ⟨hlv2, hlt2⟩ := hlv.next h2 hr hns hQ
        have h3D := hM.ne c3
        have hDw := (hXw D hXD).1
        have hDn : D ∉ ds := fun h => (hbX D (by simp [h])).1 hXD
        have hDo : ∀ a, A9 = some a → a.block ≠ D := fun a ha e => hXA a ha (by rw [e]; exact hXD)
        (refine CWD_region rfl ?_; refine S_op ?_; refine W_loadM (by first | rfl | assumption) (by assumption) (by rfl) ?_)
        (refine S_op0 (W_storeM (o := 0) (vs := [.slice A9 ms.length c9]) (by rfl) (by rfl) c3 (by rfl) (OneCells.of_all (by rfl)) (by rfl) (Nat.le_of_ble_eq_true (by rfl)) ?_)); intro w hgb' hm'; replace hG := hG.grownBy hgb' (fun g h => by cases h; exact ⟨c3.out, c3h⟩); replace hS := hG.sub; replace c3 : Mut _ w c3b ([.slice A9 ms.length c9]) := hm'; clear hm'; skip
        replace hms := hms.other hgb' (fun E hE e => h3m E hE (Option.some.inj e))
        replace hM := hM.other hgb' (fun e => h3D (Option.some.inj e))
        replace hown := hown.other hgb' (fun a ha e => hA9 a ha (by have e := Option.some.inj e; simp [e]))
        (refine S_nil ?_)
        exact ⟨(by repeat (first | exact AgreeOff.over | refine AgreeOff.upd rfl ?_ | refine AgreeOff.over2 rfl ?_)), ms.length, by omega, h + 1, ms, A9, c9, H, hG, hown, c3, (fun a ha e => hA9 a ha (by rw [e]; simp)), hlv2, (fun E hE => by
          rcases List.mem_cons.1 hE with rfl | hE
          · exact hM
          · exact hms E hE), (fun E hE => by
          rcases List.mem_cons.1 hE with rfl | hE
          · exact ⟨hDw, hDo⟩
          · exact ⟨(hds E hE).1, fun a ha e => hA9 a ha (by rw [e]; simp [hE])⟩), List.nodup_cons.2 ⟨hDn, hnd⟩, Nat.le_refl _⟩
      · exact fun _ _ _ _ _ _ _ _ _ _ _ _ _ h => False.elim h
      · exact fun _ _ _ _ _ _ _ _ _ _ _ _ _ _ h => False.elim h
    · by_cases h0 : ns.length = 0
      · have e1 : ns = [] := List.eq_nil_of_length_eq_zero h0
        have e2 : l = [] := by rw [← hlv.items, e1]; rfl
        (refine CWD_seq ?_; refine CWD_seq ?_; refine CWD_region rfl ?_; refine S_op ?_; refine W_loadM (by first | rfl | assumption) (by assumption) (by rfl) ?_; refine S_op ?_; refine W_len (by first | rfl | assumption) ?_; refine S_op ?_; refine W_gtrF (by first | rfl | assumption) (by first | rfl | assumption) (by first | omega | rfl) ?_; refine S_nil ?_; refine CWD_false (by first | rfl | assumption) ?_; refine CWD_exit ?_; refine CWD_seq ?_; refine CWD_seq ?_; refine CWD_region rfl ?_; refine S_op ?_; refine W_loadM (by first | rfl | assumption) (by assumption) (by rfl) ?_; refine S_op ?_; refine W_len (by first | rfl | assumption) ?_; refine S_op ?_; refine W_eqlT (by first | rfl | assumption) (by first | rfl | assumption) (by first | omega | rfl) ?_; refine S_nil ?_; refine CWD_true (by first | rfl | assumption) ?_; refine CWD_seq ?_; refine CWD_region rfl ?_; refine S_op ?_; refine W_assignPtr (by first | rfl | assumption) ?_; refine S_nil ?_; refine CWD_ret ?_)
        refine ⟨⟨hnd, fun D hD => (hms D hD).at_⟩, ?_⟩
        exact ⟨_, ResW_one (v := .pointer _) rfl, H, Turn.grow hG (closeM_turn ds hS (fun D hD => (hms D hD).out)) (fun k hk => (hds k hk).1), none, rfl, TreeAt.nil, by rw [e2]; rfl⟩
      · have h1 : ns.length = 1 := by omega
        obtain ⟨x, rfl⟩ := List.length_eq_one_iff.1 h1
        replace c3 : Mut H1 w c3b _ := ⟨(hoth c3b (fun a ha e => hA3 a ha e.symm)).trans c3.out, c3.at_⟩
        replace hms : Marks ds H1 w := fun D hD => ⟨(hoth D (fun a ha e => (hds D hD).2 a ha e.symm)).trans (hms D hD).out, (hms D hD).at_⟩
        replace hlv := hlv.mono hle1
        clear hown hoth hG hle1
        have hG := hG1
        replace hS := hG.sub
        obtain ⟨bb, off, hA, hrow⟩ : ∃ b off, A2 = some ⟨b, off, none⟩ ∧ Row H1 b off [x.ptr] := by
          rcases hsl1 with h | h
          · simp at h
          · exact h
        simp only [List.length_singleton] at c3
        (refine CWD_seq ?_; refine CWD_seq ?_; refine CWD_region rfl ?_; refine S_op ?_; refine W_loadM (by first | rfl | assumption) (by assumption) (by rfl) ?_; refine S_op ?_; refine W_len (by first | rfl | assumption) ?_; refine S_op ?_; refine W_gtrF (by first | rfl | assumption) (by first | rfl | assumption) (by first | omega | rfl) ?_; refine S_nil ?_; refine CWD_false (by first | rfl | assumption) ?_; refine CWD_exit ?_; refine CWD_seq ?_; refine CWD_seq ?_; refine CWD_region rfl ?_; refine S_op ?_; refine W_loadM (by first | rfl | assumption) (by assumption) (by rfl) ?_; refine S_op ?_; refine W_len (by first | rfl | assumption) ?_; refine S_op ?_; refine W_eqlF (by first | rfl | assumption) (by first | rfl | assumption) (by first | omega | rfl) ?_; refine S_nil ?_; refine CWD_false (by first | rfl | assumption) ?_; refine CWD_skip ?_; refine CWD_seq ?_; refine CWD_region rfl ?_; refine S_op ?_; refine W_loadM (by first | rfl | assumption) (by assumption) (by rfl) ?_; refine S_op ?_; refine W_index (by first | rfl | assumption) (by first | rfl | assumption) (by first | assumption | omega | decide) (by first | rfl | assumption) ?_)
        refine S_op (W_loadRow (j := 0) (by rfl) hrow (by rfl) hS ?_)
        (refine S_op ?_; refine W_assignPtr (by first | rfl | assumption) ?_; refine S_nil ?_; refine CWD_ret ?_)
        refine ⟨⟨hnd, fun D hD => (hms D hD).at_⟩, ?_⟩
        have hx : NodeAt H1 h x := hlv.at_ x (by simp)
        exact ⟨_, ResW_one (v := x.ptr) rfl, H1, Turn.grow hG (closeM_turn ds hS (fun D hD => (hms D hD).out)) (fun k hk => (hds k hk).1), trOf x, rfl, ⟨hx, hlv.full x (by simp)⟩, by rw [← hlv.items]; simp [Tr.items, trOf]⟩
  · exact fun _ _ _ _ _ _ _ _ _ _ _ _ _ h => False.elim h
  · exact fun _ _ _ _ _ _ _ _ _ _ _ _ _ _ h => False.elim h
end Go.Proofs.Ytnjeoobcejlojaa
