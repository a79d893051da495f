/- TreeOrder: it answers true. Conditions: sizes. -/
import Derived.Test.YtlkbdgfipdeloaaTreePlays
import Derived.Test.YtlkbdgfipdeloaaConv
namespace Go.Proofs.Ytlkbdgfipdeloaa
open Go.Proofs Go.RowKit
set_option linter.unusedVariables false
attribute [local irreducible] CW SeqW OpW
set_option maxHeartbeats 4000000
/-! ### Entries put in one by one -/
def putAll (l : List Ent) : List Ent := l.foldl withL []
theorem rise_fold : ∀ {l acc : List Ent}, riseB acc = true → riseB (l.foldl withL acc) = true
  | [], _, h => h
  | e :: l, _, h => rise_fold (l := l) (rise_withL e h)
theorem putAll_rise (l : List Ent) : riseB (putAll l) = true := rise_fold rfl
/-- A key tells the entry. -/
def KeyDet (l : List Ent) : Prop := ∀ a ∈ l, ∀ b ∈ l, a.key = b.key → a = b
theorem fold_look {k : ByteArray} : ∀ {l acc : List Ent}, riseB acc = true → KeyDet l → (∀ e ∈ l, e.key = k → look (l.foldl withL acc) k = some e) ∧ ((∀ e ∈ l, e.key ≠ k) → look (l.foldl withL acc) k = look acc k)
  | [], acc, _, _ => ⟨by simp, fun _ => rfl⟩
  | x :: l, acc, hr, hd => by
    obtain ⟨h1, h2⟩ := fold_look (k := k) (l := l) (rise_withL x hr) (fun a ha b hb => hd a (by simp [ha]) b (by simp [hb]))
    constructor
    · intro e he hk
      by_cases hin : ∃ y ∈ l, y.key = k
      · obtain ⟨y, hy, hyk⟩ := hin
        have : e = y := hd e he y (by simp [hy]) (hk.trans hyk.symm)
        subst this
        exact h1 e hy hyk
      · have hno : ∀ y ∈ l, y.key ≠ k := fun y hy hyk => hin ⟨y, hy, hyk⟩
        have hex : e = x := by
          rcases List.mem_cons.1 he with h | h
          · exact h
          · exact absurd hk (hno e h)
        subst hex
        show look (l.foldl withL (withL acc e)) k = some e
        rw [h2 hno, look_withL hr, if_pos hk]
    · intro hno
      show look (l.foldl withL (withL acc x)) k = look acc k
      rw [h2 fun e he => hno e (by simp [he]), look_withL hr, if_neg (hno x (by simp))]
theorem putAll_yes {l : List Ent} (hd : KeyDet l) {e : Ent} (he : e ∈ l) : look (putAll l) e.key = some e := (fold_look rfl hd).1 e he rfl
theorem putAll_no {l : List Ent} (hd : KeyDet l) {k : ByteArray} (h : ∀ e ∈ l, e.key ≠ k) : look (putAll l) k = none := (fold_look rfl hd).2 h
theorem KeyDet.sub {l m : List Ent} (h : KeyDet l) (hs : ∀ e ∈ m, e ∈ l) : KeyDet m := fun a ha b hb => h a (hs a ha) b (hs b hb)
theorem putAll_perm {l m : List Ent} (hd : KeyDet l) (h1 : ∀ e ∈ m, e ∈ l) (h2 : ∀ e ∈ l, e ∈ m) : putAll l = putAll m := by
  refine look_ext (putAll_rise l) (putAll_rise m) fun k => ?_
  by_cases hk : ∃ e ∈ l, e.key = k
  · obtain ⟨e, he, rfl⟩ := hk
    rw [putAll_yes hd he, putAll_yes (hd.sub h1) (h2 e he)]
  · rw [putAll_no hd (fun e he hek => hk ⟨e, he, hek⟩), putAll_no (hd.sub h1) (fun e he hek => hk ⟨e, h1 e he, hek⟩)]
theorem putAll_snoc (l : List Ent) (e : Ent) : putAll (l ++ [e]) = withL (putAll l) e := by simp [putAll]
theorem putAll_len {l : List Ent} {e : Ent} (hd : KeyDet l) (h : ∀ x ∈ l, x.key ≠ e.key) : (withL (putAll l) e).length = (putAll l).length + 1 := by
  rw [withL_length (putAll_rise l)]
  have : findIs (putAll l) e.key = false := by rw [look_is, putAll_no hd h]; rfl
  rw [this]; rfl
theorem ent_take_mem {l : List Ent} {i : Nat} {e : Ent} (he : e ∈ l.take i) : ∃ q, q < i ∧ q < l.length ∧ e = ent l q := by
  obtain ⟨q, hq, rfl⟩ := List.mem_iff_getElem.1 he
  simp at hq
  exact ⟨q, by omega, by omega, by simp [ent, show q < l.length by omega]⟩
def Unlike (l : List Ent) : Prop := ∀ i j, i < j → j < l.length → (ent l i).key ≠ (ent l j).key
theorem unlike_det {l : List Ent} {n : Nat} (hn : n ≤ l.length) (h : ∀ i j, i < j → j < n → (ent l i).key ≠ (ent l j).key) : KeyDet (l.take n) := by
  intro a ha b hb hab
  obtain ⟨p, hp, hp2, rfl⟩ := ent_take_mem ha
  obtain ⟨q, hq, hq2, rfl⟩ := ent_take_mem hb
  rcases Nat.lt_trichotomy p q with h1 | h1 | h1
  · exact absurd hab (h p q h1 hq)
  · rw [h1]
  · exact absurd hab.symm (h q p h1 hp)
theorem items_nil {H : HF} {t : Tr} (ht : TreeAt H t) (h : t.items.length = 0) : t = none := by
  cases t with
  | none => rfl
  | some x => have := (Nd.ok_len (NodeAt.ok ht.at_)).1; have h : (Nd.items x.1 x.2).length = 0 := h; omega
theorem take_ent {l : List Ent} {i : Nat} (h : i < l.length) : l.take (i + 1) = l.take i ++ [ent l i] := by
  rw [take_succ' h]; simp [ent, h]
theorem treeOrder_c (H : HF) (A : Option Addr) (c : Nat) (l : List Ent) (by_ : Int) (hb0 : 0 ≤ by_) (hb1 : by_ ≤ 18446744073709551615) (hl : EntsAt H A l) (hc : l.length ≤ c) (hb : l.length ≤ 100000000000000) :
    Fn Try.prog 10 [.slice A l.length c, .int .u64 by_] H fun v _ => v = .bool true := by
  refine Fn_of_CW Try.func10 rfl Try.ntmps10 Try.results10 rfl fun w hS => ?_; have hG := Grow.refl hS; have hS0 := hS
  (refine CW_seq ?_; refine CW_region rfl ?_; refine S_op ?_; refine W_assignBool (by first | rfl | assumption) ?_; refine S_nil ?_; refine CW_seq ?_; refine CW_seq ?_; refine CW_region rfl ?_)
  (refine S_op ?_; refine W_call hS (by rfl) (awake10_c H) ?_); rintro v H w hG' rfl; replace hG := hG.trans hG'; replace hS := hG'.sub; replace hl := hl.mono hG'.le; clear hG'
  by_cases h100 : 100 < l.length
  · (refine S_op ?_; refine W_not (by first | rfl | assumption) ?_; refine S_op ?_; refine W_moveBool (by first | rfl | assumption) ?_; refine S_want (by rfl) ?_; refine W_moveSl (by first | rfl | assumption) ?_; refine S_want (by rfl) ?_; refine W_len (by first | rfl | assumption) ?_; refine S_want (by rfl) ?_; refine W_gtrT (by first | rfl | assumption) (by first | rfl | assumption) (by first | omega | rfl) ?_; refine S_op ?_; refine W_pickF (by first | rfl | assumption) (by first | rfl | assumption) ?_; refine S_op ?_; refine W_moveBool (by first | rfl | assumption) ?_; refine S_pass (by rfl) ?_; refine S_pass (by rfl) ?_; refine S_pass (by rfl) ?_; refine S_op ?_; refine W_pickT (by first | rfl | assumption) (by first | rfl | assumption) ?_; refine S_nil ?_; refine CW_true (by first | rfl | assumption) ?_; refine CW_seq ?_; refine CW_region rfl ?_)
    (refine S_op ?_; refine W_call hS (by rfl) (awake10_c H) ?_); rintro v H w hG' rfl; replace hG := hG.trans hG'; replace hS := hG'.sub; clear hG'
    (refine S_op ?_; refine W_assignBool (by first | rfl | assumption) ?_; refine S_nil ?_; refine CW_ret ?_)
    exact ⟨_, ResW_one (v := .bool _) rfl, H, hG, rfl⟩
  by_cases h0 : l.length = 0
  · (refine S_op ?_; refine W_not (by first | rfl | assumption) ?_; refine S_op ?_; refine W_moveBool (by first | rfl | assumption) ?_; refine S_want (by rfl) ?_; refine W_moveSl (by first | rfl | assumption) ?_; refine S_want (by rfl) ?_; refine W_len (by first | rfl | assumption) ?_; refine S_want (by rfl) ?_; refine W_gtrF (by first | rfl | assumption) (by first | rfl | assumption) (by first | omega | rfl) ?_; refine S_op ?_; refine W_pickF (by first | rfl | assumption) (by first | rfl | assumption) ?_; refine S_op ?_; refine W_moveBool (by first | rfl | assumption) ?_; refine S_want (by rfl) ?_; refine W_moveSl (by first | rfl | assumption) ?_; refine S_want (by rfl) ?_; refine W_len (by first | rfl | assumption) ?_; refine S_want (by rfl) ?_; refine W_eqlT (by first | rfl | assumption) (by first | rfl | assumption) (by first | omega | rfl) ?_; refine S_op ?_; refine W_pickF (by first | rfl | assumption) (by first | rfl | assumption) ?_; refine S_nil ?_; refine CW_true (by first | rfl | assumption) ?_; refine CW_seq ?_; refine CW_region rfl ?_)
    (refine S_op ?_; refine W_call hS (by rfl) (awake10_c H) ?_); rintro v H w hG' rfl; replace hG := hG.trans hG'; replace hS := hG'.sub; clear hG'
    (refine S_op ?_; refine W_assignBool (by first | rfl | assumption) ?_; refine S_nil ?_; refine CW_ret ?_)
    exact ⟨_, ResW_one (v := .bool _) rfl, H, hG, rfl⟩
  obtain ⟨k, hk, hkl⟩ : ∃ k : Nat, by_.tmod (l.length : Int) = (k : Int) ∧ k < l.length := by
    have h1 := Int.tmod_nonneg (l.length : Int) hb0
    have h2 := Int.tmod_lt_of_pos by_ (show (0 : Int) < (l.length : Int) by omega)
    exact ⟨(by_.tmod (l.length : Int)).toNat, by omega, by omega⟩
  (refine S_op ?_; refine W_not (by first | rfl | assumption) ?_; refine S_op ?_; refine W_moveBool (by first | rfl | assumption) ?_; refine S_want (by rfl) ?_; refine W_moveSl (by first | rfl | assumption) ?_; refine S_want (by rfl) ?_; refine W_len (by first | rfl | assumption) ?_; refine S_want (by rfl) ?_; refine W_gtrF (by first | rfl | assumption) (by first | rfl | assumption) (by first | omega | rfl) ?_; refine S_op ?_; refine W_pickF (by first | rfl | assumption) (by first | rfl | assumption) ?_; refine S_op ?_; refine W_moveBool (by first | rfl | assumption) ?_; refine S_want (by rfl) ?_; refine W_moveSl (by first | rfl | assumption) ?_; refine S_want (by rfl) ?_; refine W_len (by first | rfl | assumption) ?_; refine S_want (by rfl) ?_; refine W_eqlF (by first | rfl | assumption) (by first | rfl | assumption) (by first | omega | rfl) ?_; refine S_op ?_; refine W_pickF (by first | rfl | assumption) (by first | rfl | assumption) ?_; refine S_nil ?_; refine CW_false (by first | rfl | assumption) ?_; refine CW_skip ?_; refine CW_seq ?_; refine CW_region rfl ?_; refine S_op ?_; refine W_moveInt (by first | rfl | assumption) ?_; refine S_op ?_; refine W_moveSl (by first | rfl | assumption) ?_; refine S_op ?_; refine W_len (by first | rfl | assumption) ?_)
  refine S_op (W_convInt (by rfl) (IntWalk.u64_in _ (by omega)) ?_)
  refine S_op (W_rem (by rfl) (by rfl) (by omega) hk ?_)
  refine S_op (W_convInt (by rfl) (IntWalk.i64_in _ (by omega)) ?_)
  (refine S_op ?_; refine W_assignInt (by first | rfl | assumption) ?_; refine S_nil ?_; refine CW_seq ?_; refine CW_region rfl ?_; refine S_op ?_; refine W_assignPtr (by first | rfl | assumption) ?_; refine S_op ?_; refine W_assignPtr (by first | rfl | assumption) ?_; refine S_nil ?_; refine CW_seq ?_; refine CW_seq ?_; refine CW_region rfl ?_; refine S_op ?_; refine W_moveSl (by first | rfl | assumption) ?_; refine S_op ?_; refine W_len (by first | rfl | assumption) ?_; refine S_op ?_; refine W_moveInt (by first | rfl | assumption) ?_; refine S_nil ?_; refine CW_block ?_)
  refine CW_loopM [4, 6, 8, 9, 35, 36, 37, 38, 39, 40, 41, 42, 43, 44, 45, 46, 47, 48, 49, 50, 51, 52, 53, 54, 55, 56, 57, 58, 59, 60, 61, 62, 63, 64, 65, 66, 67, 68, 69, 70, 71, 72, 73, 74, 75, 76, 77, 78, 79]
    (fun m u w2 => ∃ (i : Nat) (t : Tr) (H2 : HF), u 35 = .int .i64 (i : Int) ∧ u 6 = t.val ∧ Grow H w H2 w2 ∧ TreeAt H2 t ∧ t.items = putAll (l.take i) ∧ t.items.length = i ∧ i ≤ l.length ∧ l.length - i ≤ m ∧ (∀ p q, p < q → q < i → (ent l p).key ≠ (ent l q).key) ∧ ∀ q, q < i → putE (ent l q) = 0)
    (m := l.length) ⟨0, none, H, rfl, rfl, Grow.refl hS, TreeAt.nil, rfl, rfl, by omega, by omega, fun p q _ h => absurd h (by omega), fun q h => absurd h (by omega)⟩ ?_
  rintro m u w2 ⟨i, t, H2, h35, h6, hG2, ht, hit, htl, hi, hm, hun, hok⟩
  have hG0 := hG.trans hG2
  replace hS := hG2.sub
  replace hl := hl.mono hG2.le
  by_cases hlt : i < l.length
  · obtain ⟨bb, off, hA, hrow⟩ := hl.some hlt
    by_cases e1 : rKey (ent l i).key = 0
    · by_cases e2 : rValue (ent l i).val = 0
      · have hpe : putE (ent l i) = 0 := by simp [putE, e1, e2]
        (refine CW_seq ?_; refine CW_region rfl ?_; refine S_op ?_; refine W_lssT (by first | rfl | assumption) (by first | rfl | assumption) (by first | omega | rfl) ?_; refine S_nil ?_; refine CW_seq ?_; refine CW_true (by first | rfl | assumption) ?_; refine CW_skip ?_; refine CW_seq ?_; refine CW_block ?_; refine CW_seq ?_; refine CW_region rfl ?_; refine S_op ?_; refine W_moveInt (by first | rfl | assumption) ?_; refine S_op ?_; refine W_assignInt (by first | rfl | assumption) ?_; refine S_nil ?_; refine CW_seq ?_; refine CW_seq ?_; refine CW_region rfl ?_; refine S_op ?_; refine W_moveSl (by first | rfl | assumption) ?_; refine S_op ?_; refine W_moveInt (by first | rfl | assumption) ?_; refine S_op ?_; refine W_index (by first | rfl | assumption) (by first | rfl | assumption) (by first | assumption | omega | decide) (by first | rfl | assumption) ?_; refine S_op ?_; refine W_field (by first | rfl | assumption) ?_; refine S_op ?_; refine W_loadKey (by first | rfl | assumption) (by assumption) (by first | assumption | omega) (by assumption) ?_)
        refine S_op ?_
        refine W_call hS (by rfl) (rKey_c H2 (ent l i).key) ?_
        rintro v H3 w3 hG3 rfl
        replace hG2 := hG2.trans hG3
        replace hG0 := hG0.trans hG3
        replace hS := hG3.sub
        replace ht := ht.mono hG3.le
        replace hl := hl.mono hG3.le
        replace hrow := hrow.mono hG3.le
        (refine S_op ?_; refine W_neqF (by first | rfl | assumption) (by first | rfl | assumption) (by first | omega | rfl) ?_; refine S_op ?_; refine W_moveBool (by first | rfl | assumption) ?_; refine S_want (by rfl) ?_; refine W_moveSl (by first | rfl | assumption) ?_; refine S_want (by rfl) ?_; refine W_moveInt (by first | rfl | assumption) ?_; refine S_want (by rfl) ?_; refine W_index (by first | rfl | assumption) (by first | rfl | assumption) (by first | assumption | omega | decide) (by first | rfl | assumption) ?_; refine S_want (by rfl) ?_; refine W_field (by first | rfl | assumption) ?_; refine S_want (by rfl) ?_; refine W_loadVal (by first | rfl | assumption) (by assumption) (by first | assumption | omega) (by assumption) ?_)
        refine S_want (by rfl) ?_
        refine W_call hS (by rfl) (rValue_c H3 (ent l i).val) ?_
        rintro v H4 w4 hG4 rfl
        replace hG2 := hG2.trans hG4
        replace hG0 := hG0.trans hG4
        replace hS := hG4.sub
        replace ht := ht.mono hG4.le
        replace hl := hl.mono hG4.le
        replace hrow := hrow.mono hG4.le
        (refine S_want (by rfl) ?_; refine W_neqF (by first | rfl | assumption) (by first | rfl | assumption) (by first | omega | rfl) ?_; refine S_op ?_; refine W_pickF (by first | rfl | assumption) (by first | rfl | assumption) ?_; refine S_nil ?_; refine CW_false (by first | rfl | assumption) ?_; refine CW_skip ?_; refine CW_seq ?_; refine CW_seq ?_; refine CW_region rfl ?_; refine S_op ?_; refine W_assignInt (by first | rfl | assumption) ?_; refine S_nil ?_; refine CW_block ?_)
        refine CW_loopM [4, 9, 54, 55, 56, 57, 58, 59, 60, 61, 62, 63, 64, 65, 66, 67, 68, 69]
          (fun m u w5 => ∃ (q : Nat) (H5 : HF), u 9 = .int .i64 (q : Int) ∧ Grow H4 w4 H5 w5 ∧ q ≤ i ∧ i - q ≤ m ∧ ∀ p, p < q → (ent l p).key ≠ (ent l i).key)
          (m := i) ⟨0, H4, rfl, Grow.refl hS, by omega, by omega, fun p h => absurd h (by omega)⟩ ?_
        rintro m5 u5 w5 ⟨q, H5, h9, hG5, hq, hm5, hne⟩
        replace hS := hG5.sub
        replace ht := ht.mono hG5.le
        replace hl := hl.mono hG5.le
        replace hrow := hrow.mono hG5.le
        by_cases hqi : q < i
        · have hql : q < l.length := by omega
          by_cases hkk : (ent l q).key = (ent l i).key
          · (refine CW_seq ?_; refine CW_seq ?_; refine CW_region rfl ?_; refine S_op ?_; refine W_moveInt (by first | rfl | assumption) ?_; refine S_op ?_; refine W_moveInt (by first | rfl | assumption) ?_; refine S_op ?_; refine W_lssT (by first | rfl | assumption) (by first | rfl | assumption) (by first | omega | rfl) ?_; refine S_nil ?_; refine CW_true (by first | rfl | assumption) ?_; refine CW_skip ?_; refine CW_seq ?_; refine CW_block ?_; refine CW_seq ?_)
            apply CW_region_grow [_, _, _, _, _, _, _, _, _, _, _] [none, none, none, none, none, none, none, none, none, none, none] [some 59, some 60, some 61, some 62, some 63, some 64, some 65, some 66, some 67, some 68, some 69] [59, 60, 61, 62, 63, 64, 65, 66, 67, 68, 69] mixed rfl rfl rfl rfl (by decide) rfl (by assumption)
            · ((apply steps_cons; case h1 => (apply A_pure; intro c u H' w' hG; have hS' := hG.sub; have hS2' := hG.subOld; (repeat (first | refine depGo_eq rfl rfl rfl ?_ | (refine depGo_fact rfl rfl rfl ?_; intro v hv) | refine depGo_skip rfl ?_ | refine depGo_none rfl ?_)); apply Pure1.mk; intro K hk; exact W_moveSl (by first | rfl | assumption) hk)); (apply steps_cons; case h1 => (apply A_pure; intro c u H' w' hG; have hS' := hG.sub; have hS2' := hG.subOld; (repeat (first | refine depGo_eq rfl rfl rfl ?_ | (refine depGo_fact rfl rfl rfl ?_; intro v hv) | refine depGo_skip rfl ?_ | refine depGo_none rfl ?_)); apply Pure1.mk; intro K hk; exact W_moveInt (by first | rfl | assumption) hk)); (apply steps_cons; case h1 => (apply A_pure; intro c u H' w' hG; have hS' := hG.sub; have hS2' := hG.subOld; (repeat (first | refine depGo_eq rfl rfl rfl ?_ | (refine depGo_fact rfl rfl rfl ?_; intro v hv) | refine depGo_skip rfl ?_ | refine depGo_none rfl ?_)); apply Pure1.mk; intro K hk; exact W_index (by first | rfl | assumption) (by first | rfl | assumption) (by first | assumption | omega | decide) (by first | rfl | assumption) hk)); (apply steps_cons; case h1 => (apply A_pure; intro c u H' w' hG; have hS' := hG.sub; have hS2' := hG.subOld; (repeat (first | refine depGo_eq rfl rfl rfl ?_ | (refine depGo_fact rfl rfl rfl ?_; intro v hv) | refine depGo_skip rfl ?_ | refine depGo_none rfl ?_)); apply Pure1.mk; intro K hk; exact W_field (by first | rfl | assumption) hk)); (apply steps_cons; case h1 => (apply A_pure; intro c u H' w' hG; have hS' := hG.sub; have hS2' := hG.subOld; (repeat (first | refine depGo_eq rfl rfl rfl ?_ | (refine depGo_fact rfl rfl rfl ?_; intro v hv) | refine depGo_skip rfl ?_ | refine depGo_none rfl ?_)); apply Pure1.mk; intro K hk; exact W_loadKey (by first | rfl | assumption) (by assumption) (by first | assumption | omega) (by assumption) hk)); (apply steps_cons; case h1 => (apply A_pure; intro c u H' w' hG; have hS' := hG.sub; have hS2' := hG.subOld; (repeat (first | refine depGo_eq rfl rfl rfl ?_ | (refine depGo_fact rfl rfl rfl ?_; intro v hv) | refine depGo_skip rfl ?_ | refine depGo_none rfl ?_)); apply Pure1.mk; intro K hk; exact W_moveSl (by first | rfl | assumption) hk)); (apply steps_cons; case h1 => (apply A_pure; intro c u H' w' hG; have hS' := hG.sub; have hS2' := hG.subOld; (repeat (first | refine depGo_eq rfl rfl rfl ?_ | (refine depGo_fact rfl rfl rfl ?_; intro v hv) | refine depGo_skip rfl ?_ | refine depGo_none rfl ?_)); apply Pure1.mk; intro K hk; exact W_moveInt (by first | rfl | assumption) hk)); (apply steps_cons; case h1 => (apply A_pure; intro c u H' w' hG; have hS' := hG.sub; have hS2' := hG.subOld; (repeat (first | refine depGo_eq rfl rfl rfl ?_ | (refine depGo_fact rfl rfl rfl ?_; intro v hv) | refine depGo_skip rfl ?_ | refine depGo_none rfl ?_)); apply Pure1.mk; intro K hk; exact W_index (by first | rfl | assumption) (by first | rfl | assumption) (by first | assumption | omega | decide) (by first | rfl | assumption) hk)); (apply steps_cons; case h1 => (apply A_pure; intro c u H' w' hG; have hS' := hG.sub; have hS2' := hG.subOld; (repeat (first | refine depGo_eq rfl rfl rfl ?_ | (refine depGo_fact rfl rfl rfl ?_; intro v hv) | refine depGo_skip rfl ?_ | refine depGo_none rfl ?_)); apply Pure1.mk; intro K hk; exact W_field (by first | rfl | assumption) hk)); (apply steps_cons; case h1 => (apply A_pure; intro c u H' w' hG; have hS' := hG.sub; have hS2' := hG.subOld; (repeat (first | refine depGo_eq rfl rfl rfl ?_ | (refine depGo_fact rfl rfl rfl ?_; intro v hv) | refine depGo_skip rfl ?_ | refine depGo_none rfl ?_)); apply Pure1.mk; intro K hk; exact W_loadKey (by first | rfl | assumption) (by assumption) (by first | assumption | omega) (by assumption) hk)); (apply steps_cons; case h1 => (apply A_pure; intro c u H' w' hG; have hS' := hG.sub; have hS2' := hG.subOld; (repeat (first | refine depGo_eq rfl rfl rfl ?_ | (refine depGo_fact rfl rfl rfl ?_; intro v hv) | refine depGo_skip rfl ?_ | refine depGo_none rfl ?_)); apply Pure1.mk; intro K hk; exact W_seqlT (by first | rfl | assumption) (by first | rfl | assumption) (by first | assumption | rfl) hk)); exact trivial)
            · intro H6 w6 hG6
              (repeat (first | refine fin_eq rfl rfl ?_ | (refine fin_fact rfl ?_; intro v hv) | refine fin_none rfl ?_)); refine fin_nil ?_
              (refine CW_true (by first | rfl | assumption) ?_; refine CW_seq ?_; refine CW_region rfl ?_; refine S_op ?_; refine W_assignBool (by first | rfl | assumption) ?_; refine S_nil ?_; refine CW_ret ?_)
              exact ⟨_, ResW_one (v := .bool _) rfl, H6, (hG0.trans hG5).trans hG6, rfl⟩
          · (refine CW_seq ?_; refine CW_seq ?_; refine CW_region rfl ?_; refine S_op ?_; refine W_moveInt (by first | rfl | assumption) ?_; refine S_op ?_; refine W_moveInt (by first | rfl | assumption) ?_; refine S_op ?_; refine W_lssT (by first | rfl | assumption) (by first | rfl | assumption) (by first | omega | rfl) ?_; refine S_nil ?_; refine CW_true (by first | rfl | assumption) ?_; refine CW_skip ?_; refine CW_seq ?_; refine CW_block ?_; refine CW_seq ?_)
            apply CW_region_grow [_, _, _, _, _, _, _, _, _, _, _] [none, none, none, none, none, none, none, none, none, none, none] [some 59, some 60, some 61, some 62, some 63, some 64, some 65, some 66, some 67, some 68, some 69] [59, 60, 61, 62, 63, 64, 65, 66, 67, 68, 69] mixed rfl rfl rfl rfl (by decide) rfl (by assumption)
            · ((apply steps_cons; case h1 => (apply A_pure; intro c u H' w' hG; have hS' := hG.sub; have hS2' := hG.subOld; (repeat (first | refine depGo_eq rfl rfl rfl ?_ | (refine depGo_fact rfl rfl rfl ?_; intro v hv) | refine depGo_skip rfl ?_ | refine depGo_none rfl ?_)); apply Pure1.mk; intro K hk; exact W_moveSl (by first | rfl | assumption) hk)); (apply steps_cons; case h1 => (apply A_pure; intro c u H' w' hG; have hS' := hG.sub; have hS2' := hG.subOld; (repeat (first | refine depGo_eq rfl rfl rfl ?_ | (refine depGo_fact rfl rfl rfl ?_; intro v hv) | refine depGo_skip rfl ?_ | refine depGo_none rfl ?_)); apply Pure1.mk; intro K hk; exact W_moveInt (by first | rfl | assumption) hk)); (apply steps_cons; case h1 => (apply A_pure; intro c u H' w' hG; have hS' := hG.sub; have hS2' := hG.subOld; (repeat (first | refine depGo_eq rfl rfl rfl ?_ | (refine depGo_fact rfl rfl rfl ?_; intro v hv) | refine depGo_skip rfl ?_ | refine depGo_none rfl ?_)); apply Pure1.mk; intro K hk; exact W_index (by first | rfl | assumption) (by first | rfl | assumption) (by first | assumption | omega | decide) (by first | rfl | assumption) hk)); (apply steps_cons; case h1 => (apply A_pure; intro c u H' w' hG; have hS' := hG.sub; have hS2' := hG.subOld; (repeat (first | refine depGo_eq rfl rfl rfl ?_ | (refine depGo_fact rfl rfl rfl ?_; intro v hv) | refine depGo_skip rfl ?_ | refine depGo_none rfl ?_)); apply Pure1.mk; intro K hk; exact W_field (by first | rfl | assumption) hk)); (apply steps_cons; case h1 => (apply A_pure; intro c u H' w' hG; have hS' := hG.sub; have hS2' := hG.subOld; (repeat (first | refine depGo_eq rfl rfl rfl ?_ | (refine depGo_fact rfl rfl rfl ?_; intro v hv) | refine depGo_skip rfl ?_ | refine depGo_none rfl ?_)); apply Pure1.mk; intro K hk; exact W_loadKey (by first | rfl | assumption) (by assumption) (by first | assumption | omega) (by assumption) hk)); (apply steps_cons; case h1 => (apply A_pure; intro c u H' w' hG; have hS' := hG.sub; have hS2' := hG.subOld; (repeat (first | refine depGo_eq rfl rfl rfl ?_ | (refine depGo_fact rfl rfl rfl ?_; intro v hv) | refine depGo_skip rfl ?_ | refine depGo_none rfl ?_)); apply Pure1.mk; intro K hk; exact W_moveSl (by first | rfl | assumption) hk)); (apply steps_cons; case h1 => (apply A_pure; intro c u H' w' hG; have hS' := hG.sub; have hS2' := hG.subOld; (repeat (first | refine depGo_eq rfl rfl rfl ?_ | (refine depGo_fact rfl rfl rfl ?_; intro v hv) | refine depGo_skip rfl ?_ | refine depGo_none rfl ?_)); apply Pure1.mk; intro K hk; exact W_moveInt (by first | rfl | assumption) hk)); (apply steps_cons; case h1 => (apply A_pure; intro c u H' w' hG; have hS' := hG.sub; have hS2' := hG.subOld; (repeat (first | refine depGo_eq rfl rfl rfl ?_ | (refine depGo_fact rfl rfl rfl ?_; intro v hv) | refine depGo_skip rfl ?_ | refine depGo_none rfl ?_)); apply Pure1.mk; intro K hk; exact W_index (by first | rfl | assumption) (by first | rfl | assumption) (by first | assumption | omega | decide) (by first | rfl | assumption) hk)); (apply steps_cons; case h1 => (apply A_pure; intro c u H' w' hG; have hS' := hG.sub; have hS2' := hG.subOld; (repeat (first | refine depGo_eq rfl rfl rfl ?_ | (refine depGo_fact rfl rfl rfl ?_; intro v hv) | refine depGo_skip rfl ?_ | refine depGo_none rfl ?_)); apply Pure1.mk; intro K hk; exact W_field (by first | rfl | assumption) hk)); (apply steps_cons; case h1 => (apply A_pure; intro c u H' w' hG; have hS' := hG.sub; have hS2' := hG.subOld; (repeat (first | refine depGo_eq rfl rfl rfl ?_ | (refine depGo_fact rfl rfl rfl ?_; intro v hv) | refine depGo_skip rfl ?_ | refine depGo_none rfl ?_)); apply Pure1.mk; intro K hk; exact W_loadKey (by first | rfl | assumption) (by assumption) (by first | assumption | omega) (by assumption) hk)); (apply steps_cons; case h1 => (apply A_pure; intro c u H' w' hG; have hS' := hG.sub; have hS2' := hG.subOld; (repeat (first | refine depGo_eq rfl rfl rfl ?_ | (refine depGo_fact rfl rfl rfl ?_; intro v hv) | refine depGo_skip rfl ?_ | refine depGo_none rfl ?_)); apply Pure1.mk; intro K hk; exact W_seqlF (by first | rfl | assumption) (by first | rfl | assumption) (by assumption) hk)); exact trivial)
            · intro H6 w6 hG6
              (repeat (first | refine fin_eq rfl rfl ?_ | (refine fin_fact rfl ?_; intro v hv) | refine fin_none rfl ?_)); refine fin_nil ?_
              (refine CW_false (by first | rfl | assumption) ?_; refine CW_skip ?_; refine CW_region rfl ?_; refine S_op ?_; refine W_moveInt (by first | rfl | assumption) ?_; refine S_op ?_; refine W_add1 (by first | rfl | assumption) (by omega) ?_; refine S_op ?_; refine W_assignInt (by first | rfl | assumption) ?_; refine S_nil ?_)
              exact ⟨(by repeat (first | exact AgreeOff.over | refine AgreeOff.upd rfl ?_ | refine AgreeOff.over2 rfl ?_)), m5 - 1, by omega, q + 1, H6, rfl, hG5.trans hG6, by omega, by omega, fun p hp => by
                rcases Nat.lt_or_ge p q with h | h
                · exact hne p h
                · rw [show p = q by omega]; exact hkk⟩
        · have hqe : q = i := by omega
          subst hqe
          have hdet := unlike_det (n := q) (by omega) hun
          (refine CW_seq ?_; refine CW_seq ?_; refine CW_region rfl ?_; refine S_op ?_; refine W_moveInt (by first | rfl | assumption) ?_; refine S_op ?_; refine W_moveInt (by first | rfl | assumption) ?_; refine S_op ?_; refine W_lssF (by first | rfl | assumption) (by first | rfl | assumption) (by first | omega | rfl) ?_; refine S_nil ?_; refine CW_false (by first | rfl | assumption) ?_; refine CW_exit ?_; refine CW_region rfl ?_; refine S_op ?_; refine W_movePtr (by first | rfl | assumption) ?_; refine S_op ?_; refine W_moveSl (by first | rfl | assumption) ?_; refine S_op ?_; refine W_moveInt (by first | rfl | assumption) ?_; refine S_op ?_; refine W_index (by first | rfl | assumption) (by first | rfl | assumption) (by first | assumption | omega | decide) (by first | rfl | assumption) ?_; refine S_op ?_; refine W_loadEnt (by first | rfl | assumption) (by assumption) (by first | assumption | omega) (by assumption) ?_)
          refine S_op ?_
          refine W_call hS (by rfl) (tPut_c (ent l q) ht (by omega)) ?_
          rintro v H6 w6 hG6 ⟨t', rfl, _, hp⟩
          obtain ⟨ht', hp'⟩ := hp hpe
          have hit' : t'.items = putAll (l.take (q + 1)) := by rw [hp'.items, hit, take_ent hlt, putAll_snoc]
          have htl' : t'.items.length = q + 1 := by
            rw [hp'.items, hit, putAll_len hdet (fun x hx => by
              obtain ⟨p, hp, _, rfl⟩ := ent_take_mem hx
              exact hne p hp), ← hit, htl]
          (refine S_op ?_; refine W_moveTup (by first | rfl | assumption) ?_; refine S_op ?_; refine W_extract (by first | rfl | assumption) (by rfl) ?_; refine S_op ?_; refine W_extract (by first | rfl | assumption) (by rfl) ?_; refine S_op ?_; refine W_assignPtr (by first | rfl | assumption) ?_; refine S_nil ?_; refine CW_region rfl ?_; refine S_op ?_; refine W_add1 (by first | rfl | assumption) (by omega) ?_; refine S_op ?_; refine W_moveInt (by first | rfl | assumption) ?_; refine S_nil ?_)
          exact ⟨(by repeat (first | exact AgreeOff.over | refine AgreeOff.upd rfl ?_ | refine AgreeOff.over2 rfl ?_)), m - 1, by omega, q + 1, t', H6, rfl, rfl, (hG2.trans hG5).trans hG6, ht', hit', htl', by omega, by omega, fun p r hpr hr => by
            rcases Nat.lt_or_ge r q with h | h
            · exact hun p r hpr h
            · rw [show r = q by omega]; exact hne p (by omega), fun r hr => by
            rcases Nat.lt_or_ge r q with h | h
            · exact hok r h
            · rw [show r = q by omega]; exact hpe⟩
      · (refine CW_seq ?_; refine CW_region rfl ?_; refine S_op ?_; refine W_lssT (by first | rfl | assumption) (by first | rfl | assumption) (by first | omega | rfl) ?_; refine S_nil ?_; refine CW_seq ?_; refine CW_true (by first | rfl | assumption) ?_; refine CW_skip ?_; refine CW_seq ?_; refine CW_block ?_; refine CW_seq ?_; refine CW_region rfl ?_; refine S_op ?_; refine W_moveInt (by first | rfl | assumption) ?_; refine S_op ?_; refine W_assignInt (by first | rfl | assumption) ?_; refine S_nil ?_; refine CW_seq ?_; refine CW_seq ?_; refine CW_region rfl ?_; refine S_op ?_; refine W_moveSl (by first | rfl | assumption) ?_; refine S_op ?_; refine W_moveInt (by first | rfl | assumption) ?_; refine S_op ?_; refine W_index (by first | rfl | assumption) (by first | rfl | assumption) (by first | assumption | omega | decide) (by first | rfl | assumption) ?_; refine S_op ?_; refine W_field (by first | rfl | assumption) ?_; refine S_op ?_; refine W_loadKey (by first | rfl | assumption) (by assumption) (by first | assumption | omega) (by assumption) ?_)
        refine S_op ?_
        refine W_call hS (by rfl) (rKey_c H2 (ent l i).key) ?_
        rintro v H3 w3 hG3 rfl
        replace hS := hG3.sub
        replace hl := hl.mono hG3.le
        replace hrow := hrow.mono hG3.le
        (refine S_op ?_; refine W_neqF (by first | rfl | assumption) (by first | rfl | assumption) (by first | omega | rfl) ?_; refine S_op ?_; refine W_moveBool (by first | rfl | assumption) ?_; refine S_want (by rfl) ?_; refine W_moveSl (by first | rfl | assumption) ?_; refine S_want (by rfl) ?_; refine W_moveInt (by first | rfl | assumption) ?_; refine S_want (by rfl) ?_; refine W_index (by first | rfl | assumption) (by first | rfl | assumption) (by first | assumption | omega | decide) (by first | rfl | assumption) ?_; refine S_want (by rfl) ?_; refine W_field (by first | rfl | assumption) ?_; refine S_want (by rfl) ?_; refine W_loadVal (by first | rfl | assumption) (by assumption) (by first | assumption | omega) (by assumption) ?_)
        refine S_want (by rfl) ?_
        refine W_call hS (by rfl) (rValue_c H3 (ent l i).val) ?_
        rintro v H4 w4 hG4 rfl
        (refine S_want (by rfl) ?_; refine W_neqT (by first | rfl | assumption) (by first | rfl | assumption) (by first | omega | rfl) ?_; refine S_op ?_; refine W_pickF (by first | rfl | assumption) (by first | rfl | assumption) ?_; refine S_nil ?_; refine CW_true (by first | rfl | assumption) ?_; refine CW_seq ?_; refine CW_region rfl ?_; refine S_op ?_; refine W_assignBool (by first | rfl | assumption) ?_; refine S_nil ?_; refine CW_ret ?_)
        exact ⟨_, ResW_one (v := .bool _) rfl, H4, (hG0.trans hG3).trans hG4, rfl⟩
    · (refine CW_seq ?_; refine CW_region rfl ?_; refine S_op ?_; refine W_lssT (by first | rfl | assumption) (by first | rfl | assumption) (by first | omega | rfl) ?_; refine S_nil ?_; refine CW_seq ?_; refine CW_true (by first | rfl | assumption) ?_; refine CW_skip ?_; refine CW_seq ?_; refine CW_block ?_; refine CW_seq ?_; refine CW_region rfl ?_; refine S_op ?_; refine W_moveInt (by first | rfl | assumption) ?_; refine S_op ?_; refine W_assignInt (by first | rfl | assumption) ?_; refine S_nil ?_; refine CW_seq ?_; refine CW_seq ?_; refine CW_region rfl ?_; refine S_op ?_; refine W_moveSl (by first | rfl | assumption) ?_; refine S_op ?_; refine W_moveInt (by first | rfl | assumption) ?_; refine S_op ?_; refine W_index (by first | rfl | assumption) (by first | rfl | assumption) (by first | assumption | omega | decide) (by first | rfl | assumption) ?_; refine S_op ?_; refine W_field (by first | rfl | assumption) ?_; refine S_op ?_; refine W_loadKey (by first | rfl | assumption) (by assumption) (by first | assumption | omega) (by assumption) ?_)
      refine S_op ?_
      refine W_call hS (by rfl) (rKey_c H2 (ent l i).key) ?_
      rintro v H3 w3 hG3 rfl
      (refine S_op ?_; refine W_neqT (by first | rfl | assumption) (by first | rfl | assumption) (by first | omega | rfl) ?_; refine S_op ?_; refine W_moveBool (by first | rfl | assumption) ?_; refine S_pass (by rfl) ?_; refine S_pass (by rfl) ?_; refine S_pass (by rfl) ?_; refine S_pass (by rfl) ?_; refine S_pass (by rfl) ?_; refine S_pass (by rfl) ?_; refine S_pass (by rfl) ?_; refine S_op ?_; refine W_pickT (by first | rfl | assumption) (by first | rfl | assumption) ?_; refine S_nil ?_; refine CW_true (by first | rfl | assumption) ?_; refine CW_seq ?_; refine CW_region rfl ?_; refine S_op ?_; refine W_assignBool (by first | rfl | assumption) ?_; refine S_nil ?_; refine CW_ret ?_)
      exact ⟨_, ResW_one (v := .bool _) rfl, H3, hG0.trans hG3, rfl⟩
  · have hin : i = l.length := by omega
    subst hin
    rw [List.take_length] at hit
    have hdet : KeyDet l := by have := unlike_det (n := l.length) (Nat.le_refl _) hun; rwa [List.take_length] at this
    have hG1 := hG0
    (refine CW_seq ?_; refine CW_region rfl ?_; refine S_op ?_; refine W_lssF (by first | rfl | assumption) (by first | rfl | assumption) (by first | omega | rfl) ?_; refine S_nil ?_; refine CW_seq ?_; refine CW_false (by first | rfl | assumption) ?_; refine CW_exit ?_; refine CW_seq ?_; refine CW_seq ?_; refine CW_region rfl ?_; refine S_op ?_; refine W_moveSl (by first | rfl | assumption) ?_; refine S_op ?_; refine W_len (by first | rfl | assumption) ?_; refine S_op ?_; refine W_sub1 (by first | rfl | assumption) (by omega) (by omega) ?_; refine S_op ?_; refine W_assignInt (by first | rfl | assumption) ?_; refine S_nil ?_; refine CW_block ?_)
    refine CW_loopM [7, 10, 83, 84, 85, 86, 87, 88, 89, 90, 91, 92, 93, 94, 95, 96, 97, 98, 99, 100]
      (fun m u w3 => ∃ (j : Nat) (z : Int) (s : Tr) (done : List Ent) (H3 : HF), u 10 = .int .i64 z ∧ z = (j : Int) - 1 ∧ u 7 = s.val ∧ Grow H2 w2 H3 w3 ∧ TreeAt H3 s ∧ s.items = putAll done ∧ s.items.length ≤ l.length - j ∧ j ≤ l.length ∧ j ≤ m ∧ (∀ e ∈ done, e ∈ l) ∧ ∀ p, j ≤ p → p < l.length → ent l ((p + k) % l.length) ∈ done)
      (m := l.length) ⟨l.length, _, none, [], H2, rfl, by omega, rfl, Grow.refl hS, TreeAt.nil, rfl, by simp [Tr.items], Nat.le_refl _, Nat.le_refl _, (by intro e he; cases he), fun p h1 h2 => absurd h1 (by omega)⟩ ?_
    rintro m3 u3 w3 ⟨j, z, s, done, H3, h10, hz, h7, hG3, hs, hsi, hsl, hj, hm3, hd1, hd2⟩
    replace hG1 := hG0.trans hG3
    replace hS := hG3.sub
    replace hl := hl.mono hG3.le
    replace ht := ht.mono hG3.le
    by_cases hj0 : 0 < j
    · obtain ⟨p, rfl⟩ : ∃ p, j = p + 1 := ⟨j - 1, by omega⟩
      have hzp : z = (p : Int) := by omega
      subst hzp
      have hq : (p + k) % l.length < l.length := Nat.mod_lt _ (by omega)
      obtain ⟨bb, off, hA, hrow⟩ := hl.some hq
      (refine CW_seq ?_; refine CW_seq ?_; refine CW_region rfl ?_; refine S_op ?_; refine W_moveInt (by first | rfl | assumption) ?_; refine S_op ?_; refine W_geqT (by first | rfl | assumption) (by first | rfl | assumption) (by first | omega | rfl) ?_; refine S_nil ?_; refine CW_true (by first | rfl | assumption) ?_; refine CW_skip ?_; refine CW_seq ?_; refine CW_block ?_; refine CW_region rfl ?_; refine S_op ?_; refine W_movePtr (by first | rfl | assumption) ?_; refine S_op ?_; refine W_moveSl (by first | rfl | assumption) ?_; refine S_op ?_; refine W_moveInt (by first | rfl | assumption) ?_; refine S_op ?_; refine W_moveInt (by first | rfl | assumption) ?_; refine S_op ?_; refine W_addN (by first | rfl | assumption) (by first | rfl | assumption) (by omega) ?_; refine S_op ?_; refine W_moveSl (by first | rfl | assumption) ?_; refine S_op ?_; refine W_len (by first | rfl | assumption) ?_)
      refine S_op (W_rem (q := (((p + k) % l.length : Nat) : Int)) (by rfl) (by rfl) (by omega) (IntWalk.up_tmod rfl rfl) ?_)
      (refine S_op ?_; refine W_index (by first | rfl | assumption) (by first | rfl | assumption) (by first | assumption | omega | decide) (by first | rfl | assumption) ?_; refine S_op ?_; refine W_loadEnt (by first | rfl | assumption) (by assumption) (by first | assumption | omega) (by assumption) ?_)
      refine S_op ?_
      refine W_call hS (by rfl) (tPut_c (ent l ((p + k) % l.length)) hs (by omega)) ?_
      rintro v H6 w6 hG6 ⟨s', rfl, _, hp⟩
      obtain ⟨hs', hp'⟩ := hp (hok _ hq)
      have hsi' : s'.items = putAll (done ++ [ent l ((p + k) % l.length)]) := by rw [hp'.items, hsi, putAll_snoc]
      have hwl := withL_length_le s.items (ent l ((p + k) % l.length))
      (refine S_op ?_; refine W_moveTup (by first | rfl | assumption) ?_; refine S_op ?_; refine W_extract (by first | rfl | assumption) (by rfl) ?_; refine S_op ?_; refine W_extract (by first | rfl | assumption) (by rfl) ?_; refine S_op ?_; refine W_assignPtr (by first | rfl | assumption) ?_; refine S_nil ?_; refine CW_region rfl ?_; refine S_op ?_; refine W_moveInt (by first | rfl | assumption) ?_)
      refine S_op (W_sub (q := (p : Int) - 1) (by rfl) (by rfl) (IntWalk.i64_in _ (by omega)) ?_)
      (refine S_op ?_; refine W_assignInt (by first | rfl | assumption) ?_; refine S_nil ?_)
      exact ⟨(by repeat (first | exact AgreeOff.over | refine AgreeOff.upd rfl ?_ | refine AgreeOff.over2 rfl ?_)), m3 - 1, by omega, p, _, s', _, H6, rfl, rfl, rfl, hG3.trans hG6, hs', hsi', by rw [hp'.items]; omega, by omega, by omega, fun e he => by
        rcases List.mem_append.1 he with h | h
        · exact hd1 e h
        · rw [List.mem_singleton] at h; rw [h]; exact ent_mem' hq, fun r h1 h2 => by
        rcases Nat.lt_or_ge p r with h | h
        · exact List.mem_append_left _ (hd2 r (by omega) h2)
        · rw [show r = p by omega]; exact List.mem_append_right _ (by simp)⟩
    · have hje : j = 0 := by omega
      subst hje
      have hall : ∀ e ∈ l, e ∈ done := by
        intro e he
        obtain ⟨q, hq, rfl⟩ := List.mem_iff_getElem.1 he
        have e1 : l[q] = ent l q := by simp [ent, hq]
        rw [e1]
        by_cases hkq : k ≤ q
        · have := hd2 (q - k) (by omega) (by omega)
          rw [show q - k + k = q by omega, Nat.mod_eq_of_lt hq] at this
          exact this
        · have := hd2 (q + l.length - k) (by omega) (by omega)
          rw [show q + l.length - k + k = q + l.length by omega, Nat.add_mod_right, Nat.mod_eq_of_lt hq] at this
          exact this
      have hst : s.items = t.items := by rw [hsi, hit]; exact (putAll_perm hdet hd1 hall).symm
      have hsl2 : s.items.length = l.length := by rw [hst, htl]
      replace hG := hG1
      (refine CW_seq ?_; refine CW_seq ?_; refine CW_region rfl ?_; refine S_op ?_; refine W_moveInt (by first | rfl | assumption) ?_; refine S_op ?_; refine W_geqF (by first | rfl | assumption) (by first | rfl | assumption) (by first | omega | rfl) ?_; refine S_nil ?_; refine CW_false (by first | rfl | assumption) ?_; refine CW_exit ?_; refine CW_seq ?_; refine CW_seq ?_; refine CW_region rfl ?_; refine S_op ?_; refine W_movePtr (by first | rfl | assumption) ?_)
      (refine S_op ?_; refine W_call hS (by rfl) (items_t ht.at_ (by omega)) ?_); rintro v H w hG' ⟨A5, c5, rfl, hc5, hl5⟩; replace hG := hG.trans hG'; replace hS := hG'.sub; replace hl := hl.mono hG'.le; replace ht := ht.mono hG'.le; replace hs := hs.mono hG'.le; clear hG'
      (refine S_op ?_; refine W_movePtr (by first | rfl | assumption) ?_)
      (refine S_op ?_; refine W_call hS (by rfl) (items_t hs.at_ (by omega)) ?_); rintro v H w hG' ⟨A6, c6, rfl, hc6, hl6⟩; replace hG := hG.trans hG'; replace hS := hG'.sub; replace hl := hl.mono hG'.le; replace ht := ht.mono hG'.le; replace hs := hs.mono hG'.le; replace hl5 := hl5.mono hG'.le; clear hG'
      skip
      (refine S_op ?_; refine W_call hS (by rfl) (same_c H A5 A6 c5 c6 _ _ hl5 hl6 (by omega)) ?_); rintro v H w hG' rfl; replace hG := hG.trans hG'; replace hS := hG'.sub; replace hl := hl.mono hG'.le; replace ht := ht.mono hG'.le; replace hs := hs.mono hG'.le; clear hG'
      rw [hst, decide_eq_true rfl]
      (refine S_op ?_; refine W_not (by first | rfl | assumption) ?_; refine S_op ?_; refine W_moveBool (by first | rfl | assumption) ?_; refine S_want (by rfl) ?_; refine W_movePtr (by first | rfl | assumption) ?_)
      (refine S_want (by rfl) ?_; refine W_call hS (by rfl) (items_t ht.at_ (by omega)) ?_); rintro v H w hG' ⟨A7, c7, rfl, hc7, hl7⟩; replace hG := hG.trans hG'; replace hS := hG'.sub; replace hl := hl.mono hG'.le; replace ht := ht.mono hG'.le; replace hs := hs.mono hG'.le; clear hG'
      rw [htl]
      (refine S_want (by rfl) ?_; refine W_len (by first | rfl | assumption) ?_; refine S_want (by rfl) ?_; refine W_moveSl (by first | rfl | assumption) ?_; refine S_want (by rfl) ?_; refine W_len (by first | rfl | assumption) ?_; refine S_want (by rfl) ?_; refine W_neqF (by first | rfl | assumption) (by first | rfl | assumption) (by first | omega | rfl) ?_; refine S_op ?_; refine W_pickF (by first | rfl | assumption) (by first | rfl | assumption) ?_; refine S_nil ?_; refine CW_false (by first | rfl | assumption) ?_; refine CW_skip ?_; refine CW_seq ?_; refine CW_seq ?_; refine CW_region rfl ?_; refine S_op ?_; refine W_moveSl (by first | rfl | assumption) ?_; refine S_op ?_; refine W_len (by first | rfl | assumption) ?_; refine S_op ?_; refine W_moveInt (by first | rfl | assumption) ?_; refine S_nil ?_; refine CW_block ?_)
      have hG9 := hG
      refine CW_loopM [4, 6, 11, 12, 13, 117, 118, 119, 120, 121, 122, 123, 124, 125, 126, 127, 128, 129, 130, 131, 132, 133]
        (fun m u w4 => ∃ (i : Nat) (r : Tr) (H4 : HF), u 117 = .int .i64 (i : Int) ∧ u 6 = r.val ∧ Grow H w H4 w4 ∧ TreeAt H4 r ∧ r.items.length = l.length - i ∧ i ≤ l.length ∧ l.length - i ≤ m ∧ ∀ q, i ≤ q → q < l.length → lookB r.items (ent l q).key = true)
        (m := l.length) ⟨0, t, H, rfl, h6, Grow.refl hS, ht, by omega, by omega, by omega, fun q _ hq => by rw [hit, lookB, putAll_yes hdet (ent_mem' hq)]; rfl⟩ ?_
      rintro m4 u4 w4 ⟨i, r, H4, h117, h6', hG4, hr, hrl, hi4, hm4, hrq⟩
      replace hG := hG9.trans hG4
      replace hS := hG4.sub
      replace hl := hl.mono hG4.le
      replace hs := hs.mono hG4.le
      by_cases hil : i < l.length
      · obtain ⟨bb, off, hA, hrow⟩ := hl.some hil
        have hlb := hrq i (Nat.le_refl _) hil
        (refine CW_seq ?_; refine CW_region rfl ?_; refine S_op ?_; refine W_lssT (by first | rfl | assumption) (by first | rfl | assumption) (by first | omega | rfl) ?_; refine S_nil ?_; refine CW_seq ?_; refine CW_true (by first | rfl | assumption) ?_; refine CW_skip ?_; refine CW_seq ?_; refine CW_block ?_; refine CW_seq ?_; refine CW_region rfl ?_; refine S_op ?_; refine W_moveInt (by first | rfl | assumption) ?_; refine S_op ?_; refine W_assignInt (by first | rfl | assumption) ?_; refine S_nil ?_; refine CW_seq ?_; refine CW_region rfl ?_; refine S_op ?_; refine W_movePtr (by first | rfl | assumption) ?_; refine S_op ?_; refine W_moveSl (by first | rfl | assumption) ?_; refine S_op ?_; refine W_moveInt (by first | rfl | assumption) ?_; refine S_op ?_; refine W_index (by first | rfl | assumption) (by first | rfl | assumption) (by first | assumption | omega | decide) (by first | rfl | assumption) ?_; refine S_op ?_; refine W_field (by first | rfl | assumption) ?_; refine S_op ?_; refine W_loadKey (by first | rfl | assumption) (by assumption) (by first | assumption | omega) (by assumption) ?_)
        refine S_op ?_
        refine W_call hS (by rfl) (tDel_c (ent l i).key hr (by omega)) ?_
        rintro v H6 w6 hG6 ⟨r', rfl, hr', hdr, _⟩
        have hlen' := look_withoutL_len hr.rise hlb
        rw [hlb]
        (refine S_op ?_; refine W_moveTup (by first | rfl | assumption) ?_; refine S_op ?_; refine W_extract (by first | rfl | assumption) (by rfl) ?_; refine S_op ?_; refine W_extract (by first | rfl | assumption) (by rfl) ?_; refine S_op ?_; refine W_assignPtr (by first | rfl | assumption) ?_; refine S_op ?_; refine W_assignBool (by first | rfl | assumption) ?_; refine S_nil ?_; refine CW_seq ?_; refine CW_seq ?_; refine CW_region rfl ?_; refine S_op ?_; refine W_moveBool (by first | rfl | assumption) ?_; refine S_op ?_; refine W_not (by first | rfl | assumption) ?_; refine S_nil ?_; refine CW_false (by first | rfl | assumption) ?_; refine CW_skip ?_; refine CW_region rfl ?_; refine S_op ?_; refine W_movePtr (by first | rfl | assumption) ?_; refine S_op ?_; refine W_assignPtr (by first | rfl | assumption) ?_; refine S_nil ?_; refine CW_region rfl ?_; refine S_op ?_; refine W_add1 (by first | rfl | assumption) (by omega) ?_; refine S_op ?_; refine W_moveInt (by first | rfl | assumption) ?_; refine S_nil ?_)
        exact ⟨(by repeat (first | exact AgreeOff.over | refine AgreeOff.upd rfl ?_ | refine AgreeOff.over2 rfl ?_)), m4 - 1, by omega, i + 1, r', H6, rfl, rfl, hG4.trans hG6, hr', by rw [hdr.items]; omega, by omega, by omega, fun q h1 h2 => by
          rw [hdr.items, lookB, look_withoutL hr.rise, if_neg (hun i q (by omega) h2)]
          exact hrq q (by omega) h2⟩
      · obtain rfl := items_nil hr (by omega)
        (refine CW_seq ?_; refine CW_region rfl ?_; refine S_op ?_; refine W_lssF (by first | rfl | assumption) (by first | rfl | assumption) (by first | omega | rfl) ?_; refine S_nil ?_; refine CW_seq ?_; refine CW_false (by first | rfl | assumption) ?_; refine CW_exit ?_; refine CW_seq ?_; refine CW_region rfl ?_; refine S_op ?_; refine W_movePtr (by first | rfl | assumption) ?_; refine S_op ?_; refine W_peqT (by first | rfl | assumption) (by first | rfl | assumption) (by first | rfl | assumption) ?_; refine S_op ?_; refine W_moveBool (by first | rfl | assumption) ?_; refine S_want (by rfl) ?_; refine W_movePtr (by first | rfl | assumption) ?_)
        (refine S_want (by rfl) ?_; refine W_call hS (by rfl) (items_t hs.at_ (by omega)) ?_); rintro v H w hG' ⟨A8, c8, rfl, hc8, hl8⟩; replace hG := hG.trans hG'; replace hS := hG'.sub; clear hG'
        rw [hsl2]
        (refine S_want (by rfl) ?_; refine W_len (by first | rfl | assumption) ?_; refine S_want (by rfl) ?_; refine W_moveSl (by first | rfl | assumption) ?_; refine S_want (by rfl) ?_; refine W_len (by first | rfl | assumption) ?_; refine S_want (by rfl) ?_; refine W_eqlT (by first | rfl | assumption) (by first | rfl | assumption) (by first | omega | rfl) ?_; refine S_op ?_; refine W_pickT (by first | rfl | assumption) (by first | rfl | assumption) ?_; refine S_op ?_; refine W_assignBool (by first | rfl | assumption) ?_; refine S_nil ?_; refine CW_ret ?_)
        exact ⟨_, ResW_one (v := .bool _) rfl, H, hG, rfl⟩
end Go.Proofs.Ytlkbdgfipdeloaa
