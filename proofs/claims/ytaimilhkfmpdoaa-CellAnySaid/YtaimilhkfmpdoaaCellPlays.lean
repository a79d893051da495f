/- CellPlays: it answers true. Conditions: sizes. -/
import Derived.Test.YtaimilhkfmpdoaaCellAny0
namespace Go.Proofs.Ytaimilhkfmpdoaa
open Go.Proofs Go.RowKit
set_option linter.unusedVariables false
attribute [local irreducible] CW SeqW OpW
set_option maxHeartbeats 4000000
theorem Grow.base {H0 H : HF} {w0 w : World} {b : Nat} (hG : Grow H0 w0 H w) (e : w.heap.size = b) : w0.heap.size ≤ b := by have := hG.below.size; omega
theorem grown_own {H0 H : HF} {w0 w w' : World} {b : Nat} {cs : List Value} (hG : Grow H0 w0 H w) (hg : w.grownBy w' (some b)) (hm : Mut H w b cs) (hb : w0.heap.size ≤ b) : Grow H0 w0 H w' :=
  hG.grownBy hg fun g h => by cases h; exact ⟨hm.out, hb⟩
/-- Where two memories lie. -/
structure Apart (B b g b2 g2 : Nat) : Prop where
  hb : B ≤ b
  hg : B ≤ g
  hb2 : B ≤ b2
  hg2 : B ≤ g2
  n1 : b ≠ b2
  n2 : b ≠ g2
  n3 : g ≠ b2
  n4 : g ≠ g2
section
variable {B b g b2 g2 s c s2 c2 : Nat} {H : HF} {w w' : World} {ws ws2 : List Value}
theorem Apart.second (h : Apart B b g b2 g2) (hm : IsMem H w b2 (some ⟨g2, 0, none⟩) ws s c) (hT : Turn (memS b (some ⟨g, 0, none⟩)) H w H w') : IsMem H w' b2 (some ⟨g2, 0, none⟩) ws s c :=
  hm.apart hT h.n1.symm (by intro a ha; cases ha; exact h.n3.symm) (by intro a ha; cases ha; exact h.n2.symm) (by intro a a2 ha ha2; cases ha; cases ha2; exact h.n4.symm)
theorem Apart.first (h : Apart B b g b2 g2) (hm : IsMem H w b (some ⟨g, 0, none⟩) ws s c) (hT : Turn (memS b2 (some ⟨g2, 0, none⟩)) H w H w') : IsMem H w' b (some ⟨g, 0, none⟩) ws s c :=
  hm.apart hT h.n1 (by intro a ha; cases ha; exact h.n2) (by intro a ha; cases ha; exact h.n3) (by intro a a2 ha ha2; cases ha; cases ha2; exact h.n4)
end
theorem memS_not {b g k : Nat} (h1 : k ≠ b) (h2 : k ≠ g) : ¬ memS b (some ⟨g, 0, none⟩) k := by
  rintro (h | ⟨a, ha, h⟩)
  · exact h1 h
  · cases ha; exact h2 h
theorem own_base {g B : Nat} (h : B ≤ g) : ∀ a, (some ⟨g, 0, none⟩ : Option Addr) = some a → B ≤ a.block := by intro a ha; cases ha; exact h
theorem cellPlays_c (H0 : HF) (A : Option Addr) (cc : Nat) (l : List Op8) (words : Int) (hl : SlAt H0 A (ops8 l)) (hb : l.length ≤ 100000000000000) :
    Fn Try.prog 3 [.int .i64 words, .slice A l.length cc] H0 fun v _ => v = .bool true := by
  refine Fn_of_CW Try.func3 rfl Try.ntmps3 Try.results3 rfl fun w0 hS => ?_; have hG := Grow.refl hS
  (refine CW_seq ?_; refine CW_region rfl ?_; refine S_op ?_; refine W_assignBool (by first | rfl | assumption) ?_; refine S_nil ?_; refine CW_seq ?_; refine CW_seq ?_; refine CW_region rfl ?_)
  (refine S_op ?_; refine W_call hS (by rfl) (awake8_c H0) ?_); rintro v H w hG' rfl; replace hG := hG.trans hG'; replace hS := hG'.sub; replace hl := hl.mono hG'.le; clear hG'
  by_cases h3 : 300 < l.length
  · (refine S_op ?_; refine W_not (by first | rfl | assumption) ?_; refine S_op ?_; refine W_moveBool (by first | rfl | assumption) ?_; refine S_want (by rfl) ?_; refine W_moveSl (by first | rfl | assumption) ?_; refine S_want (by rfl) ?_; refine W_len (by first | rfl | assumption) ?_; refine S_want (by rfl) ?_; refine W_gtrT (by first | rfl | assumption) (by first | rfl | assumption) (by first | omega | rfl) ?_; refine S_op ?_; refine W_pickF (by first | rfl | assumption) (by first | rfl | assumption) ?_; refine S_nil ?_; refine CW_true (by first | rfl | assumption) ?_; refine CW_seq ?_; refine CW_region rfl ?_)
    (refine S_op ?_; refine W_call hS (by rfl) (awake8_c H) ?_); rintro v H w hG' rfl; replace hG := hG.trans hG'; replace hS := hG'.sub; clear hG'
    (refine S_op ?_; refine W_assignBool (by first | rfl | assumption) ?_; refine S_nil ?_; refine CW_ret ?_)
    exact ⟨_, ResW_one (v := .bool _) rfl, H, hG, rfl⟩
  · (refine S_op ?_; refine W_not (by first | rfl | assumption) ?_; refine S_op ?_; refine W_moveBool (by first | rfl | assumption) ?_; refine S_want (by rfl) ?_; refine W_moveSl (by first | rfl | assumption) ?_; refine S_want (by rfl) ?_; refine W_len (by first | rfl | assumption) ?_; refine S_want (by rfl) ?_; refine W_gtrF (by first | rfl | assumption) (by first | rfl | assumption) (by first | omega | rfl) ?_; refine S_op ?_; refine W_pickF (by first | rfl | assumption) (by first | rfl | assumption) ?_; refine S_nil ?_; refine CW_false (by first | rfl | assumption) ?_; refine CW_skip ?_; refine CW_seq ?_; refine CW_region rfl ?_; refine S_op ?_; refine W_moveInt (by first | rfl | assumption) ?_)
    refine S_op ?_
    refine W_callW (by rfl) ((new_Int H w hS words).mono ?_)
    rintro v w ⟨b, g, rfl, hG', hbb, hgg, hm⟩
    have hs0 := hG.below.size
    replace hG := hG.trans hG'
    replace hS := hG'.sub
    replace hl := hl.mono hG'.le
    clear hG'
    (refine S_op ?_; refine W_moveInt (by first | rfl | assumption) ?_)
    refine S_op ?_
    refine W_callW (by rfl) ((rNew H w hS words).mono ?_)
    rintro v w ⟨b2, g2, rfl, hG', hbb2, hgg2, hr⟩
    obtain ⟨l1, l2⟩ := hm.lt
    have l2 := l2 _ rfl
    simp only at l2
    have hs1 := hG.below.size
    replace hm := hm.grow hG'
    replace hG := hG.trans hG'
    replace hS := hG'.sub
    replace hl := hl.mono hG'.le
    clear hG'
    have hap : Apart w0.heap.size b g b2 g2 := ⟨by omega, by omega, by omega, by omega, by omega, by omega, by omega, by omega⟩
    clear hbb hgg hbb2 hgg2 l1 l2 hs0 hs1
    (refine S_op ?_; refine W_assignPtr (by first | rfl | assumption) ?_; refine S_op ?_; refine W_assignPtr (by first | rfl | assumption) ?_; refine S_nil ?_; refine CW_seq ?_; refine CW_seq ?_; refine CW_region rfl ?_; refine S_op ?_; refine W_movePtr (by first | rfl | assumption) ?_; refine S_op ?_; refine W_peqnil (by first | rfl | assumption) (by first | rfl | assumption) ?_; refine S_nil ?_; refine CW_false (by first | rfl | assumption) ?_; refine CW_skip ?_; refine CW_seq ?_; refine CW_seq ?_; refine CW_region rfl ?_; refine S_op ?_; refine W_moveSl (by first | rfl | assumption) ?_; refine S_op ?_; refine W_len (by first | rfl | assumption) ?_; refine S_op ?_; refine W_moveInt (by first | rfl | assumption) ?_; refine S_nil ?_; refine CW_block ?_)
    refine CW_loopM [4, 7, 8, 9, 10, 11, 12, 13, 14, 15, 16, 36, 37, 38, 39, 40, 41, 42, 43, 44, 45, 46, 47, 48, 49, 50, 51, 52, 53, 54, 55, 56, 57, 58, 59, 60, 61, 62, 63, 64, 65, 66, 67, 68, 69, 70, 71, 72, 73, 74, 75, 76, 77, 78, 79, 80, 81, 82, 83, 84, 85, 86, 87, 88, 89, 90, 91, 92, 93, 94, 95, 96, 97, 98, 99, 100, 101, 102, 103, 104, 105, 106, 107, 108, 109, 110, 111, 112, 113, 114, 115, 116, 117, 118, 119, 120, 121, 122, 123, 124, 125, 126, 127, 128, 129, 130, 131, 132]
      (fun m u w2 => ∃ (i : Nat) (ws : List Int) (s c : Nat) (H2 : HF), u 36 = .int .i64 (i : Int) ∧ Grow H0 w0 H2 w2 ∧ IsMem H2 w2 b (some ⟨g, 0, none⟩) (ws.map vI) s c ∧ IsMem H2 w2 b2 (some ⟨g2, 0, none⟩) (ws.map vI) s c ∧ i ≤ l.length ∧ l.length - i ≤ m ∧ s ≤ i ∧ c ≤ i ∧ HLe H H2)
      (m := l.length) ⟨0, _, 0, 0, H, rfl, hG, hm, hr, by omega, by omega, Nat.le_refl _, Nat.le_refl _, HLe.refl _⟩ ?_
    clear hm hr hG
    rintro m u w ⟨i, ws, s, c, H, h36, hG, hm, hr, hi, hmm, hsi, hci, hle⟩
    replace hl := hl.mono hle
    have hle0 := hle
    replace hS := hG.sub
    by_cases hlt : i < l.length
    · obtain ⟨bb, off, hA, hrow⟩ := ops8_some hl hlt
      (refine CW_seq ?_; refine CW_region rfl ?_; refine S_op ?_; refine W_lssT (by first | rfl | assumption) (by first | rfl | assumption) (by first | omega | rfl) ?_; refine S_nil ?_; refine CW_seq ?_; refine CW_true (by first | rfl | assumption) ?_; refine CW_skip ?_; refine CW_seq ?_; refine CW_block ?_; refine CW_seq ?_; refine CW_region rfl ?_; refine S_op ?_; refine W_moveInt (by first | rfl | assumption) ?_; refine S_op ?_; refine W_assignInt (by first | rfl | assumption) ?_; refine S_nil ?_; refine CW_seq ?_; refine CW_region rfl ?_; refine S_op ?_; refine W_moveSl (by first | rfl | assumption) ?_; refine S_op ?_; refine W_moveInt (by first | rfl | assumption) ?_; refine S_op ?_; refine W_index (by first | rfl | assumption) (by first | rfl | assumption) (by first | assumption | omega | decide) (by first | rfl | assumption) ?_; refine S_op ?_; refine W_loadOd (by first | rfl | assumption) (by assumption) (by first | assumption | omega) (by assumption) ?_)
      refine S_op ?_
      refine W_alloc hS ?_
      intro w b3 hG' hb3 hm3
      obtain ⟨l1, l2⟩ := hm.lt
      obtain ⟨l3, l4⟩ := hr.lt
      have n1 : b3 ≠ b := by omega
      have n2 : b3 ≠ g := by have := l2 _ rfl; simp only at this; omega
      have n3 : b3 ≠ b2 := by omega
      have n4 : b3 ≠ g2 := by have := l4 _ rfl; simp only at this; omega
      replace hb3 := hG.base hb3
      replace hG := hG.trans hG'
      replace hS := hG'.sub
      replace hm := hm.grow hG'
      replace hr := hr.grow hG'
      replace hm3 : Mut H w b3 [.int .i64 0, .int .i64 0, .int .i64 0, .int .i64 0] := hm3
      clear hG'
      skip
      refine S_op0 ?_
      refine W_storeM (b := b3) (o := 0) (vs := [.int .i64 (nth l i).kind, .int .i64 (nth l i).i, .int .i64 (nth l i).old, .int .i64 (nth l i).x]) (by rfl) (by rfl) hm3 (by rfl) (by intro u hu; simp at hu; rcases hu with rfl | rfl | rfl | rfl <;> rfl) (by rfl) (Nat.le_refl 4) ?_
      intro w hg3 hm4
      replace hG := grown_own hG hg3 hm3 hb3
      replace hS := hG.sub
      replace hm := hm.own hg3 n1.symm (by intro a ha; cases ha; exact n2.symm)
      replace hr := hr.own hg3 n3.symm (by intro a ha; cases ha; exact n4.symm)
      replace hm3 : Mut H w b3 [.int .i64 (nth l i).kind, .int .i64 (nth l i).i, .int .i64 (nth l i).old, .int .i64 (nth l i).x] := hm4
      clear hm4 hg3 l1 l2 l3 l4
      generalize nth l i = o at *
      by_cases k1 : o.kind = 1
      · (refine S_nil ?_; refine CW_seq ?_; refine CW_seq ?_; refine CW_region rfl ?_; refine S_op ?_; refine W_field (by first | rfl | assumption) ?_; refine S_op ?_; refine W_loadM (by first | rfl | assumption) (by assumption) (by rfl) ?_; refine S_nil ?_; refine CW_block ?_; refine CW_seq ?_; refine CW_region rfl ?_; refine S_op ?_; refine W_eqlT (by first | rfl | assumption) (by first | rfl | assumption) (by first | omega | rfl) ?_; refine S_op ?_; refine W_assignBool (by first | rfl | assumption) ?_; refine S_nil ?_; refine CW_true (by first | rfl | assumption) ?_; refine CW_seq ?_; refine CW_region rfl ?_; refine S_op ?_; refine W_movePtr (by first | rfl | assumption) ?_; refine S_op ?_; refine W_field (by first | rfl | assumption) ?_; refine S_op ?_; refine W_loadM (by first | rfl | assumption) (by assumption) (by rfl) ?_)
        refine S_op ?_
        refine W_callW (by rfl) ((loadA_Int hS hm (by omega) o.i).mono ?_)
        rintro v w ⟨rfl, hT, hm⟩
        replace hG := hT.growOwn hG hap.hb (own_base hap.hg)
        replace hS := hG.sub
        replace hr := hap.second hr hT
        replace hm3 := hm3.turn hT (memS_not n1 n2)
        clear hT
        (refine S_op ?_; refine W_moveTup (by first | rfl | assumption) ?_; refine S_op ?_; refine W_extract (by first | rfl | assumption) (by rfl) ?_; refine S_op ?_; refine W_extract (by first | rfl | assumption) (by rfl) ?_; refine S_op ?_; refine W_assignInt (by first | rfl | assumption) ?_; refine S_op ?_; refine W_assignInt (by first | rfl | assumption) ?_; refine S_nil ?_; refine CW_seq ?_; refine CW_region rfl ?_; refine S_op ?_; refine W_movePtr (by first | rfl | assumption) ?_; refine S_op ?_; refine W_field (by first | rfl | assumption) ?_; refine S_op ?_; refine W_loadM (by first | rfl | assumption) (by assumption) (by rfl) ?_)
        refine S_op ?_
        refine W_callW (by rfl) ((rLoadA hS hr (by omega) o.i).mono ?_)
        rintro v w ⟨rfl, hT, hr⟩
        replace hG := hT.growOwn hG hap.hb2 (own_base hap.hg2)
        replace hS := hG.sub
        replace hm := hap.first hm hT
        replace hm3 := hm3.turn hT (memS_not n3 n4)
        clear hT
        simp only [vI]
        (refine S_op ?_; refine W_moveTup (by first | rfl | assumption) ?_; refine S_op ?_; refine W_extract (by first | rfl | assumption) (by rfl) ?_; refine S_op ?_; refine W_extract (by first | rfl | assumption) (by rfl) ?_; refine S_op ?_; refine W_assignInt (by first | rfl | assumption) ?_; refine S_op ?_; refine W_assignInt (by first | rfl | assumption) ?_; refine S_nil ?_; refine CW_seq ?_; refine CW_region rfl ?_; refine S_op ?_; refine W_moveInt (by first | rfl | assumption) ?_; refine S_op ?_; refine W_moveInt (by first | rfl | assumption) ?_; refine S_op ?_; refine W_neqF (by first | rfl | assumption) (by first | rfl | assumption) (by first | omega | rfl) ?_; refine S_op ?_; refine W_moveBool (by first | rfl | assumption) ?_; refine S_want (by rfl) ?_; refine W_moveInt (by first | rfl | assumption) ?_; refine S_want (by rfl) ?_; refine W_moveInt (by first | rfl | assumption) ?_; refine S_want (by rfl) ?_; refine W_neqF (by first | rfl | assumption) (by first | rfl | assumption) (by first | omega | rfl) ?_; refine S_op ?_; refine W_pickF (by first | rfl | assumption) (by first | rfl | assumption) ?_; refine S_nil ?_; refine CW_false (by first | rfl | assumption) ?_; refine CW_skip ?_; refine CW_seq ?_)
        obtain ⟨s', hs'⟩ : ∃ k, k = s + thereN ws.length o.i := ⟨_, rfl⟩
        obtain ⟨c', hc'⟩ : ∃ k, k = c := ⟨_, rfl⟩
        rw [← hs', ← hc'] at hm hr
        obtain ⟨ws', hws'⟩ : ∃ k, k = ws := ⟨_, rfl⟩
        rw [← hws'] at hm hr
        have hrc := hr.cell
        have htn := thereN_le ws.length o.i
        have hG0 := hG
        apply CW_region_grow [_, _, _, _, _, _, _, _, _, _, _, _, _, _, _, _] [none, none, none, none, none, none, none, none, none, none, none, none, none, none, none, none] [some 116, some 117, some 118, some 119, some 120, some 121, some 122, some 123, some 124, some 125, some 126, some 127, some 128, some 129, some 130, some 131] [116, 117, 118, 119, 120, 121, 122, 123, 124, 125, 126, 127, 128, 129, 130, 131] mixed rfl rfl rfl rfl (by decide) rfl (by assumption)
        · ((apply steps_cons; case h1 => (apply A_pure; intro c u H' w' hG; have hS' := hG.sub; have hS2' := hG.subOld; have hM0 := (hrc).grow hG; (repeat (first | refine depGo_eq rfl rfl rfl ?_ | (refine depGo_fact rfl rfl rfl ?_; intro v hv) | refine depGo_skip rfl ?_ | refine depGo_none rfl ?_)); apply Pure1.mk; intro K hk; exact W_movePtr (by first | rfl | assumption) hk)))
          apply steps_cons
          · refine A_fact (φ := fun v _ => v = .int .i64 (s' : Int)) ?_
            intro c' u H' w' hG'
            have hS' := hG'.sub
            (repeat (first | refine depGo_eq rfl rfl rfl ?_ | (refine depGo_fact rfl rfl rfl ?_; intro v hv) | refine depGo_skip rfl ?_ | refine depGo_none rfl ?_))
            refine depGo_nil ?_
            refine W_callW (by rfl) ((steps_Int hS' (hm.grow hG')).mono ?_)
            rintro v w3 ⟨rfl, rfl⟩
            exact ⟨H', HLe.refl _, hG', fun _ _ => rfl⟩
          ((apply steps_cons; case h1 => (apply A_pure; intro c u H' w' hG; have hS' := hG.sub; have hS2' := hG.subOld; have hM0 := (hrc).grow hG; (repeat (first | refine depGo_eq rfl rfl rfl ?_ | (refine depGo_fact rfl rfl rfl ?_; intro v hv) | refine depGo_skip rfl ?_ | refine depGo_none rfl ?_)); apply Pure1.mk; intro K hk; exact W_movePtr (by first | rfl | assumption) hk)); (apply steps_cons; case h1 => (apply A_pure; intro c u H' w' hG; have hS' := hG.sub; have hS2' := hG.subOld; have hM0 := (hrc).grow hG; (repeat (first | refine depGo_eq rfl rfl rfl ?_ | (refine depGo_fact rfl rfl rfl ?_; intro v hv) | refine depGo_skip rfl ?_ | refine depGo_none rfl ?_)); apply Pure1.mk; intro K hk; exact W_nilCheck (by first | rfl | assumption) hk)); (apply steps_cons; case h1 => (apply A_pure; intro c u H' w' hG; have hS' := hG.sub; have hS2' := hG.subOld; have hM0 := (hrc).grow hG; (repeat (first | refine depGo_eq rfl rfl rfl ?_ | (refine depGo_fact rfl rfl rfl ?_; intro v hv) | refine depGo_skip rfl ?_ | refine depGo_none rfl ?_)); apply Pure1.mk; intro K hk; exact W_field (by first | rfl | assumption) hk)); (apply steps_cons; case h1 => (apply A_pure; intro c u H' w' hG; have hS' := hG.sub; have hS2' := hG.subOld; have hM0 := (hrc).grow hG; (repeat (first | refine depGo_eq rfl rfl rfl ?_ | (refine depGo_fact rfl rfl rfl ?_; intro v hv) | refine depGo_skip rfl ?_ | refine depGo_none rfl ?_)); apply Pure1.mk; intro K hk; exact W_loadM (by first | rfl | assumption) (by assumption) (by rfl) hk)); (apply steps_cons; case h1 => (apply A_pure; intro c u H' w' hG; have hS' := hG.sub; have hS2' := hG.subOld; have hM0 := (hrc).grow hG; (repeat (first | refine depGo_eq rfl rfl rfl ?_ | (refine depGo_fact rfl rfl rfl ?_; intro v hv) | refine depGo_skip rfl ?_ | refine depGo_none rfl ?_)); apply Pure1.mk; intro K hk; exact W_neqF (by first | rfl | assumption) (by first | rfl | assumption) (by first | omega | rfl) hk)); (apply steps_cons; case h1 => (apply A_pure; intro c u H' w' hG; have hS' := hG.sub; have hS2' := hG.subOld; have hM0 := (hrc).grow hG; (repeat (first | refine depGo_eq rfl rfl rfl ?_ | (refine depGo_fact rfl rfl rfl ?_; intro v hv) | refine depGo_skip rfl ?_ | refine depGo_none rfl ?_)); apply Pure1.mk; intro K hk; exact W_moveBool (by first | rfl | assumption) hk)); (apply steps_cons; case h1 => (apply A_want; intro c u H' w' hG; have hS' := hG.sub; have hS2' := hG.subOld; have hM0 := (hrc).grow hG; (repeat (first | refine depGo_eq rfl rfl rfl ?_ | (refine depGo_fact rfl rfl rfl ?_; intro v hv) | refine depGo_skip rfl ?_ | refine depGo_none rfl ?_)); apply Pure2.mk; (case want => rfl); intro K hk; exact W_movePtr (by first | rfl | assumption) hk)))
          apply steps_cons
          · refine A_factG (φ := fun v _ => v = .int .i64 (c' : Int)) ?_
            intro c'' u H' w' hG'
            have hS' := hG'.sub
            (repeat (first | refine depGo_eq rfl rfl rfl ?_ | (refine depGo_fact rfl rfl rfl ?_; intro v hv) | refine depGo_skip rfl ?_ | refine depGo_none rfl ?_))
            refine depGo_nil ⟨rfl, ?_⟩
            refine W_callW (by rfl) ((changes_Int hS' (hm.grow hG')).mono ?_)
            rintro v w3 ⟨rfl, rfl⟩
            exact ⟨H', HLe.refl _, hG', fun _ _ => rfl⟩
          ((apply steps_cons; case h1 => (apply A_want; intro c u H' w' hG; have hS' := hG.sub; have hS2' := hG.subOld; have hM0 := (hrc).grow hG; (repeat (first | refine depGo_eq rfl rfl rfl ?_ | (refine depGo_fact rfl rfl rfl ?_; intro v hv) | refine depGo_skip rfl ?_ | refine depGo_none rfl ?_)); apply Pure2.mk; (case want => rfl); intro K hk; exact W_movePtr (by first | rfl | assumption) hk)); (apply steps_cons; case h1 => (apply A_want; intro c u H' w' hG; have hS' := hG.sub; have hS2' := hG.subOld; have hM0 := (hrc).grow hG; (repeat (first | refine depGo_eq rfl rfl rfl ?_ | (refine depGo_fact rfl rfl rfl ?_; intro v hv) | refine depGo_skip rfl ?_ | refine depGo_none rfl ?_)); apply Pure2.mk; (case want => rfl); intro K hk; exact W_nilCheck (by first | rfl | assumption) hk)); (apply steps_cons; case h1 => (apply A_want; intro c u H' w' hG; have hS' := hG.sub; have hS2' := hG.subOld; have hM0 := (hrc).grow hG; (repeat (first | refine depGo_eq rfl rfl rfl ?_ | (refine depGo_fact rfl rfl rfl ?_; intro v hv) | refine depGo_skip rfl ?_ | refine depGo_none rfl ?_)); apply Pure2.mk; (case want => rfl); intro K hk; exact W_field (by first | rfl | assumption) hk)); (apply steps_cons; case h1 => (apply A_want; intro c u H' w' hG; have hS' := hG.sub; have hS2' := hG.subOld; have hM0 := (hrc).grow hG; (repeat (first | refine depGo_eq rfl rfl rfl ?_ | (refine depGo_fact rfl rfl rfl ?_; intro v hv) | refine depGo_skip rfl ?_ | refine depGo_none rfl ?_)); apply Pure2.mk; (case want => rfl); intro K hk; exact W_loadM (by first | rfl | assumption) (by assumption) (by rfl) hk)); (apply steps_cons; case h1 => (apply A_want; intro c u H' w' hG; have hS' := hG.sub; have hS2' := hG.subOld; have hM0 := (hrc).grow hG; (repeat (first | refine depGo_eq rfl rfl rfl ?_ | (refine depGo_fact rfl rfl rfl ?_; intro v hv) | refine depGo_skip rfl ?_ | refine depGo_none rfl ?_)); apply Pure2.mk; (case want => rfl); intro K hk; exact W_neqF (by first | rfl | assumption) (by first | rfl | assumption) (by first | omega | rfl) hk)); (apply steps_cons; case h1 => (apply A_pure; intro c u H' w' hG; have hS' := hG.sub; have hS2' := hG.subOld; have hM0 := (hrc).grow hG; (repeat (first | refine depGo_eq rfl rfl rfl ?_ | (refine depGo_fact rfl rfl rfl ?_; intro v hv) | refine depGo_skip rfl ?_ | refine depGo_none rfl ?_)); apply Pure1.mk; intro K hk; exact W_pickF (by first | rfl | assumption) (by first | rfl | assumption) hk)); exact trivial)
        · (intro H' w' hG; (repeat (first | refine fin_eq rfl rfl ?_ | (refine fin_fact rfl ?_; intro v hv) | refine fin_none rfl ?_)); refine fin_nil ?_)
          replace hG0 := hG0.trans hG
          replace hm := hm.grow hG
          replace hr := hr.grow hG
          (refine CW_false (by first | rfl | assumption) ?_; refine CW_skip ?_; refine CW_region rfl ?_; refine S_op ?_; refine W_add1 (by first | rfl | assumption) (by omega) ?_; refine S_op ?_; refine W_moveInt (by first | rfl | assumption) ?_; refine S_nil ?_)
          exact ⟨(by repeat (first | exact AgreeOff.over | refine AgreeOff.upd rfl ?_ | refine AgreeOff.over2 rfl ?_)), m - 1, by omega, i + 1, ws', s', c', H', rfl, hG0, hm, hr, by omega, by omega, by omega, by omega, hle0.trans hG.le⟩
      · by_cases k2 : o.kind = 2
        · (refine S_nil ?_; refine CW_seq ?_; refine CW_seq ?_; refine CW_region rfl ?_; refine S_op ?_; refine W_field (by first | rfl | assumption) ?_; refine S_op ?_; refine W_loadM (by first | rfl | assumption) (by assumption) (by rfl) ?_; refine S_nil ?_; refine CW_block ?_; refine CW_seq ?_; refine CW_region rfl ?_; refine S_op ?_; refine W_eqlF (by first | rfl | assumption) (by first | rfl | assumption) (by first | omega | rfl) ?_; refine S_op ?_; refine W_assignBool (by first | rfl | assumption) ?_; refine S_nil ?_; refine CW_false (by first | rfl | assumption) ?_; refine CW_seq ?_; refine CW_region rfl ?_; refine S_op ?_; refine W_eqlT (by first | rfl | assumption) (by first | rfl | assumption) (by first | omega | rfl) ?_; refine S_op ?_; refine W_assignBool (by first | rfl | assumption) ?_; refine S_nil ?_; refine CW_true (by first | rfl | assumption) ?_; refine CW_seq ?_)
          apply CW_region_gn (fun k H w => Mut H w b3 [.int .i64 o.kind, .int .i64 o.i, .int .i64 o.old, .int .i64 o.x] ∧
            ∃ s1 ws1 s2 ws2, IsMem H w b (some ⟨g, 0, none⟩) (ws1.map vI) s1 c ∧ IsMem H w b2 (some ⟨g2, 0, none⟩) (ws2.map vI) s2 c ∧ (k = 0 → s1 = s ∧ ws1 = ws) ∧ (k ≤ 1 → s2 = s ∧ ws2 = ws) ∧ (1 ≤ k → s1 = s + thereN ws.length o.i ∧ ws1 = storeI ws o.i o.x) ∧ (2 ≤ k → s2 = s + thereN ws.length o.i ∧ ws2 = storeI ws o.i o.x))
            1 [_, _, _, _, _, _, _, _, _, _, _, _, _] [none, none, none, none, none, some 0, none, none, none, none, none, some 1, none] [some 71, some 72, some 73, some 74, some 75, some 76, some 77, some 78, some 79, some 80, some 81, some 82, some 83] [71, 72, 73, 74, 75, 76, 77, 78, 79, 80, 81, 82, 83] mixed rfl rfl rfl rfl (by decide) rfl rfl rfl (by assumption)
          · exact ⟨hm3, s, ws, s, ws, hm, hr, fun _ => ⟨rfl, rfl⟩, fun _ => ⟨rfl, rfl⟩, fun h => absurd h (by omega), fun h => absurd h (by omega)⟩
          · rintro k H w H' w' ⟨q1, s1, ws1, s2, ws2, q2, q3, q4⟩ hg
            exact ⟨q1.grow hg, s1, ws1, s2, ws2, q2.grow hg, q3.grow hg, q4⟩
          · skip
            apply steps_cons; case h1 => (apply A_pure; intro c u H' w' hG'; have hm' := hG'.m.1; (repeat (first | refine depGo_eq rfl rfl rfl ?_ | (refine depGo_fact rfl rfl rfl ?_; intro v hv) | refine depGo_skip rfl ?_ | refine depGo_none rfl ?_)); apply Pure1.mk; intro K hk; first | exact W_movePtr (by rfl) hk | exact W_field (by rfl) hk | exact W_loadM (by rfl) hm' (by rfl) hk)
            apply steps_cons; case h1 => (apply A_pure; intro c u H' w' hG'; have hm' := hG'.m.1; (repeat (first | refine depGo_eq rfl rfl rfl ?_ | (refine depGo_fact rfl rfl rfl ?_; intro v hv) | refine depGo_skip rfl ?_ | refine depGo_none rfl ?_)); apply Pure1.mk; intro K hk; first | exact W_movePtr (by rfl) hk | exact W_field (by rfl) hk | exact W_loadM (by rfl) hm' (by rfl) hk)
            apply steps_cons; case h1 => (apply A_pure; intro c u H' w' hG'; have hm' := hG'.m.1; (repeat (first | refine depGo_eq rfl rfl rfl ?_ | (refine depGo_fact rfl rfl rfl ?_; intro v hv) | refine depGo_skip rfl ?_ | refine depGo_none rfl ?_)); apply Pure1.mk; intro K hk; first | exact W_movePtr (by rfl) hk | exact W_field (by rfl) hk | exact W_loadM (by rfl) hm' (by rfl) hk)
            apply steps_cons; case h1 => (apply A_pure; intro c u H' w' hG'; have hm' := hG'.m.1; (repeat (first | refine depGo_eq rfl rfl rfl ?_ | (refine depGo_fact rfl rfl rfl ?_; intro v hv) | refine depGo_skip rfl ?_ | refine depGo_none rfl ?_)); apply Pure1.mk; intro K hk; first | exact W_movePtr (by rfl) hk | exact W_field (by rfl) hk | exact W_loadM (by rfl) hm' (by rfl) hk)
            apply steps_cons; case h1 => (apply A_pure; intro c u H' w' hG'; have hm' := hG'.m.1; (repeat (first | refine depGo_eq rfl rfl rfl ?_ | (refine depGo_fact rfl rfl rfl ?_; intro v hv) | refine depGo_skip rfl ?_ | refine depGo_none rfl ?_)); apply Pure1.mk; intro K hk; first | exact W_movePtr (by rfl) hk | exact W_field (by rfl) hk | exact W_loadM (by rfl) hm' (by rfl) hk)
            apply steps_cons
            · refine A_eff (φ := fun v _ => v = .int .i64 (errI ws.length o.i : Nat)) ?_
              intro u' H' w' hG'
              have hS' := hG'.sub
              obtain ⟨q1, s1, ws1, s2, ws2, q2, q3, q4, q5, _, _⟩ := hG'.m
              obtain ⟨e1, e2⟩ := q4 rfl
              obtain ⟨e3, e4⟩ := q5 (by omega)
              rw [e1, e2] at q2
              rw [e3, e4] at q3
              (repeat (first | refine depGo_eq rfl rfl rfl ?_ | (refine depGo_fact rfl rfl rfl ?_; intro v hv) | refine depGo_skip rfl ?_ | refine depGo_none rfl ?_))
              refine depGo_nil ?_
              refine W_callW (by rfl) ((storeA_Int hS' q2 (by omega) o.i o.x).mono ?_)
              rintro v w3 ⟨rfl, hT, hm'⟩
              have hg3 := hT.growOwn hG'.grow hap.hb (own_base hap.hg)
              exact ⟨H', HLe.refl _, hG'.next hg3 ⟨q1.turn hT (memS_not n1 n2), _, _, s, ws, hm', hap.second q3 hT, (fun h => absurd h (by omega)), fun _ => ⟨rfl, rfl⟩, fun _ => ⟨rfl, rfl⟩, fun h => absurd h (by omega)⟩, fun _ _ => rfl⟩
            apply steps_cons; case h1 => (apply A_pure; intro c u H' w' hG'; have hm' := hG'.m.1; (repeat (first | refine depGo_eq rfl rfl rfl ?_ | (refine depGo_fact rfl rfl rfl ?_; intro v hv) | refine depGo_skip rfl ?_ | refine depGo_none rfl ?_)); apply Pure1.mk; intro K hk; first | exact W_movePtr (by rfl) hk | exact W_field (by rfl) hk | exact W_loadM (by rfl) hm' (by rfl) hk)
            apply steps_cons; case h1 => (apply A_pure; intro c u H' w' hG'; have hm' := hG'.m.1; (repeat (first | refine depGo_eq rfl rfl rfl ?_ | (refine depGo_fact rfl rfl rfl ?_; intro v hv) | refine depGo_skip rfl ?_ | refine depGo_none rfl ?_)); apply Pure1.mk; intro K hk; first | exact W_movePtr (by rfl) hk | exact W_field (by rfl) hk | exact W_loadM (by rfl) hm' (by rfl) hk)
            apply steps_cons; case h1 => (apply A_pure; intro c u H' w' hG'; have hm' := hG'.m.1; (repeat (first | refine depGo_eq rfl rfl rfl ?_ | (refine depGo_fact rfl rfl rfl ?_; intro v hv) | refine depGo_skip rfl ?_ | refine depGo_none rfl ?_)); apply Pure1.mk; intro K hk; first | exact W_movePtr (by rfl) hk | exact W_field (by rfl) hk | exact W_loadM (by rfl) hm' (by rfl) hk)
            apply steps_cons; case h1 => (apply A_pure; intro c u H' w' hG'; have hm' := hG'.m.1; (repeat (first | refine depGo_eq rfl rfl rfl ?_ | (refine depGo_fact rfl rfl rfl ?_; intro v hv) | refine depGo_skip rfl ?_ | refine depGo_none rfl ?_)); apply Pure1.mk; intro K hk; first | exact W_movePtr (by rfl) hk | exact W_field (by rfl) hk | exact W_loadM (by rfl) hm' (by rfl) hk)
            apply steps_cons; case h1 => (apply A_pure; intro c u H' w' hG'; have hm' := hG'.m.1; (repeat (first | refine depGo_eq rfl rfl rfl ?_ | (refine depGo_fact rfl rfl rfl ?_; intro v hv) | refine depGo_skip rfl ?_ | refine depGo_none rfl ?_)); apply Pure1.mk; intro K hk; first | exact W_movePtr (by rfl) hk | exact W_field (by rfl) hk | exact W_loadM (by rfl) hm' (by rfl) hk)
            apply steps_cons
            · refine A_eff (φ := fun v _ => v = .int .i64 (errI ws.length o.i : Nat)) ?_
              intro u' H' w' hG'
              have hS' := hG'.sub
              obtain ⟨q1, s1, ws1, s2, ws2, q2, q3, q4, q5, q6, _⟩ := hG'.m
              obtain ⟨e1, e2⟩ := q6 (by omega)
              obtain ⟨e3, e4⟩ := q5 (by omega)
              rw [e1, e2] at q2
              rw [e3, e4] at q3
              (repeat (first | refine depGo_eq rfl rfl rfl ?_ | (refine depGo_fact rfl rfl rfl ?_; intro v hv) | refine depGo_skip rfl ?_ | refine depGo_none rfl ?_))
              refine depGo_nil ?_
              refine W_callW (by rfl) ((rStoreA hS' q3 (by omega) o.i o.x).mono ?_)
              rintro v w3 ⟨rfl, hT, hr'⟩
              have hg3 := hT.growOwn hG'.grow hap.hb2 (own_base hap.hg2)
              exact ⟨H', HLe.refl _, hG'.next hg3 ⟨q1.turn hT (memS_not n3 n4), _, _, _, _, hap.first q2 hT, hr', (fun h => absurd h (by omega)), (fun h => absurd h (by omega)), fun _ => ⟨rfl, rfl⟩, fun _ => ⟨rfl, rfl⟩⟩, fun _ _ => rfl⟩
            ((apply steps_cons; case h1 => (apply A_pure; intro c u H' w' hG; have hS' := hG.sub; have hS2' := hG.subOld; (repeat (first | refine depGo_eq rfl rfl rfl ?_ | (refine depGo_fact rfl rfl rfl ?_; intro v hv) | refine depGo_skip rfl ?_ | refine depGo_none rfl ?_)); apply Pure1.mk; intro K hk; exact W_neqF (by first | rfl | assumption) (by first | rfl | assumption) (by first | omega | rfl) hk)); exact trivial)
          · intro k H' w hk hG hle' hM
            (repeat (first | refine fin_eq rfl rfl ?_ | (refine fin_fact rfl ?_; intro v hv) | refine fin_none rfl ?_)); refine fin_nil ?_
            obtain ⟨hm3, s1, ws1, s2, ws2, hm, hr, _, _, q6, q7⟩ := hM
            obtain ⟨e1, e2⟩ := q6 (by omega)
            obtain ⟨e3, e4⟩ := q7 (by omega)
            rw [e1, e2] at hm
            rw [e3, e4] at hr
            replace hS := hG.sub
            replace hle0 := hle0.trans hle'
            obtain ⟨H, hHH⟩ : ∃ x, x = H' := ⟨_, rfl⟩
            rw [← hHH] at hm hr hG hS hle0 hm3
            subst hHH
            clear q6 q7 e1 e2 e3 e4
            (refine CW_false (by first | rfl | assumption) ?_; refine CW_skip ?_; refine CW_seq ?_)
            obtain ⟨s', hs'⟩ : ∃ k, k = s + thereN ws.length o.i := ⟨_, rfl⟩
            obtain ⟨c', hc'⟩ : ∃ k, k = c := ⟨_, rfl⟩
            rw [← hs', ← hc'] at hm hr
            obtain ⟨ws', hws'⟩ : ∃ k, k = storeI ws o.i o.x := ⟨_, rfl⟩
            rw [← hws'] at hm hr
            have hrc := hr.cell
            have htn := thereN_le ws.length o.i
            have hG0 := hG
            apply CW_region_grow [_, _, _, _, _, _, _, _, _, _, _, _, _, _, _, _] [none, none, none, none, none, none, none, none, none, none, none, none, none, none, none, none] [some 116, some 117, some 118, some 119, some 120, some 121, some 122, some 123, some 124, some 125, some 126, some 127, some 128, some 129, some 130, some 131] [116, 117, 118, 119, 120, 121, 122, 123, 124, 125, 126, 127, 128, 129, 130, 131] mixed rfl rfl rfl rfl (by decide) rfl (by assumption)
            · ((apply steps_cons; case h1 => (apply A_pure; intro c u H' w' hG; have hS' := hG.sub; have hS2' := hG.subOld; have hM0 := (hrc).grow hG; (repeat (first | refine depGo_eq rfl rfl rfl ?_ | (refine depGo_fact rfl rfl rfl ?_; intro v hv) | refine depGo_skip rfl ?_ | refine depGo_none rfl ?_)); apply Pure1.mk; intro K hk; exact W_movePtr (by first | rfl | assumption) hk)))
              apply steps_cons
              · refine A_fact (φ := fun v _ => v = .int .i64 (s' : Int)) ?_
                intro c' u H' w' hG'
                have hS' := hG'.sub
                (repeat (first | refine depGo_eq rfl rfl rfl ?_ | (refine depGo_fact rfl rfl rfl ?_; intro v hv) | refine depGo_skip rfl ?_ | refine depGo_none rfl ?_))
                refine depGo_nil ?_
                refine W_callW (by rfl) ((steps_Int hS' (hm.grow hG')).mono ?_)
                rintro v w3 ⟨rfl, rfl⟩
                exact ⟨H', HLe.refl _, hG', fun _ _ => rfl⟩
              ((apply steps_cons; case h1 => (apply A_pure; intro c u H' w' hG; have hS' := hG.sub; have hS2' := hG.subOld; have hM0 := (hrc).grow hG; (repeat (first | refine depGo_eq rfl rfl rfl ?_ | (refine depGo_fact rfl rfl rfl ?_; intro v hv) | refine depGo_skip rfl ?_ | refine depGo_none rfl ?_)); apply Pure1.mk; intro K hk; exact W_movePtr (by first | rfl | assumption) hk)); (apply steps_cons; case h1 => (apply A_pure; intro c u H' w' hG; have hS' := hG.sub; have hS2' := hG.subOld; have hM0 := (hrc).grow hG; (repeat (first | refine depGo_eq rfl rfl rfl ?_ | (refine depGo_fact rfl rfl rfl ?_; intro v hv) | refine depGo_skip rfl ?_ | refine depGo_none rfl ?_)); apply Pure1.mk; intro K hk; exact W_nilCheck (by first | rfl | assumption) hk)); (apply steps_cons; case h1 => (apply A_pure; intro c u H' w' hG; have hS' := hG.sub; have hS2' := hG.subOld; have hM0 := (hrc).grow hG; (repeat (first | refine depGo_eq rfl rfl rfl ?_ | (refine depGo_fact rfl rfl rfl ?_; intro v hv) | refine depGo_skip rfl ?_ | refine depGo_none rfl ?_)); apply Pure1.mk; intro K hk; exact W_field (by first | rfl | assumption) hk)); (apply steps_cons; case h1 => (apply A_pure; intro c u H' w' hG; have hS' := hG.sub; have hS2' := hG.subOld; have hM0 := (hrc).grow hG; (repeat (first | refine depGo_eq rfl rfl rfl ?_ | (refine depGo_fact rfl rfl rfl ?_; intro v hv) | refine depGo_skip rfl ?_ | refine depGo_none rfl ?_)); apply Pure1.mk; intro K hk; exact W_loadM (by first | rfl | assumption) (by assumption) (by rfl) hk)); (apply steps_cons; case h1 => (apply A_pure; intro c u H' w' hG; have hS' := hG.sub; have hS2' := hG.subOld; have hM0 := (hrc).grow hG; (repeat (first | refine depGo_eq rfl rfl rfl ?_ | (refine depGo_fact rfl rfl rfl ?_; intro v hv) | refine depGo_skip rfl ?_ | refine depGo_none rfl ?_)); apply Pure1.mk; intro K hk; exact W_neqF (by first | rfl | assumption) (by first | rfl | assumption) (by first | omega | rfl) hk)); (apply steps_cons; case h1 => (apply A_pure; intro c u H' w' hG; have hS' := hG.sub; have hS2' := hG.subOld; have hM0 := (hrc).grow hG; (repeat (first | refine depGo_eq rfl rfl rfl ?_ | (refine depGo_fact rfl rfl rfl ?_; intro v hv) | refine depGo_skip rfl ?_ | refine depGo_none rfl ?_)); apply Pure1.mk; intro K hk; exact W_moveBool (by first | rfl | assumption) hk)); (apply steps_cons; case h1 => (apply A_want; intro c u H' w' hG; have hS' := hG.sub; have hS2' := hG.subOld; have hM0 := (hrc).grow hG; (repeat (first | refine depGo_eq rfl rfl rfl ?_ | (refine depGo_fact rfl rfl rfl ?_; intro v hv) | refine depGo_skip rfl ?_ | refine depGo_none rfl ?_)); apply Pure2.mk; (case want => rfl); intro K hk; exact W_movePtr (by first | rfl | assumption) hk)))
              apply steps_cons
              · refine A_factG (φ := fun v _ => v = .int .i64 (c' : Int)) ?_
                intro c'' u H' w' hG'
                have hS' := hG'.sub
                (repeat (first | refine depGo_eq rfl rfl rfl ?_ | (refine depGo_fact rfl rfl rfl ?_; intro v hv) | refine depGo_skip rfl ?_ | refine depGo_none rfl ?_))
                refine depGo_nil ⟨rfl, ?_⟩
                refine W_callW (by rfl) ((changes_Int hS' (hm.grow hG')).mono ?_)
                rintro v w3 ⟨rfl, rfl⟩
                exact ⟨H', HLe.refl _, hG', fun _ _ => rfl⟩
              ((apply steps_cons; case h1 => (apply A_want; intro c u H' w' hG; have hS' := hG.sub; have hS2' := hG.subOld; have hM0 := (hrc).grow hG; (repeat (first | refine depGo_eq rfl rfl rfl ?_ | (refine depGo_fact rfl rfl rfl ?_; intro v hv) | refine depGo_skip rfl ?_ | refine depGo_none rfl ?_)); apply Pure2.mk; (case want => rfl); intro K hk; exact W_movePtr (by first | rfl | assumption) hk)); (apply steps_cons; case h1 => (apply A_want; intro c u H' w' hG; have hS' := hG.sub; have hS2' := hG.subOld; have hM0 := (hrc).grow hG; (repeat (first | refine depGo_eq rfl rfl rfl ?_ | (refine depGo_fact rfl rfl rfl ?_; intro v hv) | refine depGo_skip rfl ?_ | refine depGo_none rfl ?_)); apply Pure2.mk; (case want => rfl); intro K hk; exact W_nilCheck (by first | rfl | assumption) hk)); (apply steps_cons; case h1 => (apply A_want; intro c u H' w' hG; have hS' := hG.sub; have hS2' := hG.subOld; have hM0 := (hrc).grow hG; (repeat (first | refine depGo_eq rfl rfl rfl ?_ | (refine depGo_fact rfl rfl rfl ?_; intro v hv) | refine depGo_skip rfl ?_ | refine depGo_none rfl ?_)); apply Pure2.mk; (case want => rfl); intro K hk; exact W_field (by first | rfl | assumption) hk)); (apply steps_cons; case h1 => (apply A_want; intro c u H' w' hG; have hS' := hG.sub; have hS2' := hG.subOld; have hM0 := (hrc).grow hG; (repeat (first | refine depGo_eq rfl rfl rfl ?_ | (refine depGo_fact rfl rfl rfl ?_; intro v hv) | refine depGo_skip rfl ?_ | refine depGo_none rfl ?_)); apply Pure2.mk; (case want => rfl); intro K hk; exact W_loadM (by first | rfl | assumption) (by assumption) (by rfl) hk)); (apply steps_cons; case h1 => (apply A_want; intro c u H' w' hG; have hS' := hG.sub; have hS2' := hG.subOld; have hM0 := (hrc).grow hG; (repeat (first | refine depGo_eq rfl rfl rfl ?_ | (refine depGo_fact rfl rfl rfl ?_; intro v hv) | refine depGo_skip rfl ?_ | refine depGo_none rfl ?_)); apply Pure2.mk; (case want => rfl); intro K hk; exact W_neqF (by first | rfl | assumption) (by first | rfl | assumption) (by first | omega | rfl) hk)); (apply steps_cons; case h1 => (apply A_pure; intro c u H' w' hG; have hS' := hG.sub; have hS2' := hG.subOld; have hM0 := (hrc).grow hG; (repeat (first | refine depGo_eq rfl rfl rfl ?_ | (refine depGo_fact rfl rfl rfl ?_; intro v hv) | refine depGo_skip rfl ?_ | refine depGo_none rfl ?_)); apply Pure1.mk; intro K hk; exact W_pickF (by first | rfl | assumption) (by first | rfl | assumption) hk)); exact trivial)
            · (intro H' w' hG; (repeat (first | refine fin_eq rfl rfl ?_ | (refine fin_fact rfl ?_; intro v hv) | refine fin_none rfl ?_)); refine fin_nil ?_)
              replace hG0 := hG0.trans hG
              replace hm := hm.grow hG
              replace hr := hr.grow hG
              (refine CW_false (by first | rfl | assumption) ?_; refine CW_skip ?_; refine CW_region rfl ?_; refine S_op ?_; refine W_add1 (by first | rfl | assumption) (by omega) ?_; refine S_op ?_; refine W_moveInt (by first | rfl | assumption) ?_; refine S_nil ?_)
              exact ⟨(by repeat (first | exact AgreeOff.over | refine AgreeOff.upd rfl ?_ | refine AgreeOff.over2 rfl ?_)), m - 1, by omega, i + 1, ws', s', c', H', rfl, hG0, hm, hr, by omega, by omega, by omega, by omega, hle0.trans hG.le⟩
        · by_cases k3 : o.kind = 3
          · (refine S_nil ?_; refine CW_seq ?_; refine CW_seq ?_; refine CW_region rfl ?_; refine S_op ?_; refine W_field (by first | rfl | assumption) ?_; refine S_op ?_; refine W_loadM (by first | rfl | assumption) (by assumption) (by rfl) ?_; refine S_nil ?_; refine CW_block ?_; refine CW_seq ?_; refine CW_region rfl ?_; refine S_op ?_; refine W_eqlF (by first | rfl | assumption) (by first | rfl | assumption) (by first | omega | rfl) ?_; refine S_op ?_; refine W_assignBool (by first | rfl | assumption) ?_; refine S_nil ?_; refine CW_false (by first | rfl | assumption) ?_; refine CW_seq ?_; refine CW_region rfl ?_; refine S_op ?_; refine W_eqlF (by first | rfl | assumption) (by first | rfl | assumption) (by first | omega | rfl) ?_; refine S_op ?_; refine W_assignBool (by first | rfl | assumption) ?_; refine S_nil ?_; refine CW_false (by first | rfl | assumption) ?_; refine CW_seq ?_; refine CW_region rfl ?_; refine S_op ?_; refine W_eqlT (by first | rfl | assumption) (by first | rfl | assumption) (by first | omega | rfl) ?_; refine S_op ?_; refine W_assignBool (by first | rfl | assumption) ?_; refine S_nil ?_; refine CW_true (by first | rfl | assumption) ?_; refine CW_seq ?_; refine CW_region rfl ?_; refine S_op ?_; refine W_movePtr (by first | rfl | assumption) ?_; refine S_op ?_; refine W_field (by first | rfl | assumption) ?_; refine S_op ?_; refine W_loadM (by first | rfl | assumption) (by assumption) (by rfl) ?_; refine S_op ?_; refine W_field (by first | rfl | assumption) ?_; refine S_op ?_; refine W_loadM (by first | rfl | assumption) (by assumption) (by rfl) ?_; refine S_op ?_; refine W_field (by first | rfl | assumption) ?_; refine S_op ?_; refine W_loadM (by first | rfl | assumption) (by assumption) (by rfl) ?_)
            refine S_op ?_
            refine W_callW (by rfl) ((casA_Int hS hm (by omega) (by omega) o.i o.old o.x).mono ?_)
            rintro v w ⟨rfl, hT, hm⟩
            replace hG := hT.growOwn hG hap.hb (own_base hap.hg)
            replace hS := hG.sub
            replace hr := hap.second hr hT
            replace hm3 := hm3.turn hT (memS_not n1 n2)
            clear hT
            (refine S_op ?_; refine W_moveTup (by first | rfl | assumption) ?_; refine S_op ?_; refine W_extract (by first | rfl | assumption) (by rfl) ?_; refine S_op ?_; refine W_extract (by first | rfl | assumption) (by rfl) ?_; refine S_op ?_; refine W_assignBool (by first | rfl | assumption) ?_; refine S_op ?_; refine W_assignInt (by first | rfl | assumption) ?_; refine S_nil ?_; refine CW_seq ?_; refine CW_region rfl ?_; refine S_op ?_; refine W_movePtr (by first | rfl | assumption) ?_; refine S_op ?_; refine W_field (by first | rfl | assumption) ?_; refine S_op ?_; refine W_loadM (by first | rfl | assumption) (by assumption) (by rfl) ?_; refine S_op ?_; refine W_field (by first | rfl | assumption) ?_; refine S_op ?_; refine W_loadM (by first | rfl | assumption) (by assumption) (by rfl) ?_; refine S_op ?_; refine W_field (by first | rfl | assumption) ?_; refine S_op ?_; refine W_loadM (by first | rfl | assumption) (by assumption) (by rfl) ?_)
            refine S_op ?_
            refine W_callW (by rfl) ((rCasA hS hr (by omega) (by omega) o.i o.old o.x).mono ?_)
            rintro v w ⟨rfl, hT, hr⟩
            replace hG := hT.growOwn hG hap.hb2 (own_base hap.hg2)
            replace hS := hG.sub
            replace hm := hap.first hm hT
            replace hm3 := hm3.turn hT (memS_not n3 n4)
            clear hT
            have hcs : (if casB ws o.i o.old then c + 1 else c) ≤ c + 1 := by split <;> omega
            generalize (if casB ws o.i o.old then c + 1 else c) = c5 at *
            generalize casB ws o.i o.old = cb at *
            (refine S_op ?_; refine W_moveTup (by first | rfl | assumption) ?_; refine S_op ?_; refine W_extract (by first | rfl | assumption) (by rfl) ?_; refine S_op ?_; refine W_extract (by first | rfl | assumption) (by rfl) ?_; refine S_op ?_; refine W_assignBool (by first | rfl | assumption) ?_; refine S_op ?_; refine W_assignInt (by first | rfl | assumption) ?_; refine S_nil ?_; refine CW_seq ?_; refine CW_region rfl ?_; refine S_op ?_; refine W_moveBool (by first | rfl | assumption) ?_; refine S_op ?_; refine W_moveBool (by first | rfl | assumption) ?_; refine S_op ?_; refine W_bneqF (by first | rfl | assumption) (by first | rfl | assumption) (by first | rfl | assumption) ?_; refine S_op ?_; refine W_moveBool (by first | rfl | assumption) ?_; refine S_want (by rfl) ?_; refine W_moveInt (by first | rfl | assumption) ?_; refine S_want (by rfl) ?_; refine W_moveInt (by first | rfl | assumption) ?_; refine S_want (by rfl) ?_; refine W_neqF (by first | rfl | assumption) (by first | rfl | assumption) (by first | omega | rfl) ?_; refine S_op ?_; refine W_pickF (by first | rfl | assumption) (by first | rfl | assumption) ?_; refine S_nil ?_; refine CW_false (by first | rfl | assumption) ?_; refine CW_skip ?_; refine CW_seq ?_)
            obtain ⟨s', hs'⟩ : ∃ k, k = s + thereN ws.length o.i := ⟨_, rfl⟩
            obtain ⟨c', hc'⟩ : ∃ k, k = c5 := ⟨_, rfl⟩
            rw [← hs', ← hc'] at hm hr
            obtain ⟨ws', hws'⟩ : ∃ k, k = casI ws o.i o.old o.x := ⟨_, rfl⟩
            rw [← hws'] at hm hr
            have hrc := hr.cell
            have htn := thereN_le ws.length o.i
            have hG0 := hG
            apply CW_region_grow [_, _, _, _, _, _, _, _, _, _, _, _, _, _, _, _] [none, none, none, none, none, none, none, none, none, none, none, none, none, none, none, none] [some 116, some 117, some 118, some 119, some 120, some 121, some 122, some 123, some 124, some 125, some 126, some 127, some 128, some 129, some 130, some 131] [116, 117, 118, 119, 120, 121, 122, 123, 124, 125, 126, 127, 128, 129, 130, 131] mixed rfl rfl rfl rfl (by decide) rfl (by assumption)
            · ((apply steps_cons; case h1 => (apply A_pure; intro c u H' w' hG; have hS' := hG.sub; have hS2' := hG.subOld; have hM0 := (hrc).grow hG; (repeat (first | refine depGo_eq rfl rfl rfl ?_ | (refine depGo_fact rfl rfl rfl ?_; intro v hv) | refine depGo_skip rfl ?_ | refine depGo_none rfl ?_)); apply Pure1.mk; intro K hk; exact W_movePtr (by first | rfl | assumption) hk)))
              apply steps_cons
              · refine A_fact (φ := fun v _ => v = .int .i64 (s' : Int)) ?_
                intro c' u H' w' hG'
                have hS' := hG'.sub
                (repeat (first | refine depGo_eq rfl rfl rfl ?_ | (refine depGo_fact rfl rfl rfl ?_; intro v hv) | refine depGo_skip rfl ?_ | refine depGo_none rfl ?_))
                refine depGo_nil ?_
                refine W_callW (by rfl) ((steps_Int hS' (hm.grow hG')).mono ?_)
                rintro v w3 ⟨rfl, rfl⟩
                exact ⟨H', HLe.refl _, hG', fun _ _ => rfl⟩
              ((apply steps_cons; case h1 => (apply A_pure; intro c u H' w' hG; have hS' := hG.sub; have hS2' := hG.subOld; have hM0 := (hrc).grow hG; (repeat (first | refine depGo_eq rfl rfl rfl ?_ | (refine depGo_fact rfl rfl rfl ?_; intro v hv) | refine depGo_skip rfl ?_ | refine depGo_none rfl ?_)); apply Pure1.mk; intro K hk; exact W_movePtr (by first | rfl | assumption) hk)); (apply steps_cons; case h1 => (apply A_pure; intro c u H' w' hG; have hS' := hG.sub; have hS2' := hG.subOld; have hM0 := (hrc).grow hG; (repeat (first | refine depGo_eq rfl rfl rfl ?_ | (refine depGo_fact rfl rfl rfl ?_; intro v hv) | refine depGo_skip rfl ?_ | refine depGo_none rfl ?_)); apply Pure1.mk; intro K hk; exact W_nilCheck (by first | rfl | assumption) hk)); (apply steps_cons; case h1 => (apply A_pure; intro c u H' w' hG; have hS' := hG.sub; have hS2' := hG.subOld; have hM0 := (hrc).grow hG; (repeat (first | refine depGo_eq rfl rfl rfl ?_ | (refine depGo_fact rfl rfl rfl ?_; intro v hv) | refine depGo_skip rfl ?_ | refine depGo_none rfl ?_)); apply Pure1.mk; intro K hk; exact W_field (by first | rfl | assumption) hk)); (apply steps_cons; case h1 => (apply A_pure; intro c u H' w' hG; have hS' := hG.sub; have hS2' := hG.subOld; have hM0 := (hrc).grow hG; (repeat (first | refine depGo_eq rfl rfl rfl ?_ | (refine depGo_fact rfl rfl rfl ?_; intro v hv) | refine depGo_skip rfl ?_ | refine depGo_none rfl ?_)); apply Pure1.mk; intro K hk; exact W_loadM (by first | rfl | assumption) (by assumption) (by rfl) hk)); (apply steps_cons; case h1 => (apply A_pure; intro c u H' w' hG; have hS' := hG.sub; have hS2' := hG.subOld; have hM0 := (hrc).grow hG; (repeat (first | refine depGo_eq rfl rfl rfl ?_ | (refine depGo_fact rfl rfl rfl ?_; intro v hv) | refine depGo_skip rfl ?_ | refine depGo_none rfl ?_)); apply Pure1.mk; intro K hk; exact W_neqF (by first | rfl | assumption) (by first | rfl | assumption) (by first | omega | rfl) hk)); (apply steps_cons; case h1 => (apply A_pure; intro c u H' w' hG; have hS' := hG.sub; have hS2' := hG.subOld; have hM0 := (hrc).grow hG; (repeat (first | refine depGo_eq rfl rfl rfl ?_ | (refine depGo_fact rfl rfl rfl ?_; intro v hv) | refine depGo_skip rfl ?_ | refine depGo_none rfl ?_)); apply Pure1.mk; intro K hk; exact W_moveBool (by first | rfl | assumption) hk)); (apply steps_cons; case h1 => (apply A_want; intro c u H' w' hG; have hS' := hG.sub; have hS2' := hG.subOld; have hM0 := (hrc).grow hG; (repeat (first | refine depGo_eq rfl rfl rfl ?_ | (refine depGo_fact rfl rfl rfl ?_; intro v hv) | refine depGo_skip rfl ?_ | refine depGo_none rfl ?_)); apply Pure2.mk; (case want => rfl); intro K hk; exact W_movePtr (by first | rfl | assumption) hk)))
              apply steps_cons
              · refine A_factG (φ := fun v _ => v = .int .i64 (c' : Int)) ?_
                intro c'' u H' w' hG'
                have hS' := hG'.sub
                (repeat (first | refine depGo_eq rfl rfl rfl ?_ | (refine depGo_fact rfl rfl rfl ?_; intro v hv) | refine depGo_skip rfl ?_ | refine depGo_none rfl ?_))
                refine depGo_nil ⟨rfl, ?_⟩
                refine W_callW (by rfl) ((changes_Int hS' (hm.grow hG')).mono ?_)
                rintro v w3 ⟨rfl, rfl⟩
                exact ⟨H', HLe.refl _, hG', fun _ _ => rfl⟩
              ((apply steps_cons; case h1 => (apply A_want; intro c u H' w' hG; have hS' := hG.sub; have hS2' := hG.subOld; have hM0 := (hrc).grow hG; (repeat (first | refine depGo_eq rfl rfl rfl ?_ | (refine depGo_fact rfl rfl rfl ?_; intro v hv) | refine depGo_skip rfl ?_ | refine depGo_none rfl ?_)); apply Pure2.mk; (case want => rfl); intro K hk; exact W_movePtr (by first | rfl | assumption) hk)); (apply steps_cons; case h1 => (apply A_want; intro c u H' w' hG; have hS' := hG.sub; have hS2' := hG.subOld; have hM0 := (hrc).grow hG; (repeat (first | refine depGo_eq rfl rfl rfl ?_ | (refine depGo_fact rfl rfl rfl ?_; intro v hv) | refine depGo_skip rfl ?_ | refine depGo_none rfl ?_)); apply Pure2.mk; (case want => rfl); intro K hk; exact W_nilCheck (by first | rfl | assumption) hk)); (apply steps_cons; case h1 => (apply A_want; intro c u H' w' hG; have hS' := hG.sub; have hS2' := hG.subOld; have hM0 := (hrc).grow hG; (repeat (first | refine depGo_eq rfl rfl rfl ?_ | (refine depGo_fact rfl rfl rfl ?_; intro v hv) | refine depGo_skip rfl ?_ | refine depGo_none rfl ?_)); apply Pure2.mk; (case want => rfl); intro K hk; exact W_field (by first | rfl | assumption) hk)); (apply steps_cons; case h1 => (apply A_want; intro c u H' w' hG; have hS' := hG.sub; have hS2' := hG.subOld; have hM0 := (hrc).grow hG; (repeat (first | refine depGo_eq rfl rfl rfl ?_ | (refine depGo_fact rfl rfl rfl ?_; intro v hv) | refine depGo_skip rfl ?_ | refine depGo_none rfl ?_)); apply Pure2.mk; (case want => rfl); intro K hk; exact W_loadM (by first | rfl | assumption) (by assumption) (by rfl) hk)); (apply steps_cons; case h1 => (apply A_want; intro c u H' w' hG; have hS' := hG.sub; have hS2' := hG.subOld; have hM0 := (hrc).grow hG; (repeat (first | refine depGo_eq rfl rfl rfl ?_ | (refine depGo_fact rfl rfl rfl ?_; intro v hv) | refine depGo_skip rfl ?_ | refine depGo_none rfl ?_)); apply Pure2.mk; (case want => rfl); intro K hk; exact W_neqF (by first | rfl | assumption) (by first | rfl | assumption) (by first | omega | rfl) hk)); (apply steps_cons; case h1 => (apply A_pure; intro c u H' w' hG; have hS' := hG.sub; have hS2' := hG.subOld; have hM0 := (hrc).grow hG; (repeat (first | refine depGo_eq rfl rfl rfl ?_ | (refine depGo_fact rfl rfl rfl ?_; intro v hv) | refine depGo_skip rfl ?_ | refine depGo_none rfl ?_)); apply Pure1.mk; intro K hk; exact W_pickF (by first | rfl | assumption) (by first | rfl | assumption) hk)); exact trivial)
            · (intro H' w' hG; (repeat (first | refine fin_eq rfl rfl ?_ | (refine fin_fact rfl ?_; intro v hv) | refine fin_none rfl ?_)); refine fin_nil ?_)
              replace hG0 := hG0.trans hG
              replace hm := hm.grow hG
              replace hr := hr.grow hG
              (refine CW_false (by first | rfl | assumption) ?_; refine CW_skip ?_; refine CW_region rfl ?_; refine S_op ?_; refine W_add1 (by first | rfl | assumption) (by omega) ?_; refine S_op ?_; refine W_moveInt (by first | rfl | assumption) ?_; refine S_nil ?_)
              exact ⟨(by repeat (first | exact AgreeOff.over | refine AgreeOff.upd rfl ?_ | refine AgreeOff.over2 rfl ?_)), m - 1, by omega, i + 1, ws', s', c', H', rfl, hG0, hm, hr, by omega, by omega, by omega, by omega, hle0.trans hG.le⟩
          · (refine S_nil ?_; refine CW_seq ?_; refine CW_seq ?_; refine CW_region rfl ?_; refine S_op ?_; refine W_field (by first | rfl | assumption) ?_; refine S_op ?_; refine W_loadM (by first | rfl | assumption) (by assumption) (by rfl) ?_; refine S_nil ?_; refine CW_block ?_; refine CW_seq ?_; refine CW_region rfl ?_; refine S_op ?_; refine W_eqlF (by first | rfl | assumption) (by first | rfl | assumption) (by first | omega | rfl) ?_; refine S_op ?_; refine W_assignBool (by first | rfl | assumption) ?_; refine S_nil ?_; refine CW_false (by first | rfl | assumption) ?_; refine CW_seq ?_; refine CW_region rfl ?_; refine S_op ?_; refine W_eqlF (by first | rfl | assumption) (by first | rfl | assumption) (by first | omega | rfl) ?_; refine S_op ?_; refine W_assignBool (by first | rfl | assumption) ?_; refine S_nil ?_; refine CW_false (by first | rfl | assumption) ?_; refine CW_seq ?_; refine CW_region rfl ?_; refine S_op ?_; refine W_eqlF (by first | rfl | assumption) (by first | rfl | assumption) (by first | omega | rfl) ?_; refine S_op ?_; refine W_assignBool (by first | rfl | assumption) ?_; refine S_nil ?_; refine CW_false (by first | rfl | assumption) ?_; refine CW_skip ?_; refine CW_seq ?_)
            obtain ⟨s', hs'⟩ : ∃ k, k = s := ⟨_, rfl⟩
            obtain ⟨c', hc'⟩ : ∃ k, k = c := ⟨_, rfl⟩
            rw [← hs', ← hc'] at hm hr
            obtain ⟨ws', hws'⟩ : ∃ k, k = ws := ⟨_, rfl⟩
            rw [← hws'] at hm hr
            have hrc := hr.cell
            have htn := thereN_le ws.length o.i
            have hG0 := hG
            apply CW_region_grow [_, _, _, _, _, _, _, _, _, _, _, _, _, _, _, _] [none, none, none, none, none, none, none, none, none, none, none, none, none, none, none, none] [some 116, some 117, some 118, some 119, some 120, some 121, some 122, some 123, some 124, some 125, some 126, some 127, some 128, some 129, some 130, some 131] [116, 117, 118, 119, 120, 121, 122, 123, 124, 125, 126, 127, 128, 129, 130, 131] mixed rfl rfl rfl rfl (by decide) rfl (by assumption)
            · ((apply steps_cons; case h1 => (apply A_pure; intro c u H' w' hG; have hS' := hG.sub; have hS2' := hG.subOld; have hM0 := (hrc).grow hG; (repeat (first | refine depGo_eq rfl rfl rfl ?_ | (refine depGo_fact rfl rfl rfl ?_; intro v hv) | refine depGo_skip rfl ?_ | refine depGo_none rfl ?_)); apply Pure1.mk; intro K hk; exact W_movePtr (by first | rfl | assumption) hk)))
              apply steps_cons
              · refine A_fact (φ := fun v _ => v = .int .i64 (s' : Int)) ?_
                intro c' u H' w' hG'
                have hS' := hG'.sub
                (repeat (first | refine depGo_eq rfl rfl rfl ?_ | (refine depGo_fact rfl rfl rfl ?_; intro v hv) | refine depGo_skip rfl ?_ | refine depGo_none rfl ?_))
                refine depGo_nil ?_
                refine W_callW (by rfl) ((steps_Int hS' (hm.grow hG')).mono ?_)
                rintro v w3 ⟨rfl, rfl⟩
                exact ⟨H', HLe.refl _, hG', fun _ _ => rfl⟩
              ((apply steps_cons; case h1 => (apply A_pure; intro c u H' w' hG; have hS' := hG.sub; have hS2' := hG.subOld; have hM0 := (hrc).grow hG; (repeat (first | refine depGo_eq rfl rfl rfl ?_ | (refine depGo_fact rfl rfl rfl ?_; intro v hv) | refine depGo_skip rfl ?_ | refine depGo_none rfl ?_)); apply Pure1.mk; intro K hk; exact W_movePtr (by first | rfl | assumption) hk)); (apply steps_cons; case h1 => (apply A_pure; intro c u H' w' hG; have hS' := hG.sub; have hS2' := hG.subOld; have hM0 := (hrc).grow hG; (repeat (first | refine depGo_eq rfl rfl rfl ?_ | (refine depGo_fact rfl rfl rfl ?_; intro v hv) | refine depGo_skip rfl ?_ | refine depGo_none rfl ?_)); apply Pure1.mk; intro K hk; exact W_nilCheck (by first | rfl | assumption) hk)); (apply steps_cons; case h1 => (apply A_pure; intro c u H' w' hG; have hS' := hG.sub; have hS2' := hG.subOld; have hM0 := (hrc).grow hG; (repeat (first | refine depGo_eq rfl rfl rfl ?_ | (refine depGo_fact rfl rfl rfl ?_; intro v hv) | refine depGo_skip rfl ?_ | refine depGo_none rfl ?_)); apply Pure1.mk; intro K hk; exact W_field (by first | rfl | assumption) hk)); (apply steps_cons; case h1 => (apply A_pure; intro c u H' w' hG; have hS' := hG.sub; have hS2' := hG.subOld; have hM0 := (hrc).grow hG; (repeat (first | refine depGo_eq rfl rfl rfl ?_ | (refine depGo_fact rfl rfl rfl ?_; intro v hv) | refine depGo_skip rfl ?_ | refine depGo_none rfl ?_)); apply Pure1.mk; intro K hk; exact W_loadM (by first | rfl | assumption) (by assumption) (by rfl) hk)); (apply steps_cons; case h1 => (apply A_pure; intro c u H' w' hG; have hS' := hG.sub; have hS2' := hG.subOld; have hM0 := (hrc).grow hG; (repeat (first | refine depGo_eq rfl rfl rfl ?_ | (refine depGo_fact rfl rfl rfl ?_; intro v hv) | refine depGo_skip rfl ?_ | refine depGo_none rfl ?_)); apply Pure1.mk; intro K hk; exact W_neqF (by first | rfl | assumption) (by first | rfl | assumption) (by first | omega | rfl) hk)); (apply steps_cons; case h1 => (apply A_pure; intro c u H' w' hG; have hS' := hG.sub; have hS2' := hG.subOld; have hM0 := (hrc).grow hG; (repeat (first | refine depGo_eq rfl rfl rfl ?_ | (refine depGo_fact rfl rfl rfl ?_; intro v hv) | refine depGo_skip rfl ?_ | refine depGo_none rfl ?_)); apply Pure1.mk; intro K hk; exact W_moveBool (by first | rfl | assumption) hk)); (apply steps_cons; case h1 => (apply A_want; intro c u H' w' hG; have hS' := hG.sub; have hS2' := hG.subOld; have hM0 := (hrc).grow hG; (repeat (first | refine depGo_eq rfl rfl rfl ?_ | (refine depGo_fact rfl rfl rfl ?_; intro v hv) | refine depGo_skip rfl ?_ | refine depGo_none rfl ?_)); apply Pure2.mk; (case want => rfl); intro K hk; exact W_movePtr (by first | rfl | assumption) hk)))
              apply steps_cons
              · refine A_factG (φ := fun v _ => v = .int .i64 (c' : Int)) ?_
                intro c'' u H' w' hG'
                have hS' := hG'.sub
                (repeat (first | refine depGo_eq rfl rfl rfl ?_ | (refine depGo_fact rfl rfl rfl ?_; intro v hv) | refine depGo_skip rfl ?_ | refine depGo_none rfl ?_))
                refine depGo_nil ⟨rfl, ?_⟩
                refine W_callW (by rfl) ((changes_Int hS' (hm.grow hG')).mono ?_)
                rintro v w3 ⟨rfl, rfl⟩
                exact ⟨H', HLe.refl _, hG', fun _ _ => rfl⟩
              ((apply steps_cons; case h1 => (apply A_want; intro c u H' w' hG; have hS' := hG.sub; have hS2' := hG.subOld; have hM0 := (hrc).grow hG; (repeat (first | refine depGo_eq rfl rfl rfl ?_ | (refine depGo_fact rfl rfl rfl ?_; intro v hv) | refine depGo_skip rfl ?_ | refine depGo_none rfl ?_)); apply Pure2.mk; (case want => rfl); intro K hk; exact W_movePtr (by first | rfl | assumption) hk)); (apply steps_cons; case h1 => (apply A_want; intro c u H' w' hG; have hS' := hG.sub; have hS2' := hG.subOld; have hM0 := (hrc).grow hG; (repeat (first | refine depGo_eq rfl rfl rfl ?_ | (refine depGo_fact rfl rfl rfl ?_; intro v hv) | refine depGo_skip rfl ?_ | refine depGo_none rfl ?_)); apply Pure2.mk; (case want => rfl); intro K hk; exact W_nilCheck (by first | rfl | assumption) hk)); (apply steps_cons; case h1 => (apply A_want; intro c u H' w' hG; have hS' := hG.sub; have hS2' := hG.subOld; have hM0 := (hrc).grow hG; (repeat (first | refine depGo_eq rfl rfl rfl ?_ | (refine depGo_fact rfl rfl rfl ?_; intro v hv) | refine depGo_skip rfl ?_ | refine depGo_none rfl ?_)); apply Pure2.mk; (case want => rfl); intro K hk; exact W_field (by first | rfl | assumption) hk)); (apply steps_cons; case h1 => (apply A_want; intro c u H' w' hG; have hS' := hG.sub; have hS2' := hG.subOld; have hM0 := (hrc).grow hG; (repeat (first | refine depGo_eq rfl rfl rfl ?_ | (refine depGo_fact rfl rfl rfl ?_; intro v hv) | refine depGo_skip rfl ?_ | refine depGo_none rfl ?_)); apply Pure2.mk; (case want => rfl); intro K hk; exact W_loadM (by first | rfl | assumption) (by assumption) (by rfl) hk)); (apply steps_cons; case h1 => (apply A_want; intro c u H' w' hG; have hS' := hG.sub; have hS2' := hG.subOld; have hM0 := (hrc).grow hG; (repeat (first | refine depGo_eq rfl rfl rfl ?_ | (refine depGo_fact rfl rfl rfl ?_; intro v hv) | refine depGo_skip rfl ?_ | refine depGo_none rfl ?_)); apply Pure2.mk; (case want => rfl); intro K hk; exact W_neqF (by first | rfl | assumption) (by first | rfl | assumption) (by first | omega | rfl) hk)); (apply steps_cons; case h1 => (apply A_pure; intro c u H' w' hG; have hS' := hG.sub; have hS2' := hG.subOld; have hM0 := (hrc).grow hG; (repeat (first | refine depGo_eq rfl rfl rfl ?_ | (refine depGo_fact rfl rfl rfl ?_; intro v hv) | refine depGo_skip rfl ?_ | refine depGo_none rfl ?_)); apply Pure1.mk; intro K hk; exact W_pickF (by first | rfl | assumption) (by first | rfl | assumption) hk)); exact trivial)
            · (intro H' w' hG; (repeat (first | refine fin_eq rfl rfl ?_ | (refine fin_fact rfl ?_; intro v hv) | refine fin_none rfl ?_)); refine fin_nil ?_)
              replace hG0 := hG0.trans hG
              replace hm := hm.grow hG
              replace hr := hr.grow hG
              (refine CW_false (by first | rfl | assumption) ?_; refine CW_skip ?_; refine CW_region rfl ?_; refine S_op ?_; refine W_add1 (by first | rfl | assumption) (by omega) ?_; refine S_op ?_; refine W_moveInt (by first | rfl | assumption) ?_; refine S_nil ?_)
              exact ⟨(by repeat (first | exact AgreeOff.over | refine AgreeOff.upd rfl ?_ | refine AgreeOff.over2 rfl ?_)), m - 1, by omega, i + 1, ws', s', c', H', rfl, hG0, hm, hr, by omega, by omega, by omega, by omega, hle0.trans hG.le⟩
    · have hlen : (ws.map vI).length = ws.length := by simp
      have hrc := hr.cell
      rw [hlen] at hrc
      (refine CW_seq ?_; refine CW_region rfl ?_; refine S_op ?_; refine W_lssF (by first | rfl | assumption) (by first | rfl | assumption) (by first | omega | rfl) ?_; refine S_nil ?_; refine CW_seq ?_; refine CW_false (by first | rfl | assumption) ?_; refine CW_exit ?_; refine CW_seq ?_; refine CW_seq ?_; refine CW_region rfl ?_; refine S_op ?_; refine W_movePtr (by first | rfl | assumption) ?_; refine S_op ?_; refine W_nilCheck (by first | rfl | assumption) ?_; refine S_op ?_; refine W_field (by first | rfl | assumption) ?_; refine S_op ?_; refine W_loadM (by first | rfl | assumption) (by assumption) (by rfl) ?_; refine S_op ?_; refine W_len (by first | rfl | assumption) ?_; refine S_op ?_; refine W_moveInt (by first | rfl | assumption) ?_; refine S_nil ?_; refine CW_block ?_)
      clear hrc
      refine CW_loopM [4, 17, 18, 19, 138, 139, 140, 141, 142, 143, 144, 145, 146, 147, 148, 149, 150, 151, 152, 153, 154, 155, 156, 157, 158, 159, 160, 161, 162]
        (fun m u w2 => ∃ (q s' : Nat), u 138 = .int .i64 (q : Int) ∧ Grow H0 w0 H w2 ∧ IsMem H w2 b (some ⟨g, 0, none⟩) (ws.map vI) s' c ∧ IsMem H w2 b2 (some ⟨g2, 0, none⟩) (ws.map vI) s c ∧ q ≤ ws.length ∧ ws.length - q ≤ m ∧ s' ≤ s + q ∧ q ≤ 64)
        (m := ws.length) ⟨0, s, rfl, hG, hm, hr, by omega, by omega, by omega, by omega⟩ ?_
      clear hm hr hG
      rintro m u w ⟨q, s', h138, hG, hm, hr, hq, hmm2, hss, hq64⟩
      replace hS := hG.sub
      by_cases hlt2 : q < ws.length
      · by_cases h64 : q < 64
        · (refine CW_seq ?_; refine CW_region rfl ?_; refine S_op ?_; refine W_lssT (by first | rfl | assumption) (by first | rfl | assumption) (by first | omega | rfl) ?_; refine S_nil ?_; refine CW_seq ?_; refine CW_true (by first | rfl | assumption) ?_; refine CW_skip ?_; refine CW_seq ?_; refine CW_block ?_; refine CW_seq ?_; refine CW_region rfl ?_; refine S_op ?_; refine W_moveInt (by first | rfl | assumption) ?_; refine S_op ?_; refine W_assignInt (by first | rfl | assumption) ?_; refine S_nil ?_; refine CW_seq ?_; refine CW_seq ?_; refine CW_region rfl ?_; refine S_op ?_; refine W_moveInt (by first | rfl | assumption) ?_; refine S_op ?_; refine W_geqF (by first | rfl | assumption) (by first | rfl | assumption) (by first | omega | rfl) ?_; refine S_nil ?_; refine CW_false (by first | rfl | assumption) ?_; refine CW_skip ?_; refine CW_seq ?_; refine CW_region rfl ?_; refine S_op ?_; refine W_movePtr (by first | rfl | assumption) ?_; refine S_op ?_; refine W_moveInt (by first | rfl | assumption) ?_)
          refine S_op ?_
          refine W_callW (by rfl) ((load_yes_Int hS hm q hlt2 (by omega)).mono ?_)
          rintro v w ⟨rfl, hT, hm⟩
          replace hG := hT.growOwn hG hap.hb (own_base hap.hg)
          replace hS := hG.sub
          replace hr := hap.second hr hT
          clear hT
          have hrc := hr.cell
          rw [hlen] at hrc
          obtain ⟨g', hA', _, hrw⟩ := hr.wordRow (q := q) (by simpa using hlt2)
          cases hA'
          simp only [vI]
          (refine S_op ?_; refine W_moveTup (by first | rfl | assumption) ?_; refine S_op ?_; refine W_extract (by first | rfl | assumption) (by rfl) ?_; refine S_op ?_; refine W_extract (by first | rfl | assumption) (by rfl) ?_; refine S_op ?_; refine W_assignInt (by first | rfl | assumption) ?_; refine S_op ?_; refine W_assignInt (by first | rfl | assumption) ?_; refine S_nil ?_; refine CW_seq ?_; refine CW_region rfl ?_; refine S_op ?_; refine W_moveInt (by first | rfl | assumption) ?_; refine S_op ?_; refine W_movePtr (by first | rfl | assumption) ?_; refine S_op ?_; refine W_nilCheck (by first | rfl | assumption) ?_; refine S_op ?_; refine W_field (by first | rfl | assumption) ?_; refine S_op ?_; refine W_loadM (by first | rfl | assumption) (by assumption) (by rfl) ?_; refine S_op ?_; refine W_moveInt (by first | rfl | assumption) ?_; refine S_op ?_; refine W_index (by first | rfl | assumption) (by first | rfl | assumption) (by first | assumption | omega | decide) (by first | rfl | assumption) ?_)
          refine S_op ?_
          refine W_loadM (o := 0 + q * 1) (by rfl) hrw (by have := nth_get hlt2 vI; simpa using this) ?_
          simp only [vI]
          (refine S_op ?_; refine W_neqF (by first | rfl | assumption) (by first | rfl | assumption) (by first | omega | rfl) ?_; refine S_op ?_; refine W_moveBool (by first | rfl | assumption) ?_; refine S_want (by rfl) ?_; refine W_moveInt (by first | rfl | assumption) ?_; refine S_want (by rfl) ?_; refine W_neqF (by first | rfl | assumption) (by first | rfl | assumption) (by first | omega | rfl) ?_; refine S_op ?_; refine W_pickF (by first | rfl | assumption) (by first | rfl | assumption) ?_; refine S_nil ?_; refine CW_false (by first | rfl | assumption) ?_; refine CW_skip ?_; refine CW_region rfl ?_; refine S_op ?_; refine W_add1 (by first | rfl | assumption) (by omega) ?_; refine S_op ?_; refine W_moveInt (by first | rfl | assumption) ?_; refine S_nil ?_)
          exact ⟨(by repeat (first | exact AgreeOff.over | refine AgreeOff.upd rfl ?_ | refine AgreeOff.over2 rfl ?_)), m - 1, by omega, q + 1, s' + 1, rfl, hG, hm, hr, by omega, by omega, by omega, by omega⟩
        · (refine CW_seq ?_; refine CW_region rfl ?_; refine S_op ?_; refine W_lssT (by first | rfl | assumption) (by first | rfl | assumption) (by first | omega | rfl) ?_; refine S_nil ?_; refine CW_seq ?_; refine CW_true (by first | rfl | assumption) ?_; refine CW_skip ?_; refine CW_seq ?_; refine CW_block ?_; refine CW_seq ?_; refine CW_region rfl ?_; refine S_op ?_; refine W_moveInt (by first | rfl | assumption) ?_; refine S_op ?_; refine W_assignInt (by first | rfl | assumption) ?_; refine S_nil ?_; refine CW_seq ?_; refine CW_seq ?_; refine CW_region rfl ?_; refine S_op ?_; refine W_moveInt (by first | rfl | assumption) ?_; refine S_op ?_; refine W_geqT (by first | rfl | assumption) (by first | rfl | assumption) (by first | omega | rfl) ?_; refine S_nil ?_; refine CW_true (by first | rfl | assumption) ?_; refine CW_exit ?_; refine CW_seq ?_; refine CW_region rfl ?_; refine S_op ?_; refine W_assignBool (by first | rfl | assumption) ?_; refine S_nil ?_; refine CW_ret ?_)
          exact ⟨_, ResW_one (v := .bool _) rfl, H, hG, rfl⟩
      · (refine CW_seq ?_; refine CW_region rfl ?_; refine S_op ?_; refine W_lssF (by first | rfl | assumption) (by first | rfl | assumption) (by first | omega | rfl) ?_; refine S_nil ?_; refine CW_seq ?_; refine CW_false (by first | rfl | assumption) ?_; refine CW_exit ?_; refine CW_seq ?_; refine CW_region rfl ?_; refine S_op ?_; refine W_assignBool (by first | rfl | assumption) ?_; refine S_nil ?_; refine CW_ret ?_)
        exact ⟨_, ResW_one (v := .bool _) rfl, H, hG, rfl⟩
end Go.Proofs.Ytaimilhkfmpdoaa
