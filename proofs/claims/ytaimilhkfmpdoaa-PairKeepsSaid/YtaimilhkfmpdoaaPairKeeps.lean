/- PairKeeps: it answers true. Conditions: sizes. -/
import Derived.Test.YtaimilhkfmpdoaaBuilt
import Derived.Test.YtaimilhkfmpdoaaCopy
namespace Go.Proofs.Ytaimilhkfmpdoaa
open Go.Proofs Go.RowKit
set_option linter.unusedVariables false
attribute [local irreducible] CW SeqW OpW
set_option maxHeartbeats 8000000
/-- A slice of entries that may be written. -/
def Rw (H : HF) (w : World) (B : Nat) (A : Option Addr) (n cap : Nat) : Prop := n = 0 ∨ ∃ g cs, A = some ⟨g, 0, none⟩ ∧ B ≤ g ∧ Mut H w g cs ∧ cs.length = cap * 2 ∧ n ≤ cap
theorem Rw.grow {H H' : HF} {w w' : World} {B : Nat} {A : Option Addr} {n cap : Nat} (h : Rw H w B A n cap) (hg : Grow H w H' w') : Rw H' w' B A n cap := by
  rcases h with h | ⟨g, cs, h1, h2, h3, h4⟩
  · exact .inl h
  · exact .inr ⟨g, cs, h1, h2, h3.grow hg, h4⟩
theorem Rw.other {H : HF} {w w' : World} {B : Nat} {A : Option Addr} {n cap b : Nat} (h : Rw H w B A n cap) (hg : w.grownBy w' (some b)) (hne : ∀ a, A = some a → a.block ≠ b) : Rw H w' B A n cap := by
  rcases h with h | ⟨g, cs, h1, h2, h3, h4⟩
  · exact .inl h
  · exact .inr ⟨g, cs, h1, h2, h3.other hg (fun e => hne _ h1 (by cases e; rfl)), h4⟩
theorem Own.rw {H : HF} {w : World} {B : Nat} {E : TypeId} {A : Option Addr} {n cap : Nat} {xs : List Value} (h : Own H w B E 2 A n cap xs) : Rw H w B A n cap := by
  rcases Nat.eq_zero_or_pos n with h0 | h0
  · exact .inl h0
  · obtain ⟨g, cs, h1, h2, h3, _, h5⟩ := h.mutL h0
    exact .inr ⟨g, cs, h1, h2, h3, h5, h.cap⟩
theorem drop_two {l : List Value} {o : Nat} {a b : Value} (h1 : l[o]? = some a) (h2 : l[o + 1]? = some b) : (l.drop o).take 2 = [a, b] := by
  have e1 : o < l.length := (List.getElem?_eq_some_iff.1 h1).1
  have e2 : o + 1 < l.length := (List.getElem?_eq_some_iff.1 h2).1
  rw [List.drop_eq_getElem_cons e1, List.take_succ_cons, List.drop_eq_getElem_cons e2, List.take_succ_cons]
  rw [List.getElem?_eq_getElem e1] at h1
  rw [List.getElem?_eq_getElem e2] at h2
  simp only [Option.some.injEq] at h1 h2
  rw [h1, h2]; simp
/-- The room: entries, and zeros behind them. -/
def roomC (a : List Ent) : List Value := splice ((madeCells (Value.agg #[.string ⟨#[]⟩, .string ⟨#[]⟩]).cells ((a.length + 3) * 2)).toList) 0 (entCells a)
theorem roomC_eq (a : List Ent) : roomC a = entCells a ++ ((madeCells (Value.agg #[.string ⟨#[]⟩, .string ⟨#[]⟩]).cells ((a.length + 3) * 2)).toList).drop (a.length * 2) := by
  unfold roomC splice
  rw [List.take_zero, List.nil_append, Nat.zero_add, entCells_length]
theorem roomC_len (a : List Ent) : (roomC a).length = (a.length + 3) * 2 := by
  rw [roomC_eq, List.length_append, entCells_length, List.length_drop, madeCells_len]; omega
theorem roomC_take (a : List Ent) : (roomC a).take (a.length * 2) = entCells a := by
  rw [roomC_eq, List.take_left' (entCells_length a)]
theorem roomC_zero {a : List Ent} {i : Nat} (h1 : a.length ≤ i) (h2 : i < a.length + 3) : ((roomC a).drop (i * 2)).take 2 = [.string ⟨#[]⟩, .string ⟨#[]⟩] := by
  have key : ∀ j, a.length * 2 ≤ j → j < (a.length + 3) * 2 → (roomC a)[j]? = some (.string ⟨#[]⟩) := by
    intro j hj1 hj2
    rw [roomC_eq, List.getElem?_append_right (by rw [entCells_length]; omega), List.getElem?_drop, entCells_length, show a.length * 2 + (j - a.length * 2) = j by omega, madeCells_get _ _ _ hj2]
    congr 1
    have hm : j % 2 = 0 ∨ j % 2 = 1 := by omega
    show (#[Value.string ⟨#[]⟩, Value.string ⟨#[]⟩] : Array Value)[j % 2]! = _
    rcases hm with h | h <;> rw [h] <;> rfl
  exact drop_two (key _ (by omega) (by omega)) (key _ (by omega) (by omega))
theorem room_lend {H : HF} {b : Nat} {a : List Ent} {o : Obj} (h : SlAt (ins H b o) (some ⟨b, 0, none⟩) (roomC a)) : EntsAt (ins H b o) (some ⟨b, 0, none⟩) a := by
  unfold EntsAt; rw [← roomC_take]; exact h.take _
theorem with_lent {H : HF} {w : World} {b : Nat} {a : List Ent} (e : Ent) (hS : Sub H w) (hm : Mut H w b (roomC a)) (hb : a.length ≤ 1000000) :
    CallW Try.prog 41 #[.slice (some ⟨b, 0, none⟩) a.length (a.length + 3), .agg #[.string e.key, .string e.val]] w fun v w' => ∃ H', Grow H w H' w' ∧ IsNew H 62 2 v (withL a e).length (entCells (withL a e)) H' := by
  refine (CallW.lent (args := [.slice (some ⟨b, 0, none⟩) a.length (a.length + 3), .agg #[.string e.key, .string e.val]]) (R := fun o v H3 => IsNew (ins H b o) 62 2 v (withL a e).length (entCells (withL a e)) H3) hS hm ?_).mono ?_
  · intro o _ h
    exact withN_c (ins H b o) (some ⟨b, 0, none⟩) (a.length + 3) a e (room_lend h) (by omega) hb
  · rintro v w' ⟨o, H3, hle3, hG3, hn3⟩
    exact ⟨_, hG3, hn3.lent (HLe.ins hm.out) (fun x hx2 => del_other (by intro e2; subst e2; rw [ins_self] at hx2; cases hx2))⟩
theorem without_lent {H : HF} {w : World} {b : Nat} {a : List Ent} (key : ByteArray) (hS : Sub H w) (hm : Mut H w b (roomC a)) (hb : a.length ≤ 1000000) :
    CallW Try.prog 42 #[.slice (some ⟨b, 0, none⟩) a.length (a.length + 3), .string key] w fun v w' => ∃ H' s, Grow H w H' w' ∧ v = .tuple #[s, .bool (findIs a key)] ∧ IsNew H 62 2 s (withoutL a key).length (entCells (withoutL a key)) H' := by
  refine (CallW.lent (args := [.slice (some ⟨b, 0, none⟩) a.length (a.length + 3), .string key]) (R := fun o v H3 => ∃ s, v = .tuple #[s, .bool (findIs a key)] ∧ IsNew (ins H b o) 62 2 s (withoutL a key).length (entCells (withoutL a key)) H3) hS hm ?_).mono ?_
  · intro o _ h
    exact withoutN_c (ins H b o) (some ⟨b, 0, none⟩) (a.length + 3) a key (room_lend h) (by omega) hb
  · rintro v w' ⟨o, H3, hle3, hG3, s, h1, hn3⟩
    exact ⟨_, s, hG3, h1, hn3.lent (HLe.ins hm.out) (fun x hx2 => del_other (by intro e2; subst e2; rw [ins_self] at hx2; cases hx2))⟩
theorem same_lent {H : HF} {w : World} {b c : Nat} {A : Option Addr} {a : List Ent} (hS : Sub H w) (hm : Mut H w b (roomC a)) (ha : EntsAt H A a) (hb : a.length ≤ 1000000) :
    CallW Try.prog 45 #[.slice (some ⟨b, 0, none⟩) a.length (a.length + 3), .slice A a.length c] w fun v w' => ∃ H', Grow H w H' w' ∧ v = .bool true := by
  refine (CallW.lent (args := [.slice (some ⟨b, 0, none⟩) a.length (a.length + 3), .slice A a.length c]) (R := fun o v H3 => v = .bool true) hS hm ?_).mono ?_
  · intro o _ h
    exact (same_c (ins H b o) (some ⟨b, 0, none⟩) A (a.length + 3) c a a (room_lend h) (ha.mono (HLe.ins hm.out)) hb).mono (fun v _ _ h => by rw [h]; simp)
  · rintro v w' ⟨o, H3, hle3, hG3, h1⟩
    exact ⟨_, hG3, h1⟩
theorem pairKeeps_c (H0 : HF) (A : Option Addr) (c : Nat) (l : List Ent) (e : Ent) (hl : EntsAt H0 A l) (hc : l.length ≤ c) (hb : l.length ≤ 100000000000000) (hs : Small l) (he : SmallE e) :
    Fn Try.prog 12 [.slice A l.length c, .agg #[.string e.key, .string e.val]] H0 fun v _ => v = .bool true := by
  obtain ⟨he1, he2⟩ := he
  simp only [reachBytes] at he1 he2
  refine Fn_of_CW Try.func12 rfl Try.ntmps12 Try.results12 rfl fun w0 hS => ?_; have hG := Grow.refl hS
  (refine CW_seq ?_; refine CW_region rfl ?_)
  (refine S_op (W_boxAgg hS (by rfl) ?_)); intro H w _ hG' hx; replace hG := hG.trans hG'; replace hS := hG'.sub; replace hl := hl.mono hG'.le; clear hG'
  (refine S_op ?_; refine W_assignBool (by first | rfl | assumption) ?_; refine S_nil ?_; refine CW_seq ?_; refine CW_seq ?_; refine CW_region rfl ?_)
  (refine S_op ?_; refine W_call hS (by rfl) (awake_c H) ?_); rintro v H w hG' rfl; replace hG := hG.trans hG'; replace hS := hG'.sub; replace hl := hl.mono hG'.le; replace hx := hG'.le _ _ hx; clear hG'
  (refine S_op ?_; refine W_not (by first | rfl | assumption) ?_; refine S_op ?_; refine W_moveBool (by first | rfl | assumption) ?_; refine S_want (by rfl) ?_; refine W_moveSl (by first | rfl | assumption) ?_)
  (refine S_want (by rfl) ?_; refine W_call hS (by rfl) (few_c H A c l hl hb hs) ?_); rintro v H w hG' rfl; replace hG := hG.trans hG'; replace hS := hG'.sub; replace hl := hl.mono hG'.le; replace hx := hG'.le _ _ hx; clear hG'
  cases hf : fewB l with
  | false =>
    skip
    (refine S_want (by rfl) ?_; refine W_not (by first | rfl | assumption) ?_; refine S_op ?_; refine W_pickF (by first | rfl | assumption) (by first | rfl | assumption) ?_; refine S_op ?_; refine W_moveBool (by first | rfl | assumption) ?_; refine S_pass (by rfl) ?_; refine S_pass (by rfl) ?_; refine S_pass (by rfl) ?_; refine S_pass (by rfl) ?_; refine S_pass (by rfl) ?_; refine S_pass (by rfl) ?_; refine S_pass (by rfl) ?_; refine S_pass (by rfl) ?_; refine S_op ?_; refine W_pickT (by first | rfl | assumption) (by first | rfl | assumption) ?_; refine S_nil ?_; refine CW_true (by first | rfl | assumption) ?_; refine CW_seq ?_; refine CW_region rfl ?_)
    (refine S_op ?_; refine W_call hS (by rfl) (awake_c H) ?_); rintro v H w hG' rfl; replace hG := hG.trans hG'; replace hS := hG'.sub; clear hG'
    (refine S_op ?_; refine W_assignBool (by first | rfl | assumption) ?_; refine S_nil ?_; refine CW_ret ?_)
    exact ⟨_, ResW_one (v := .bool _) rfl, H, hG, rfl⟩
  | true =>
    have hlen := fewB_le hf
    by_cases hbig : 2000 < e.key.size + e.val.size
    · skip
      (refine S_want (by rfl) ?_; refine W_not (by first | rfl | assumption) ?_; refine S_op ?_; refine W_pickF (by first | rfl | assumption) (by first | rfl | assumption) ?_; refine S_op ?_; refine W_moveBool (by first | rfl | assumption) ?_; refine S_want (by rfl) ?_; refine W_field (by first | rfl | assumption) ?_; refine S_want (by rfl) ?_; refine W_loadHL (by first | rfl | assumption) (by assumption) (by rfl) (by assumption) ?_; refine S_want (by rfl) ?_; refine W_lenS (by first | rfl | assumption) ?_; refine S_want (by rfl) ?_; refine W_field (by first | rfl | assumption) ?_; refine S_want (by rfl) ?_; refine W_loadHL (by first | rfl | assumption) (by assumption) (by rfl) (by assumption) ?_; refine S_want (by rfl) ?_; refine W_lenS (by first | rfl | assumption) ?_; refine S_want (by rfl) ?_; refine W_addN (by first | rfl | assumption) (by first | rfl | assumption) (by omega) ?_; refine S_want (by rfl) ?_; refine W_gtrT (by first | rfl | assumption) (by first | rfl | assumption) (by first | omega | rfl) ?_; refine S_op ?_; refine W_pickF (by first | rfl | assumption) (by first | rfl | assumption) ?_; refine S_nil ?_; refine CW_true (by first | rfl | assumption) ?_; refine CW_seq ?_; refine CW_region rfl ?_)
      (refine S_op ?_; refine W_call hS (by rfl) (awake_c H) ?_); rintro v H w hG' rfl; replace hG := hG.trans hG'; replace hS := hG'.sub; clear hG'
      (refine S_op ?_; refine W_assignBool (by first | rfl | assumption) ?_; refine S_nil ?_; refine CW_ret ?_)
      exact ⟨_, ResW_one (v := .bool _) rfl, H, hG, rfl⟩
    · (refine S_want (by rfl) ?_; refine W_not (by first | rfl | assumption) ?_; refine S_op ?_; refine W_pickF (by first | rfl | assumption) (by first | rfl | assumption) ?_; refine S_op ?_; refine W_moveBool (by first | rfl | assumption) ?_; refine S_want (by rfl) ?_; refine W_field (by first | rfl | assumption) ?_; refine S_want (by rfl) ?_; refine W_loadHL (by first | rfl | assumption) (by assumption) (by rfl) (by assumption) ?_; refine S_want (by rfl) ?_; refine W_lenS (by first | rfl | assumption) ?_; refine S_want (by rfl) ?_; refine W_field (by first | rfl | assumption) ?_; refine S_want (by rfl) ?_; refine W_loadHL (by first | rfl | assumption) (by assumption) (by rfl) (by assumption) ?_; refine S_want (by rfl) ?_; refine W_lenS (by first | rfl | assumption) ?_; refine S_want (by rfl) ?_; refine W_addN (by first | rfl | assumption) (by first | rfl | assumption) (by omega) ?_; refine S_want (by rfl) ?_; refine W_gtrF (by first | rfl | assumption) (by first | rfl | assumption) (by first | omega | rfl) ?_; refine S_op ?_; refine W_pickF (by first | rfl | assumption) (by first | rfl | assumption) ?_; refine S_nil ?_; refine CW_false (by first | rfl | assumption) ?_; refine CW_skip ?_; refine CW_seq ?_; refine CW_region rfl ?_; refine S_op ?_; refine W_moveSl (by first | rfl | assumption) ?_)
      (refine S_op ?_; refine W_call hS (by rfl) (built_c H A c l hl (by omega)) ?_); rintro v H w hG' ⟨A3, c3, rfl, hc3, ha⟩; replace hG := hG.trans hG'; replace hS := hG'.sub; replace hx := hG'.le _ _ hx; clear hG'
      have hbl := built_length l
      generalize builtL l = a at *
      (refine S_op ?_; refine W_assignSl (by first | rfl | assumption) ?_; refine S_nil ?_; refine CW_seq ?_; refine CW_region rfl ?_; refine S_op ?_; refine W_moveSl (by first | rfl | assumption) ?_; refine S_op ?_; refine W_len (by first | rfl | assumption) ?_; refine S_op ?_; refine W_moveSl (by first | rfl | assumption) ?_; refine S_op ?_; refine W_len (by first | rfl | assumption) ?_; refine S_op ?_; refine W_add3 (by first | rfl | assumption) (by omega) ?_)
      refine S_op ?_
      refine W_make (l := a.length) (c := a.length + 3) hS (by rfl) (by rfl) (by omega) (by omega) (by omega) rfl ?_
      intro w b hG' hb9 hm0
      have hbB : w0.heap.size ≤ b := by rw [← hb9]; exact hG.below.size
      replace hG := hG.trans hG'
      replace hS := hG'.sub
      replace ha := ha.mono hG'.le
      replace hx := hG'.le _ _ hx
      clear hG' hb9
      (refine S_op ?_; refine W_assignSl (by first | rfl | assumption) ?_; refine S_nil ?_; refine CW_seq ?_; refine CW_region rfl ?_; refine S_op ?_; refine W_moveSl (by first | rfl | assumption) ?_; refine S_op ?_; refine W_moveSl (by first | rfl | assumption) ?_)
      refine S_op ?_
      refine W_copyM (vs := entCells a) (by rfl) (by rfl) hm0 (ha.cells hS) (entCells_length a) ?_ (Nat.le_refl _) (by rw [madeCells_len, entCells_length]; omega) (entCells_one a) ?_
      · intro h
        rcases ha with h1 | ⟨_, _, h1, _⟩
        · have := entCells_length a; rw [h1] at this; simp at this; omega
        · rw [h] at h1; cases h1
      intro w hgb hm1
      replace hm1 : Mut H w b (roomC a) := hm1
      replace hG := hG.grownBy hgb (fun g h => by cases h; exact ⟨hm0.out, hbB⟩)
      replace hS := hG.sub
      clear hgb hm0
      have hm := hm1
      clear hm1
      (refine S_nil ?_; refine CW_seq ?_; refine CW_region rfl ?_; refine S_op ?_; refine W_moveSl (by first | rfl | assumption) ?_; refine S_op ?_; refine W_loadWhole (by first | rfl | assumption) (by assumption) (by rfl) (by assumption) ?_)
      -- With
      refine S_op ?_
      refine W_callW (by rfl) ((with_lent e hS hm (by omega)).mono ?_)
      rintro v w ⟨H3, hG3, hn3⟩
      have hbw := hm.lt
      obtain ⟨H, Ax, cx, _, hG', rfl, hox⟩ := hn3.thaw hG3
      have hxr : ∀ q, Ax = some q → b < q.block ∧ q.block < w.heap.size := fun q hq => by have := hox.block hq; omega
      replace hox := hox.base hG.below.size
      clear hn3 hG3
      replace hm := hm.grow hG'
      replace hG := hG.trans hG'
      replace hS := hG'.sub
      replace ha := ha.mono hG'.le
      replace hx := hG'.le _ _ hx
      clear hG'
      generalize hN1 : w.heap.size = N1 at hxr
      (refine S_op ?_; refine W_assignSl (by first | rfl | assumption) ?_; refine S_nil ?_; refine CW_seq ?_; refine CW_region rfl ?_; refine S_op ?_; refine W_moveSl (by first | rfl | assumption) ?_; refine S_op ?_; refine W_field (by first | rfl | assumption) ?_; refine S_op ?_; refine W_loadHL (by first | rfl | assumption) (by assumption) (by rfl) (by assumption) ?_)
      -- Without
      refine S_op ?_
      refine W_callW (by rfl) ((without_lent e.key hS hm (by omega)).mono ?_)
      rintro v w ⟨H3, s, hG3, rfl, hn3⟩
      have hbw2 := hm.lt
      obtain ⟨H, Ay, cy, _, hG', rfl, hoy⟩ := hn3.thaw hG3
      have hN12 : N1 ≤ w.heap.size := by have := hG'.below.size; omega
      have hyr : ∀ q, Ay = some q → N1 ≤ q.block ∧ q.block < w.heap.size := fun q hq => by have := hoy.block hq; omega
      replace hoy := hoy.base hG.below.size
      clear hn3 hG3
      replace hox := hox.grow hG'
      replace hm := hm.grow hG'
      replace hG := hG.trans hG'
      replace hS := hG'.sub
      replace ha := ha.mono hG'.le
      replace hx := hG'.le _ _ hx
      clear hG'
      generalize hN2 : w.heap.size = N2 at hyr hN12
      (refine S_op ?_; refine W_moveTup (by first | rfl | assumption) ?_; refine S_op ?_; refine W_extract (by first | rfl | assumption) (by rfl) ?_; refine S_op ?_; refine W_extract (by first | rfl | assumption) (by rfl) ?_; refine S_op ?_; refine W_assignSl (by first | rfl | assumption) ?_; refine S_op ?_; refine W_assignBool (by first | rfl | assumption) ?_; refine S_nil ?_; refine CW_seq ?_; refine CW_region rfl ?_; refine S_op ?_; refine W_moveSl (by first | rfl | assumption) ?_; refine S_op ?_; refine W_field (by first | rfl | assumption) ?_; refine S_op ?_; refine W_loadHL (by first | rfl | assumption) (by assumption) (by rfl) (by assumption) ?_)
      refine S_op (W_sadd (by rfl) (by rfl) (by show e.key.size + 1 ≤ _; omega) ?_)
      -- Without another one
      refine S_op ?_
      refine W_callW (by rfl) ((without_lent (e.key ++ ⟨#[120]⟩) hS hm (by omega)).mono ?_)
      rintro v w ⟨H3, s, hG3, rfl, hn3⟩
      have hbw3 := hm.lt
      obtain ⟨H, Az, cz, _, hG', rfl, hoz⟩ := hn3.thaw hG3
      have hzr : ∀ q, Az = some q → N2 ≤ q.block := fun q hq => by have := hoz.block hq; omega
      replace hoz := hoz.base hG.below.size
      clear hn3 hG3
      replace hox := hox.grow hG'
      replace hoy := hoy.grow hG'
      replace hm := hm.grow hG'
      replace hG := hG.trans hG'
      replace hS := hG'.sub
      replace ha := ha.mono hG'.le
      clear hG' hx
      have hkx := hox.rw
      have hky := hoy.rw
      have hkz := hoz.rw
      clear hox hoy hoz
      have hnx := withL_length_le a e
      have hny := withoutL_length_le a e.key
      have hnz := withoutL_length_le a (e.key ++ ⟨#[120]⟩)
      generalize (withL a e).length = nx at *
      generalize (withoutL a e.key).length = ny at *
      generalize (withoutL a (e.key ++ ⟨#[120]⟩)).length = nz at *
      have dxb : ∀ q, Ax = some q → q.block ≠ b := fun q hq => by have := hxr q hq; omega
      have dyb : ∀ q, Ay = some q → q.block ≠ b := fun q hq => by have := hyr q hq; omega
      have dzb : ∀ q, Az = some q → q.block ≠ b := fun q hq => by have := hzr q hq; omega
      have dxy : ∀ q q', Ax = some q → Ay = some q' → q.block ≠ q'.block := fun q q' h1 h2 => by have := hxr q h1; have := hyr q' h2; omega
      have dxz : ∀ q q', Ax = some q → Az = some q' → q.block ≠ q'.block := fun q q' h1 h2 => by have := hxr q h1; have := hzr q' h2; omega
      have dyz : ∀ q q', Ay = some q → Az = some q' → q.block ≠ q'.block := fun q q' h1 h2 => by have := hyr q h1; have := hzr q' h2; omega
      clear hxr hyr hzr
      (refine S_op ?_; refine W_moveTup (by first | rfl | assumption) ?_; refine S_op ?_; refine W_extract (by first | rfl | assumption) (by rfl) ?_; refine S_op ?_; refine W_extract (by first | rfl | assumption) (by rfl) ?_; refine S_op ?_; refine W_assignSl (by first | rfl | assumption) ?_; refine S_op ?_; refine W_assignBool (by first | rfl | assumption) ?_; refine S_nil ?_; refine CW_seq ?_; refine CW_region rfl ?_; refine S_op ?_; refine W_moveSl (by first | rfl | assumption) ?_; refine S_op ?_; refine W_moveSl (by first | rfl | assumption) ?_; refine S_op ?_; refine W_len (by first | rfl | assumption) ?_; refine S_op ?_; refine W_add3 (by first | rfl | assumption) (by omega) ?_; refine S_op ?_; refine W_sliceHi (by first | rfl | assumption) (by first | rfl | assumption) (by omega) ?_; refine S_op ?_; refine W_assignSl (by first | rfl | assumption) ?_; refine S_nil ?_; refine CW_seq ?_; refine CW_seq ?_; refine CW_region rfl ?_; refine S_op ?_; refine W_moveSl (by first | rfl | assumption) ?_; refine S_op ?_; refine W_len (by first | rfl | assumption) ?_; refine S_op ?_; refine W_assignInt (by first | rfl | assumption) ?_; refine S_nil ?_; refine CW_block ?_)
      -- what lies behind
      refine CW_loopM [4, 13, 71, 72, 73, 74, 75, 76, 77, 78, 79, 80, 81, 82]
        (fun m u w2 => ∃ (i : Nat), u 13 = .int .i64 (i : Int) ∧ w2 = w ∧ a.length ≤ i ∧ i ≤ a.length + 3 ∧ a.length + 3 - i ≤ m)
        (m := 3) ⟨a.length, rfl, rfl, by omega, by omega, by omega⟩ ?_
      rintro m u _ ⟨i, h13, rfl, hi1, hi2, hmi⟩
      by_cases hlt : i < a.length + 3
      · have hz2 := roomC_zero hi1 hlt
        (refine CW_seq ?_; refine CW_seq ?_; refine CW_region rfl ?_; refine S_op ?_; refine W_moveInt (by first | rfl | assumption) ?_; refine S_op ?_; refine W_moveSl (by first | rfl | assumption) ?_; refine S_op ?_; refine W_len (by first | rfl | assumption) ?_; refine S_op ?_; refine W_lssT (by first | rfl | assumption) (by first | rfl | assumption) (by first | omega | rfl) ?_; refine S_nil ?_; refine CW_true (by first | rfl | assumption) ?_; refine CW_skip ?_; refine CW_seq ?_; refine CW_block ?_; refine CW_seq ?_; refine CW_region rfl ?_; refine S_op ?_; refine W_moveSl (by first | rfl | assumption) ?_; refine S_op ?_; refine W_moveInt (by first | rfl | assumption) ?_; refine S_op ?_; refine W_index (by first | rfl | assumption) (by first | rfl | assumption) (by first | assumption | omega | decide) (by first | rfl | assumption) ?_)
        refine S_op (W_loadMAgg (vs := [.string ⟨#[]⟩, .string ⟨#[]⟩]) (o := 0 + i * 2) (by rfl) hm rfl (by rw [Nat.zero_add]; exact hz2) ?_)
        refine S_op (W_build (cs := [.string ⟨#[]⟩, .string ⟨#[]⟩]) (by rfl) ?_)
        refine S_op (W_eneqF (by rfl) (by rfl) ⟨rfl, rfl⟩ ?_)
        (refine S_nil ?_; refine CW_false (by first | rfl | assumption) ?_; refine CW_skip ?_; refine CW_region rfl ?_; refine S_op ?_; refine W_moveInt (by first | rfl | assumption) ?_; refine S_op ?_; refine W_add1 (by first | rfl | assumption) (by omega) ?_; refine S_op ?_; refine W_assignInt (by first | rfl | assumption) ?_; refine S_nil ?_)
        exact ⟨(by repeat (first | exact AgreeOff.over | refine AgreeOff.upd rfl ?_ | refine AgreeOff.over2 rfl ?_)), m - 1, by omega, i + 1, rfl, rfl, by omega, by omega, by omega⟩
      · have hin : i = a.length + 3 := by omega
        subst hin
        (refine CW_seq ?_; refine CW_seq ?_; refine CW_region rfl ?_; refine S_op ?_; refine W_moveInt (by first | rfl | assumption) ?_; refine S_op ?_; refine W_moveSl (by first | rfl | assumption) ?_; refine S_op ?_; refine W_len (by first | rfl | assumption) ?_; refine S_op ?_; refine W_lssF (by first | rfl | assumption) (by first | rfl | assumption) (by first | omega | rfl) ?_; refine S_nil ?_; refine CW_false (by first | rfl | assumption) ?_; refine CW_exit ?_; refine CW_seq ?_; refine CW_seq ?_; refine CW_region rfl ?_; refine S_op ?_; refine W_moveSl (by first | rfl | assumption) ?_; refine S_op ?_; refine W_len (by first | rfl | assumption) ?_; refine S_op ?_; refine W_moveInt (by first | rfl | assumption) ?_; refine S_nil ?_; refine CW_block ?_)
        refine CW_loopM [14, 85, 86, 87, 88, 89, 90, 91, 92]
          (fun m u w2 => ∃ (i : Nat), u 85 = .int .i64 (i : Int) ∧ Grow H0 w0 H w2 ∧ Mut H w2 b (roomC a) ∧ Rw H w2 w0.heap.size Ax nx cx ∧ Rw H w2 w0.heap.size Ay ny cy ∧ Rw H w2 w0.heap.size Az nz cz ∧ i ≤ nx ∧ nx - i ≤ m)
          (m := nx) ⟨0, rfl, hG, hm, hkx, hky, hkz, by omega, by omega⟩ ?_
        clear hG hS hm hkx hky hkz
        rintro m u w ⟨i, hu, hG, hm, hkx, hky, hkz, hi, hmi⟩
        have hS := hG.sub
        by_cases hlt : i < nx
        · rcases hkx with h0 | ⟨g, cs, rfl, hB, hmx, hlx, hcx⟩
          · omega
          (refine CW_seq ?_; refine CW_region rfl ?_; refine S_op ?_; refine W_lssT (by first | rfl | assumption) (by first | rfl | assumption) (by first | omega | rfl) ?_; refine S_nil ?_; refine CW_seq ?_; refine CW_true (by first | rfl | assumption) ?_; refine CW_skip ?_; refine CW_seq ?_; refine CW_block ?_; refine CW_seq ?_; refine CW_region rfl ?_; refine S_op ?_; refine W_moveInt (by first | rfl | assumption) ?_; refine S_op ?_; refine W_assignInt (by first | rfl | assumption) ?_; refine S_nil ?_; refine CW_region rfl ?_; refine S_op ?_; refine W_moveSl (by first | rfl | assumption) ?_; refine S_op ?_; refine W_moveInt (by first | rfl | assumption) ?_; refine S_op ?_; refine W_index (by first | rfl | assumption) (by first | rfl | assumption) (by first | assumption | omega | decide) (by first | rfl | assumption) ?_; refine S_op ?_; refine W_field (by first | rfl | assumption) ?_)
          refine S_op0 (W_storeM (o := 0 + i * 2 + 1) (vs := [.string ⟨#[111, 116, 104, 101, 114]⟩]) (by rfl) (by rfl) hmx (by rfl) (OneCells.of_all (by rfl)) (by rfl) (by simp; omega) ?_)
          intro w hgb hmx2
          replace hG := hG.grownBy hgb (fun g h => by cases h; exact ⟨hmx.out, hB⟩)
          (refine S_nil ?_; refine CW_region rfl ?_; refine S_op ?_; refine W_add1 (by first | rfl | assumption) (by omega) ?_; refine S_op ?_; refine W_moveInt (by first | rfl | assumption) ?_; refine S_nil ?_)
          exact ⟨(by repeat (first | exact AgreeOff.over | refine AgreeOff.upd rfl ?_ | refine AgreeOff.over2 rfl ?_)), m - 1, by omega, i + 1, rfl, hG, hm.other hgb (by intro e2; cases e2; exact dxb _ rfl rfl), .inr ⟨g, _, rfl, hB, hmx2, by rw [splice_one _ _ _ (by omega)]; simpa using hlx, hcx⟩, hky.other hgb (fun q hq => (dxy _ q rfl hq).symm), hkz.other hgb (fun q hq => (dxz _ q rfl hq).symm), by omega, by omega⟩
        · skip
          (refine CW_seq ?_; refine CW_region rfl ?_; refine S_op ?_; refine W_lssF (by first | rfl | assumption) (by first | rfl | assumption) (by first | omega | rfl) ?_; refine S_nil ?_; refine CW_seq ?_; refine CW_false (by first | rfl | assumption) ?_; refine CW_exit ?_; refine CW_seq ?_; refine CW_seq ?_; refine CW_region rfl ?_; refine S_op ?_; refine W_moveSl (by first | rfl | assumption) ?_; refine S_op ?_; refine W_len (by first | rfl | assumption) ?_; refine S_op ?_; refine W_moveInt (by first | rfl | assumption) ?_; refine S_nil ?_; refine CW_block ?_)
          refine CW_loopM [15, 95, 96, 97, 98, 99, 100, 101, 102]
            (fun m u w2 => ∃ (i : Nat), u 95 = .int .i64 (i : Int) ∧ Grow H0 w0 H w2 ∧ Mut H w2 b (roomC a) ∧ Rw H w2 w0.heap.size Ax nx cx ∧ Rw H w2 w0.heap.size Ay ny cy ∧ Rw H w2 w0.heap.size Az nz cz ∧ i ≤ ny ∧ ny - i ≤ m)
            (m := ny) ⟨0, rfl, hG, hm, hkx, hky, hkz, by omega, by omega⟩ ?_
          clear hG hS hm hkx hky hkz
          rintro m u w ⟨i, hu, hG, hm, hkx, hky, hkz, hi, hmi⟩
          have hS := hG.sub
          by_cases hlt : i < ny
          · rcases hky with h0 | ⟨g, cs, rfl, hB, hmx, hlx, hcx⟩
            · omega
            (refine CW_seq ?_; refine CW_region rfl ?_; refine S_op ?_; refine W_lssT (by first | rfl | assumption) (by first | rfl | assumption) (by first | omega | rfl) ?_; refine S_nil ?_; refine CW_seq ?_; refine CW_true (by first | rfl | assumption) ?_; refine CW_skip ?_; refine CW_seq ?_; refine CW_block ?_; refine CW_seq ?_; refine CW_region rfl ?_; refine S_op ?_; refine W_moveInt (by first | rfl | assumption) ?_; refine S_op ?_; refine W_assignInt (by first | rfl | assumption) ?_; refine S_nil ?_; refine CW_region rfl ?_; refine S_op ?_; refine W_moveSl (by first | rfl | assumption) ?_; refine S_op ?_; refine W_moveInt (by first | rfl | assumption) ?_; refine S_op ?_; refine W_index (by first | rfl | assumption) (by first | rfl | assumption) (by first | assumption | omega | decide) (by first | rfl | assumption) ?_; refine S_op ?_; refine W_field (by first | rfl | assumption) ?_)
            refine S_op0 (W_storeM (o := 0 + i * 2 + 0) (vs := [.string ⟨#[111, 116, 104, 101, 114]⟩]) (by rfl) (by rfl) hmx (by rfl) (OneCells.of_all (by rfl)) (by rfl) (by simp; omega) ?_)
            intro w hgb hmx2
            replace hG := hG.grownBy hgb (fun g h => by cases h; exact ⟨hmx.out, hB⟩)
            (refine S_nil ?_; refine CW_region rfl ?_; refine S_op ?_; refine W_add1 (by first | rfl | assumption) (by omega) ?_; refine S_op ?_; refine W_moveInt (by first | rfl | assumption) ?_; refine S_nil ?_)
            exact ⟨(by repeat (first | exact AgreeOff.over | refine AgreeOff.upd rfl ?_ | refine AgreeOff.over2 rfl ?_)), m - 1, by omega, i + 1, rfl, hG, hm.other hgb (by intro e2; cases e2; exact dyb _ rfl rfl), hkx.other hgb (fun q hq => dxy q _ hq rfl), .inr ⟨g, _, rfl, hB, hmx2, by rw [splice_one _ _ _ (by omega)]; simpa using hlx, hcx⟩, hkz.other hgb (fun q hq => (dyz _ q rfl hq).symm), by omega, by omega⟩
          · skip
            (refine CW_seq ?_; refine CW_region rfl ?_; refine S_op ?_; refine W_lssF (by first | rfl | assumption) (by first | rfl | assumption) (by first | omega | rfl) ?_; refine S_nil ?_; refine CW_seq ?_; refine CW_false (by first | rfl | assumption) ?_; refine CW_exit ?_; refine CW_seq ?_; refine CW_seq ?_; refine CW_region rfl ?_; refine S_op ?_; refine W_moveSl (by first | rfl | assumption) ?_; refine S_op ?_; refine W_len (by first | rfl | assumption) ?_; refine S_op ?_; refine W_moveInt (by first | rfl | assumption) ?_; refine S_nil ?_; refine CW_block ?_)
            refine CW_loopM [16, 105, 106, 107, 108, 109, 110, 111, 112]
              (fun m u w2 => ∃ (i : Nat), u 105 = .int .i64 (i : Int) ∧ Grow H0 w0 H w2 ∧ Mut H w2 b (roomC a) ∧ Rw H w2 w0.heap.size Ax nx cx ∧ Rw H w2 w0.heap.size Ay ny cy ∧ Rw H w2 w0.heap.size Az nz cz ∧ i ≤ nz ∧ nz - i ≤ m)
              (m := nz) ⟨0, rfl, hG, hm, hkx, hky, hkz, by omega, by omega⟩ ?_
            clear hG hS hm hkx hky hkz
            rintro m u w ⟨i, hu, hG, hm, hkx, hky, hkz, hi, hmi⟩
            have hS := hG.sub
            by_cases hlt : i < nz
            · rcases hkz with h0 | ⟨g, cs, rfl, hB, hmx, hlx, hcx⟩
              · omega
              (refine CW_seq ?_; refine CW_region rfl ?_; refine S_op ?_; refine W_lssT (by first | rfl | assumption) (by first | rfl | assumption) (by first | omega | rfl) ?_; refine S_nil ?_; refine CW_seq ?_; refine CW_true (by first | rfl | assumption) ?_; refine CW_skip ?_; refine CW_seq ?_; refine CW_block ?_; refine CW_seq ?_; refine CW_region rfl ?_; refine S_op ?_; refine W_moveInt (by first | rfl | assumption) ?_; refine S_op ?_; refine W_assignInt (by first | rfl | assumption) ?_; refine S_nil ?_; refine CW_region rfl ?_; refine S_op ?_; refine W_moveSl (by first | rfl | assumption) ?_; refine S_op ?_; refine W_moveInt (by first | rfl | assumption) ?_; refine S_op ?_; refine W_index (by first | rfl | assumption) (by first | rfl | assumption) (by first | assumption | omega | decide) (by first | rfl | assumption) ?_; refine S_op ?_; refine W_field (by first | rfl | assumption) ?_)
              refine S_op0 (W_storeM (o := 0 + i * 2 + 1) (vs := [.string ⟨#[97, 110, 111, 116, 104, 101, 114]⟩]) (by rfl) (by rfl) hmx (by rfl) (OneCells.of_all (by rfl)) (by rfl) (by simp; omega) ?_)
              intro w hgb hmx2
              replace hG := hG.grownBy hgb (fun g h => by cases h; exact ⟨hmx.out, hB⟩)
              (refine S_nil ?_; refine CW_region rfl ?_; refine S_op ?_; refine W_add1 (by first | rfl | assumption) (by omega) ?_; refine S_op ?_; refine W_moveInt (by first | rfl | assumption) ?_; refine S_nil ?_)
              exact ⟨(by repeat (first | exact AgreeOff.over | refine AgreeOff.upd rfl ?_ | refine AgreeOff.over2 rfl ?_)), m - 1, by omega, i + 1, rfl, hG, hm.other hgb (by intro e2; cases e2; exact dzb _ rfl rfl), hkx.other hgb (fun q hq => dxz q _ hq rfl), hky.other hgb (fun q hq => dyz q _ hq rfl), .inr ⟨g, _, rfl, hB, hmx2, by rw [splice_one _ _ _ (by omega)]; simpa using hlx, hcx⟩, by omega, by omega⟩
            · skip
              (refine CW_seq ?_; refine CW_region rfl ?_; refine S_op ?_; refine W_lssF (by first | rfl | assumption) (by first | rfl | assumption) (by first | omega | rfl) ?_; refine S_nil ?_; refine CW_seq ?_; refine CW_false (by first | rfl | assumption) ?_; refine CW_exit ?_; refine CW_seq ?_; refine CW_region rfl ?_; refine S_op ?_; refine W_moveSl (by first | rfl | assumption) ?_; refine S_op ?_; refine W_moveSl (by first | rfl | assumption) ?_)
              refine S_op ?_
              refine W_callW (by rfl) ((same_lent hS hm ha (by omega)).mono ?_)
              rintro v w ⟨H3, hG3, rfl⟩
              replace hG := hG.trans hG3
              (refine S_op ?_; refine W_assignBool (by first | rfl | assumption) ?_; refine S_nil ?_; refine CW_ret ?_)
              exact ⟨_, ResW_one (v := .bool _) rfl, _, hG, rfl⟩
end Go.Proofs.Ytaimilhkfmpdoaa
