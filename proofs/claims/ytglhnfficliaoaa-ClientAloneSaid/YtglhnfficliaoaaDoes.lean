/- What a call makes of entries, and its answer: plain laws. Conditions: keys rise, where a law says so. -/
import Derived.Test.YtglhnfficliaoaaPure2
namespace Go.Proofs.Ytglhnfficliaoaa
open Go.Proofs Go.RowKit
set_option linter.unusedVariables false
structure Call where
  kind : Int
  key : ByteArray
  val : ByteArray
  deriving DecidableEq, Inhabited
structure Rep4 where
  err : Int
  val : ByteArray
  yes : Bool
  n : Int
  deriving DecidableEq, Inhabited
def callCells (x : Call) : List Value := [.int .i64 x.kind, .string x.key, .string x.val]
def repCells (r : Rep4) : List Value := [.int .i64 r.err, .string r.val, .bool r.yes, .int .i64 r.n]
theorem repCells_eq (a b : Rep4) : eqCells (repCells a) (repCells b) = decide (a = b) := by
  obtain ⟨a1, a2, a3, a4⟩ := a
  obtain ⟨b1, b2, b3, b4⟩ := b
  simp only [repCells, eqCells, eqCell, Rep4.mk.injEq, Bool.and_true]
  rw [Bool.eq_iff_iff]
  simp only [Bool.and_eq_true, decide_eq_true_eq, beq_iff_eq]
/-- A change: it puts, it takes, or it leaves. -/
def putsB (l : List Ent) (x : Call) : Bool := decide (x.kind = 2) || (decide (x.kind = 4) && !lookB l x.key)
def takesB (l : List Ent) (x : Call) : Bool := decide (x.kind = 3) || (decide (x.kind = 5) && lookB l x.key && decide (lookV l x.key = x.val))
def doesL (l : List Ent) (x : Call) : List Ent :=
  if putsB l x then withL l ⟨x.key, x.val⟩ else if takesB l x then withoutL l x.key else l
def doesR (l : List Ent) (x : Call) : Rep4 :=
  if x.kind = 4 then (if lookB l x.key then ⟨0, lookV l x.key, false, 0⟩ else ⟨0, ⟨#[]⟩, true, 0⟩)
  else if x.kind = 5 then (if lookB l x.key && decide (lookV l x.key = x.val) then ⟨0, ⟨#[]⟩, true, 0⟩ else ⟨0, lookV l x.key, false, 0⟩)
  else if 1 ≤ x.kind ∧ x.kind ≤ 3 then ⟨0, lookV l x.key, lookB l x.key, 0⟩ else ⟨0, ⟨#[]⟩, false, 0⟩
theorem doesL_rise {l : List Ent} (h : riseB l = true) (x : Call) : riseB (doesL l x) = true := by
  unfold doesL
  split
  · exact rise_withL _ h
  · split
    · exact rise_withoutL _ h
    · exact h
theorem doesL_len (l : List Ent) (x : Call) : (doesL l x).length ≤ l.length + 1 := by
  unfold doesL
  split
  · exact withL_length_le _ _
  · split
    · have := withoutL_length_le l x.key; omega
    · omega
/-- What another key says stays. -/
theorem doesL_other {l : List Ent} (h : riseB l = true) (x : Call) {k : ByteArray} (hk : x.key ≠ k) : look (doesL l x) k = look l k := by
  unfold doesL
  split
  · rw [look_withL h, if_neg hk]
  · split
    · rw [look_withoutL h, if_neg hk]
    · rfl
/-- An answer depends on what the call's own key says. -/
theorem doesR_look {l m : List Ent} (x : Call) (h : look l x.key = look m x.key) : doesR l x = doesR m x := by
  have h1 : lookV l x.key = lookV m x.key := by simp only [lookV, h]
  have h2 : lookB l x.key = lookB m x.key := by simp only [lookB, h]
  simp only [doesR, h1, h2]
/-- So does what it makes of it. -/
theorem doesL_look {l m : List Ent} (hl : riseB l = true) (hm : riseB m = true) (x : Call) (h : look l x.key = look m x.key) : look (doesL l x) x.key = look (doesL m x) x.key := by
  have h1 : lookV l x.key = lookV m x.key := by simp only [lookV, h]
  have h2 : lookB l x.key = lookB m x.key := by simp only [lookB, h]
  have h3 : putsB l x = putsB m x := by simp only [putsB, h2]
  have h4 : takesB l x = takesB m x := by simp only [takesB, h1, h2]
  unfold doesL
  rw [h3, h4]
  split
  · rw [look_withL hl, look_withL hm]; simp
  · split
    · rw [look_withoutL hl, look_withoutL hm]; simp
    · exact h
end Go.Proofs.Ytglhnfficliaoaa
