/- The memory of layer 8: how it lies in the heap. Conditions: none. -/
import Derived.Test.YtnjeoobcejlojaaMut
namespace Go.Proofs.Ytnjeoobcejlojaa
open Go.RowKit
set_option linter.unusedVariables false
/-- A memory's struct and its words' row. -/
structure IsMem (H : HF) (w : World) (b : Nat) (A : Option Addr) (ws : List Value) (s c : Nat) : Prop where
  cell : Mut H w b [.slice A ws.length ws.length, .int .i64 (s : Int), .int .i64 (c : Int)]
  words : (A = none ∧ ws = []) ∨ ∃ g, A = some ⟨g, 0, none⟩ ∧ g ≠ b ∧ Mut H w g ws
/-- What its methods write. -/
def memS (b : Nat) (A : Option Addr) : Nat → Prop := fun k => k = b ∨ ∃ a, A = some a ∧ k = a.block
theorem IsMem.turn {S : Nat → Prop} {H H' : HF} {w w' : World} {b : Nat} {A : Option Addr} {ws : List Value} {s c : Nat} (h : IsMem H w b A ws s c) (hg : Turn S H w H' w') (hs : ∀ k, memS b A k → ¬ S k) : IsMem H' w' b A ws s c := by
  refine ⟨h.cell.turn hg (hs b (.inl rfl)), ?_⟩
  rcases h.words with h1 | ⟨g, h1, h2, h3⟩
  · exact .inl h1
  · exact .inr ⟨g, h1, h2, h3.turn hg (hs g (.inr ⟨_, h1, rfl⟩))⟩
theorem IsMem.grow {H H' : HF} {w w' : World} {b : Nat} {A : Option Addr} {ws : List Value} {s c : Nat} (h : IsMem H w b A ws s c) (hg : Grow H w H' w') : IsMem H' w' b A ws s c :=
  h.turn (S := fun _ => False) hg.turn (fun _ _ h => h)
theorem IsMem.wordRow {H : HF} {w : World} {b : Nat} {A : Option Addr} {ws : List Value} {s c q : Nat} (h : IsMem H w b A ws s c) (hq : q < ws.length) : ∃ g, A = some ⟨g, 0, none⟩ ∧ g ≠ b ∧ Mut H w g ws := by
  rcases h.words with ⟨_, h1⟩ | h1
  · subst h1; simp at hq
  · exact h1
/-- One of its counts, or both, are written. -/
theorem IsMem.count {H : HF} {w w' : World} {b : Nat} {A : Option Addr} {ws : List Value} {s c s' c' : Nat} (h : IsMem H w b A ws s c) (hg : w.grownBy w' (some b)) (hm : Mut H w' b [.slice A ws.length ws.length, .int .i64 (s' : Int), .int .i64 (c' : Int)]) : IsMem H w' b A ws s' c' := by
  refine ⟨hm, ?_⟩
  rcases h.words with h1 | ⟨g, h1, h2, h3⟩
  · exact .inl h1
  · exact .inr ⟨g, h1, h2, h3.other hg (fun e => h2 (by cases e; rfl))⟩
/-- A word is written. -/
theorem IsMem.word {H : HF} {w w' : World} {b g : Nat} {A : Option Addr} {ws ws' : List Value} {s c : Nat} (h : IsMem H w b A ws s c) (hA : A = some ⟨g, 0, none⟩) (hne : g ≠ b) (hg : w.grownBy w' (some g)) (hm : Mut H w' g ws') (hl : ws'.length = ws.length) : IsMem H w' b A ws' s c := by
  refine ⟨?_, .inr ⟨g, hA, hne, hm⟩⟩
  rw [hl]
  exact h.cell.other hg (fun e => hne (by cases e; rfl))
theorem splice_one (cs : List Value) (q : Nat) (v : Value) (h : q < cs.length) : splice cs q [v] = cs.set q v := by
  rw [splice, List.set_eq_take_append_cons_drop, if_pos h]; simp
/-- As many words as are asked for, none below nought, 65536 at most. -/
def wordsOf (n : Int) : Nat := (max 0 (min n 65536)).toNat
def nth {α : Type} [Inhabited α] (ws : List α) (q : Nat) : α := ws.getD q default
theorem nth_get {α : Type} [Inhabited α] {ws : List α} {q : Nat} (h : q < ws.length) (val : α → Value) : (ws.map val)[q]? = some (val (nth ws q)) := by
  simp [nth, h]
def vI (n : Int) : Value := .int .i64 n
def vS (s : ByteArray) : Value := .string s
section
variable {P : Program} {r : Option Nat} {f : Fr} {H : HF} {w : World} {K : Value → World → Prop} {d : Option Nat} {ty : TypeId} {pos : String} {af : Array Edge} {g : Option (Nat × Bool)} {T : TypeId} {x : Operand}
theorem W_loadInt [TyOne P T] {b o q : Nat} {l : List Int} (hx : ev f x = .pointer (some ⟨b, o + q * 1, none⟩)) (hb : Row H b o (l.map vI)) (hq : q < l.length) (hS : Sub H w) (hk : K (.int .i64 (nth l q)) w) :
    OpW P r ⟨d, .load T x, ty, pos, af, g⟩ f w K := W_loadRow (j := q * 1) hx hb (by rw [Nat.mul_one]; exact nth_get hq vI) hS hk
theorem W_loadStr [TyOne P T] {b o q : Nat} {l : List ByteArray} (hx : ev f x = .pointer (some ⟨b, o + q * 1, none⟩)) (hb : Row H b o (l.map vS)) (hq : q < l.length) (hS : Sub H w) (hk : K (.string (nth l q)) w) :
    OpW P r ⟨d, .load T x, ty, pos, af, g⟩ f w K := W_loadRow (j := q * 1) hx hb (by rw [Nat.mul_one]; exact nth_get hq vS) hS hk
end
theorem slAt_some {α : Type} {H : HF} {A : Option Addr} {l : List α} {val : α → Value} (h : SlAt H A (l.map val)) {q : Nat} (hq : q < l.length) : ∃ b off, A = some ⟨b, off, none⟩ ∧ Row H b off (l.map val) := by
  rcases h with h | h
  · cases l with
    | nil => simp at hq
    | cons x l => simp at h
  · exact h
end Go.Proofs.Ytnjeoobcejlojaa
