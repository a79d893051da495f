/- The reference's memory, whatever the index; two memories side by side. Conditions: sizes. -/
import Derived.Test.YtaimilhkfmpdoaaMemAnyInt
import Derived.Test.YtaimilhkfmpdoaaRef08
import Derived.Test.YtaimilhkfmpdoaaOpenOp8
import Derived.Test.YtaimilhkfmpdoaaLaw08
import Derived.Test.YtaimilhkfmpdoaaPhase
namespace Go.Proofs.Ytaimilhkfmpdoaa
open Go.Proofs Go.RowKit
set_option linter.unusedVariables false
section
variable {H : HF} {w : World} {b : Nat} {A : Option Addr} {ws : List Int} {s c : Nat}
theorem rLoadA (hS : Sub H w) (hm : IsMem H w b A (ws.map vI) s c) (hs : s ≤ 1000000000) (i : Int) :
    CallW Try.prog 18 #[.pointer (some ⟨b, 0, none⟩), .int .i64 i] w fun v w' => v = .tuple #[vI (getI ws i), .int .i64 (errI ws.length i : Nat)] ∧ Turn (memS b A) H w H w' ∧ IsMem H w' b A (ws.map vI) (s + thereN ws.length i) c := by
  rcases there_cases ws.length i with ⟨h, q, rfl, hq⟩ | ⟨h, h2⟩
  · refine (rLoad_yes hS hm q hq hs).mono ?_
    rintro v w' ⟨rfl, h3, h4⟩
    exact ⟨by simp [getI, errI, h], h3, by simpa [thereN, h] using h4⟩
  · refine (rLoad_no hS hm i h2).mono ?_
    rintro v w' ⟨rfl, rfl⟩
    exact ⟨by simp [getI, errI, h]; rfl, Turn.refl hS, by simpa [thereN, h] using hm⟩
theorem rStoreA (hS : Sub H w) (hm : IsMem H w b A (ws.map vI) s c) (hs : s ≤ 1000000000) (i x : Int) :
    CallW Try.prog 20 #[.pointer (some ⟨b, 0, none⟩), .int .i64 i, vI x] w fun v w' => v = .int .i64 (errI ws.length i : Nat) ∧ Turn (memS b A) H w H w' ∧ IsMem H w' b A ((storeI ws i x).map vI) (s + thereN ws.length i) c := by
  rcases there_cases ws.length i with ⟨h, q, rfl, hq⟩ | ⟨h, h2⟩
  · refine (rStore_yes hS hm q x hq hs).mono ?_
    rintro v w' ⟨rfl, h3, h4⟩
    exact ⟨by simp [errI, h], h3, by simpa [thereN, storeI, h] using h4⟩
  · refine (rStore_no hS hm i x h2).mono ?_
    rintro v w' ⟨rfl, rfl⟩
    exact ⟨by simp [errI, h], Turn.refl hS, by simpa [thereN, storeI, h] using hm⟩
theorem rCasA (hS : Sub H w) (hm : IsMem H w b A (ws.map vI) s c) (hs : s ≤ 1000000000) (hc : c ≤ 1000000000) (i x y : Int) :
    CallW Try.prog 22 #[.pointer (some ⟨b, 0, none⟩), .int .i64 i, vI x, vI y] w fun v w' => v = .tuple #[.bool (casB ws i x), .int .i64 (errI ws.length i : Nat)] ∧ Turn (memS b A) H w H w' ∧
      IsMem H w' b A ((casI ws i x y).map vI) (s + thereN ws.length i) (if casB ws i x then c + 1 else c) := by
  rcases there_cases ws.length i with ⟨h, q, rfl, hq⟩ | ⟨h, h2⟩
  · refine (rCas_yes hS hm q x y hq hs hc).mono ?_
    rintro v w' ⟨rfl, h3, h4⟩
    by_cases he : nth ws q = x
    · exact ⟨by simp [casB, errI, h, he], h3, by simpa [thereN, casI, casB, h, he] using h4⟩
    · exact ⟨by simp [casB, errI, h, he], h3, by simpa [thereN, casI, casB, h, he] using h4⟩
  · refine (rCas_no hS hm i x y h2).mono ?_
    rintro v w' ⟨rfl, rfl⟩
    exact ⟨by simp [casB, errI, h], Turn.refl hS, by simpa [thereN, casI, casB, h] using hm⟩
end
/-- Another memory is turned, or a variable. -/
theorem IsMem.apart {H : HF} {w w' : World} {b b2 : Nat} {A A2 : Option Addr} {ws : List Value} {s c : Nat} (h : IsMem H w b A ws s c) (hT : Turn (memS b2 A2) H w H w') (h1 : b ≠ b2) (h2 : ∀ a, A2 = some a → b ≠ a.block) (h3 : ∀ a, A = some a → a.block ≠ b2) (h4 : ∀ a a2, A = some a → A2 = some a2 → a.block ≠ a2.block) : IsMem H w' b A ws s c :=
  h.turn hT fun k hk hs => by
    rcases hk with rfl | ⟨a, ha, rfl⟩
    · rcases hs with h | ⟨a2, ha2, h⟩
      · exact h1 h
      · exact h2 a2 ha2 h
    · rcases hs with h | ⟨a2, ha2, h⟩
      · exact h3 a ha h
      · exact h4 a a2 ha ha2 h
theorem IsMem.own {H : HF} {w w' : World} {b b2 : Nat} {A : Option Addr} {ws : List Value} {s c : Nat} (h : IsMem H w b A ws s c) (hg : w.grownBy w' (some b2)) (h1 : b ≠ b2) (h2 : ∀ a, A = some a → a.block ≠ b2) : IsMem H w' b A ws s c := by
  refine ⟨h.cell.other hg (fun e => h1 (by cases e; rfl)), ?_⟩
  rcases h.words with h3 | ⟨g, h3, h4, h5⟩
  · exact .inl h3
  · exact .inr ⟨g, h3, h4, h5.other hg (fun e => h2 _ h3 (by cases e; rfl))⟩
theorem IsMem.lt {H : HF} {w : World} {b : Nat} {A : Option Addr} {ws : List Value} {s c : Nat} (h : IsMem H w b A ws s c) : b < w.heap.size ∧ ∀ a, A = some a → a.block < w.heap.size := by
  refine ⟨h.cell.lt, fun a ha => ?_⟩
  rcases h.words with ⟨h1, _⟩ | ⟨g, h3, h4, h5⟩
  · rw [h1] at ha; cases ha
  · rw [h3] at ha; cases ha; exact h5.lt
theorem closedMem (b : Nat) (A : Option Addr) (ws : List Value) (s c : Nat) : Closed fun H w => IsMem H w b A ws s c := fun _ _ _ _ h k => h.grow k
/-! ### Calls of the script -/
instance : Inhabited Op8 := ⟨⟨0, 0, 0, 0⟩⟩
theorem ops8_get {l : List Op8} : ∀ {q j : Nat}, q < l.length → j < 4 → (ops8 l)[q * 4 + j]? = (op8Cell (nth l q))[j]? := by
  induction l with
  | nil => intro q j h; simp at h
  | cons o l ih =>
    intro q j hq hj
    simp only [ops8, List.map_cons, List.flatten_cons]
    cases q with
    | zero =>
      rw [Nat.zero_mul, Nat.zero_add, List.getElem?_append_left (by simp [op8Cell]; omega)]
      simp [nth]
    | succ q =>
      rw [List.getElem?_append_right (by simp [op8Cell]; omega)]
      have := ih (q := q) (j := j) (by simpa using hq) hj
      rw [show (q + 1) * 4 + j - (op8Cell o).length = q * 4 + j by simp [op8Cell]; omega]
      simpa [nth, ops8] using this
theorem ops8_some {H : HF} {A : Option Addr} {l : List Op8} (h : SlAt H A (ops8 l)) {q : Nat} (hq : q < l.length) : ∃ b off, A = some ⟨b, off, none⟩ ∧ Row H b off (ops8 l) := by
  rcases h with h | h
  · have := ops8_get (j := 0) hq (by omega)
    rw [h] at this
    simp [op8Cell] at this
  · exact h
section
variable {P : Program} {r : Option Nat} {f : Fr} {H : HF} {w : World} {K : Value → World → Prop} {d : Option Nat} {ty : TypeId} {pos : String} {af : Array Edge} {g : Option (Nat × Bool)} {T : TypeId} {x : Operand} {b o q : Nat} {l : List Op8}
theorem W_loadOd [TyAgg P T] [TySize P T 4] (hx : ev f x = .pointer (some ⟨b, o + q * 4, none⟩)) (hb : Row H b o (ops8 l)) (hq : q < l.length) (hS : Sub H w) (hk : K (.agg (op8Cell (nth l q)).toArray) w) : OpW P r ⟨d, .load T x, ty, pos, af, g⟩ f w K := by
  obtain ⟨c, E, fr, h1, h2⟩ := hb
  refine W_loadAgg (s := 4) (cs := op8Cell (nth l q)) hx rfl ?_ hk
  intro j v hj
  rw [add_lit']
  refine hS.cell h1 ?_
  have hj3 : j < 4 := by
    rcases Nat.lt_or_ge j 4 with h | h
    · exact h
    · rw [List.getElem?_eq_none (by simpa [op8Cell] using h)] at hj; cases hj
  rw [Nat.add_assoc]
  exact h2 _ _ ((ops8_get hq hj3).trans hj)
end
end Go.Proofs.Ytaimilhkfmpdoaa
