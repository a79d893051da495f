/- Slices of slices: s[:h], s[l:], s[l:h]. Conditions: each law's own premises. -/
import Derived.Test.YtnjeoobcejlojaaOwn
namespace Go.Proofs.Ytnjeoobcejlojaa
open Go.RowKit
set_option linter.unusedVariables false
set_option linter.unusedSimpArgs false
def slAddr (A : Option Addr) (c l sz : Nat) : Option Addr := if c = l then A else A.map (·.add (l * sz))
theorem SlAt.take {H : HF} {A : Option Addr} {cs : List Value} (h : SlAt H A cs) (k : Nat) : SlAt H A (cs.take k) := by
  rcases h with h | ⟨b, off, h1, c, E, fr, h2, h3⟩
  · left; simp [h]
  · refine .inr ⟨b, off, h1, c, E, fr, h2, fun i v hi => h3 i v ?_⟩
    rw [List.getElem?_take] at hi
    split at hi
    · exact hi
    · cases hi
theorem SlAt.drop {H : HF} {A : Option Addr} {cs : List Value} {n c l sz : Nat} (h : SlAt H A cs) (hl : cs.length = n * sz) (hn : n ≤ c) : SlAt H (slAddr A c l sz) (cs.drop (l * sz)) := by
  by_cases hc : c = l
  · left
    apply List.drop_eq_nil_of_le
    rw [hl]
    exact Nat.mul_le_mul_right _ (by omega)
  · rcases h with h | ⟨b, off, h1, c', E, fr, h2, h3⟩
    · left; simp [h]
    · refine .inr ⟨b, off + l * sz, by simp [slAddr, hc, h1, add_lit'], c', E, fr, h2, fun i v hi => ?_⟩
      rw [List.getElem?_drop] at hi
      have := h3 _ _ hi
      rw [← Nat.add_assoc] at this
      exact this
theorem SlAt.nil {H : HF} {A : Option Addr} : SlAt H A [] := .inl rfl
section
variable {P : Program} {r : Option Nat} {f : Fr} {w : World} {K : Value → World → Prop} {d : Option Nat} {ty : TypeId} {pos : String} {af : Array Edge} {g : Option (Nat × Bool)} {T E : TypeId} {x y i : Operand}
theorem W_sliceHi [TySlice P T E] {sz : Nat} [TySize P E sz] {A : Option Addr} {n c h : Nat} {k : IntKind} (hx : ev f x = .slice A n c) (hy : ev f y = .int k (h : Int)) (hh : h ≤ c) (hk : K (.slice A h c) w) :
    OpW P r ⟨d, .slice T x none (some y) none, ty, pos, af, g⟩ f w K :=
  OpW_val (by simp) (by
    have h1 : (0 : Int) ≤ h ∧ (h : Int) ≤ c := by omega
    cases A <;> simp [execOp, hx, hy, Instr.sliceAt, Instr.slice, Instr.sliceBounds, Instr.sliceBound, asIntOf, run_underlying (TySlice.out (P := P) (T := T)), TySize.size (P := P) (T := E), hh, Addr.add]) hk
theorem W_sliceLo [TySlice P T E] {sz : Nat} [TySize P E sz] {A : Option Addr} {n c l : Nat} {k : IntKind} (hx : ev f x = .slice A n c) (hy : ev f y = .int k (l : Int)) (hl : l ≤ n) (hk : K (.slice (slAddr A c l sz) (n - l) (c - l)) w) :
    OpW P r ⟨d, .slice T x (some y) none none, ty, pos, af, g⟩ f w K :=
  OpW_val (by simp) (by
    have h1 : (0 : Int) ≤ l ∧ (l : Int) ≤ n := by omega
    simp [execOp, hx, hy, Instr.sliceAt, Instr.slice, Instr.sliceBounds, Instr.sliceBound, asIntOf, run_underlying (TySlice.out (P := P) (T := T)), TySize.size (P := P) (T := E), hl, slAddr]) hk
theorem W_sliceLoHi [TySlice P T E] {sz : Nat} [TySize P E sz] {A : Option Addr} {n c l h : Nat} {k k' : IntKind} (hx : ev f x = .slice A n c) (hy : ev f y = .int k (l : Int)) (hi : ev f i = .int k' (h : Int)) (hl : l ≤ h) (hh : h ≤ c) (hk : K (.slice (slAddr A c l sz) (h - l) (c - l)) w) :
    OpW P r ⟨d, .slice T x (some y) (some i) none, ty, pos, af, g⟩ f w K :=
  OpW_val (by simp) (by
    have h1 : (0 : Int) ≤ l ∧ (l : Int) ≤ h := by omega
    have h2 : (0 : Int) ≤ h ∧ (h : Int) ≤ c := by omega
    simp [execOp, hx, hy, hi, Instr.sliceAt, Instr.slice, Instr.sliceBounds, Instr.sliceBound, asIntOf, run_underlying (TySlice.out (P := P) (T := T)), TySize.size (P := P) (T := E), hl, hh, slAddr]) hk
end
/-- A slice value, its number of elements, its cells. -/
def IsSl (sz : Nat) (v : Value) (n : Nat) (cs : List Value) (H : HF) : Prop := ∃ A c, v = .slice A n c ∧ n ≤ c ∧ SlAt H A cs ∧ cs.length = n * sz
theorem IsSl.mono {sz : Nat} {v : Value} {n : Nat} {cs : List Value} {H H' : HF} (h : IsSl sz v n cs H) (hle : HLe H H') : IsSl sz v n cs H' := by
  obtain ⟨A, c, h1, h2, h3, h4⟩ := h
  exact ⟨A, c, h1, h2, h3.mono hle, h4⟩
/-- A slice of entries. -/
def IsEnts (v : Value) (l : List Ent) (H : HF) : Prop := ∃ A c, v = .slice A l.length c ∧ l.length ≤ c ∧ EntsAt H A l
theorem IsEnts.mono {v : Value} {l : List Ent} {H H' : HF} (h : IsEnts v l H) (hle : HLe H H') : IsEnts v l H' := by
  obtain ⟨A, c, h1, h2, h3⟩ := h
  exact ⟨A, c, h1, h2, h3.mono hle⟩
theorem IsEnts.sl {v : Value} {l : List Ent} {H : HF} (h : IsEnts v l H) : IsSl 2 v l.length (entCells l) H := by
  obtain ⟨A, c, h1, h2, h3⟩ := h
  exact ⟨A, c, h1, h2, h3, entCells_length l⟩
theorem IsSl.ents {v : Value} {l : List Ent} {n : Nat} {H : HF} (h : IsSl 2 v n (entCells l) H) : IsEnts v l H := by
  obtain ⟨A, c, h1, h2, h3, h4⟩ := h
  rw [entCells_length] at h4
  obtain rfl : n = l.length := by omega
  exact ⟨A, c, h1, h2, h3⟩
theorem entCells_take (l : List Ent) (k : Nat) : (entCells l).take (k * 2) = entCells (l.take k) := by
  induction l generalizing k with
  | nil => simp [entCells]
  | cons e l ih =>
    cases k with
    | zero => simp [entCells]
    | succ k =>
      rw [show (k + 1) * 2 = k * 2 + 1 + 1 by omega]
      simp [entCells, ih]
theorem entCells_drop (l : List Ent) (k : Nat) : (entCells l).drop (k * 2) = entCells (l.drop k) := by
  induction l generalizing k with
  | nil => simp [entCells]
  | cons e l ih =>
    cases k with
    | zero => simp [entCells]
    | succ k =>
      rw [show (k + 1) * 2 = k * 2 + 1 + 1 by omega]
      simp [entCells, ih]
/-- A slice as it is handed to a list of slices. -/
structure SV where
  A : Option Addr
  n : Nat
  c : Nat
  cs : List Value
def SV.val (s : SV) : Value := .slice s.A s.n s.c
structure SvOk (sz : Nat) (H : HF) (s : SV) : Prop where
  le : s.n ≤ s.c
  at_ : SlAt H s.A s.cs
  len : s.cs.length = s.n * sz
  one : OneCells s.cs
def sumN : List SV → Nat
  | [] => 0
  | s :: l => s.n + sumN l
def catC : List SV → List Value
  | [] => []
  | s :: l => s.cs ++ catC l
theorem sumN_append (l m : List SV) : sumN (l ++ m) = sumN l + sumN m := by
  induction l with
  | nil => simp [sumN]
  | cons s l ih => simp [sumN, ih]; omega
theorem catC_append (l m : List SV) : catC (l ++ m) = catC l ++ catC m := by
  induction l with
  | nil => simp [catC]
  | cons s l ih => simp [catC, ih]
theorem sumN_le {l : List SV} {i : Nat} : sumN (l.take i) ≤ sumN l := by
  have := sumN_append (l.take i) (l.drop i)
  rw [List.take_append_drop] at this; omega
/-- A list of slices, handed on to be joined: how many elements, what cells. -/
def IsCat (sz : Nat) (v : Value) (k N : Nat) (cs : List Value) (H : HF) : Prop := ∃ A c ss, v = .slice A k c ∧ ss.length = k ∧ SlAt H A (ss.map SV.val) ∧ (∀ s ∈ ss, SvOk sz H s) ∧ sumN ss = N ∧ catC ss = cs
theorem SvOk.mono {sz : Nat} {H H' : HF} {s : SV} (h : SvOk sz H s) (hle : HLe H H') : SvOk sz H' s := ⟨h.le, h.at_.mono hle, h.len, h.one⟩
theorem IsCat.mono {sz : Nat} {v : Value} {k N : Nat} {cs : List Value} {H H' : HF} (h : IsCat sz v k N cs H) (hle : HLe H H') : IsCat sz v k N cs H' := by
  obtain ⟨A, c, ss, h1, h2, h3, h4, h5, h6⟩ := h
  exact ⟨A, c, ss, h1, h2, h3.mono hle, fun s hs => (h4 s hs).mono hle, h5, h6⟩
theorem IsSl.sv {sz : Nat} {v : Value} {n : Nat} {cs : List Value} {H : HF} (h : IsSl sz v n cs H) (h1 : OneCells cs) : ∃ s : SV, v = s.val ∧ SvOk sz H s ∧ s.n = n ∧ s.cs = cs := by
  obtain ⟨A, c, h2, h3, h4, h5⟩ := h
  exact ⟨⟨A, n, c, cs⟩, h2, ⟨h3, h4, h5, h1⟩, rfl, rfl⟩
theorem SlAt.of_row {H : HF} {b : Nat} {c : Array Value} {E : TypeId} {fr : Nat × Nat} (h : H b = some (.cells c E fr)) : SlAt H (some ⟨b, 0, none⟩) c.toList :=
  .inr ⟨b, 0, rfl, c, E, fr, h, fun i v hi => by simpa using hi⟩
theorem isCat2 {sz b n1 n2 : Nat} {cs1 cs2 : List Value} {v1 v2 : Value} {H H1 : HF} {E : TypeId} {fr : Nat × Nat} (hb : H1 b = some (.cells #[v1, v2] E fr)) (hle : HLe H H1) (h1 : IsSl sz v1 n1 cs1 H) (h2 : IsSl sz v2 n2 cs2 H) (o1 : OneCells cs1) (o2 : OneCells cs2) :
    IsCat sz (.slice (some ⟨b, 0, none⟩) 2 2) 2 (n1 + n2) (cs1 ++ cs2) H1 := by
  obtain ⟨s1, rfl, k1, rfl, rfl⟩ := h1.sv o1
  obtain ⟨s2, rfl, k2, rfl, rfl⟩ := h2.sv o2
  refine ⟨_, _, [s1, s2], rfl, rfl, SlAt.of_row hb, ?_, by simp [sumN], by simp [catC]⟩
  intro s hs
  simp at hs
  rcases hs with rfl | rfl
  · exact k1.mono hle
  · exact k2.mono hle
theorem isCat3 {sz b n1 n2 n3 : Nat} {cs1 cs2 cs3 : List Value} {v1 v2 v3 : Value} {H H1 : HF} {E : TypeId} {fr : Nat × Nat} (hb : H1 b = some (.cells #[v1, v2, v3] E fr)) (hle : HLe H H1) (h1 : IsSl sz v1 n1 cs1 H) (h2 : IsSl sz v2 n2 cs2 H) (h3 : IsSl sz v3 n3 cs3 H)
    (o1 : OneCells cs1) (o2 : OneCells cs2) (o3 : OneCells cs3) : IsCat sz (.slice (some ⟨b, 0, none⟩) 3 3) 3 (n1 + (n2 + n3)) (cs1 ++ (cs2 ++ cs3)) H1 := by
  obtain ⟨s1, rfl, k1, rfl, rfl⟩ := h1.sv o1
  obtain ⟨s2, rfl, k2, rfl, rfl⟩ := h2.sv o2
  obtain ⟨s3, rfl, k3, rfl, rfl⟩ := h3.sv o3
  refine ⟨_, _, [s1, s2, s3], rfl, rfl, SlAt.of_row hb, ?_, by simp [sumN], by simp [catC]⟩
  intro s hs
  simp at hs
  rcases hs with rfl | rfl | rfl
  · exact k1.mono hle
  · exact k2.mono hle
  · exact k3.mono hle
theorem EntsAt.slTake {H : HF} {A : Option Addr} {l : List Ent} {c k : Nat} (h : EntsAt H A l) (hk : k ≤ l.length) (hc : l.length ≤ c) : IsSl 2 (.slice A k c) k (entCells (l.take k)) H :=
  ⟨A, c, rfl, by omega, by rw [← entCells_take]; exact SlAt.take h _, by rw [entCells_length]; simp; omega⟩
theorem EntsAt.slDrop {H : HF} {A : Option Addr} {l : List Ent} {c k : Nat} (h : EntsAt H A l) (hk : k ≤ l.length) (hc : l.length ≤ c) : IsSl 2 (.slice (slAddr A c k 2) (l.length - k) (c - k)) (l.length - k) (entCells (l.drop k)) H :=
  ⟨_, _, rfl, by omega, by rw [← entCells_drop]; exact SlAt.drop h (entCells_length l) hc, by rw [entCells_length]; simp⟩
theorem take_succ' {α : Type} {l : List α} {i : Nat} (h : i < l.length) : l.take (i + 1) = l.take i ++ [l[i]] := by
  rw [List.take_succ_eq_append_getElem h]
end Go.Proofs.Ytnjeoobcejlojaa
