/- Two nodes of one block are one. Conditions: none; they lie in the heap. -/
import Derived.Test.YtnjeoobcejlojaaPtrEq
namespace Go.Proofs.Ytnjeoobcejlojaa
open Go.Proofs Go.RowKit
set_option linter.unusedVariables false
theorem SlAt.unique {H : HF} {A : Option Addr} {vs vs' : List Value} (h : SlAt H A vs) (k : SlAt H A vs') (hl : vs.length = vs'.length) : vs = vs' := by
  rcases h with rfl | ⟨b, off, rfl, c, E, fr, h1, h2⟩
  · exact (List.length_eq_zero_iff.1 hl.symm).symm
  · rcases k with rfl | ⟨b', off', e, c', E', fr', k1, k2⟩
    · exact List.length_eq_zero_iff.1 hl
    · cases e
      rw [h1] at k1
      cases k1
      apply List.ext_getElem?
      intro i
      by_cases hi : i < vs.length
      · have a1 : vs[i]? = some vs[i] := List.getElem?_eq_getElem hi
        have a2 : vs'[i]? = some vs'[i] := List.getElem?_eq_getElem (hl ▸ hi)
        have b1 := h2 i _ a1
        have b2 := k2 i _ a2
        rw [b1] at b2
        rw [a1, a2]; exact b2
      · rw [List.getElem?_eq_none (by omega), List.getElem?_eq_none (by omega)]
theorem entCells_inj : ∀ {l m : List Ent}, entCells l = entCells m → l = m
  | [], [], _ => rfl
  | [], b :: m, h => by simp [entCells] at h
  | a :: l, [], h => by simp [entCells] at h
  | ⟨k, v⟩ :: l, ⟨k', v'⟩ :: m, h => by
    have e : ∀ (x : Ent) (n : List Ent), entCells (x :: n) = .string x.key :: .string x.val :: entCells n := fun x n => by simp [entCells]
    rw [e, e] at h
    simp only [List.cons.injEq, Value.string.injEq] at h
    obtain ⟨rfl, rfl, h3⟩ := h
    rw [entCells_inj h3]
theorem Nd.unique {H : HF} : ∀ (h : Nat) (x y : Nd h), NodeAt H h x → NodeAt H h y → x.blk = y.blk → x = y
  | 0, (b, l), (b', m), ⟨_, A, c, ⟨E, h2⟩, _, h4⟩, ⟨_, A', c', ⟨E', k2⟩, _, k4⟩, e => by
    have e' : b = b' := e
    subst e'
    have h2' : H b = some (.cells #[.slice A l.length c, .slice none 0 0, .int .i64 ((1 : Nat) : Int), .string (Nd.lo (h := 0) (b, l)), .string (Nd.hi (h := 0) (b, l))] E (0, 0)) := h2
    have k2' : H b = some (.cells #[.slice A' m.length c', .slice none 0 0, .int .i64 ((1 : Nat) : Int), .string (Nd.lo (h := 0) (b, m)), .string (Nd.hi (h := 0) (b, m))] E' (0, 0)) := k2
    rw [h2'] at k2'
    simp at k2'
    obtain ⟨⟨⟨rfl, hl, rfl⟩, _⟩, _⟩ := k2'
    have := entCells_inj (SlAt.unique (show SlAt H A (entCells l) from h4) (show SlAt H A (entCells m) from k4) (by rw [entCells_length, entCells_length, hl]))
    subst this
    rfl
  | h + 1, (b, l), (b', m), ⟨_, ⟨B, d, ⟨E, h2⟩, _, h4⟩, h5⟩, ⟨_, ⟨B', d', ⟨E', k2⟩, _, k4⟩, k5⟩, e => by
    have e' : b = b' := e
    subst e'
    have h2' : H b = some (.cells #[.slice none 0 0, .slice B l.length d, .int .i64 ((h + 2 : Nat) : Int), .string (Nd.lo (h := h + 1) (b, l)), .string (Nd.hi (h := h + 1) (b, l))] E (0, 0)) := h2
    have k2' : H b = some (.cells #[.slice none 0 0, .slice B' m.length d', .int .i64 ((h + 2 : Nat) : Int), .string (Nd.lo (h := h + 1) (b, m)), .string (Nd.hi (h := h + 1) (b, m))] E' (0, 0)) := k2
    rw [h2'] at k2'
    simp at k2'
    obtain ⟨⟨⟨rfl, hl, rfl⟩, _⟩, _⟩ := k2'
    have hp := SlAt.unique (show SlAt H B (l.map Nd.ptr) from h4) (show SlAt H B (m.map Nd.ptr) from k4) (by simp [hl])
    have : l = m := by
      apply List.ext_getElem hl
      intro i hi hi'
      refine Nd.unique h _ _ (h5 _ (List.getElem_mem hi)) (k5 _ (List.getElem_mem hi')) ?_
      have := congrArg (fun z => z[i]?) hp
      simp [hi, hi', Nd.ptr] at this
      exact this
    subst this
    rfl
theorem Tr.unique {H : HF} {s t : Tr} (hs : Tr.At H s) (ht : Tr.At H t) (h : sameT s t = true) : s = t := by
  match s, t, h with
  | none, none, _ => rfl
  | some ⟨h1, x⟩, some ⟨h2, y⟩, h =>
    have hb : x.blk = y.blk := by simpa [sameT] using h
    have hx : NodeAt H h1 x := hs
    have hy : NodeAt H h2 y := ht
    obtain ⟨A, c, B, d, ⟨E, e1⟩, _⟩ := hx.raw
    obtain ⟨A', c', B', d', ⟨E', e2⟩, _⟩ := hy.raw
    rw [hb, e2] at e1
    simp at e1
    have hh : h2 = h1 := by have := e1.1.2.2.1; omega
    subst hh
    rw [Nd.unique h2 x y hx hy hb]
theorem sameT_iff {H : HF} {s t : Tr} (hs : Tr.At H s) (ht : Tr.At H t) : sameT s t = true ↔ s = t := ⟨Tr.unique hs ht, fun e => by subst e; exact sameT_refl _⟩
end Go.Proofs.Ytnjeoobcejlojaa
