/- Arguments of the histories' types, opened. Conditions: none. -/
import Derived.Test.YtcbboghjocoiiaaOpenEnt
import Derived.Test.YtcbboghjocoiiaaLaw20
import Derived.Test.YtcbboghjocoiiaaCalls
namespace Go.Proofs.Ytcbboghjocoiiaa
open Go.Proofs Go.RowKit
set_option linter.unusedVariables false
def Call.Ok (x : Call) : Prop := x.key.size ≤ reachBytes ∧ x.val.size ≤ reachBytes
def Don.Ok (d : Don) : Prop := d.x.Ok ∧ d.r.val.size ≤ reachBytes
section
variable {H : Type} {enc : TypeId × Value → H} {W : World}
theorem readCall {cs : List Value} (h : Trd enc Try.prog W 25 cs) : ∃ x, cs = callCells x ∧ x.Ok := by
  obtain ⟨h1, h2, h3, h4, _⟩ := h.struct
  match cs, h1 with
  | [a, b, c], _ =>
    obtain ⟨n, e1, _⟩ := h2.int
    obtain ⟨s, e2, w2⟩ := h3.str
    obtain ⟨t, e3, w3⟩ := h4.str
    simp at e1 e2 e3
    subst e1 e2 e3
    exact ⟨⟨n, s, t⟩, rfl, w2, w3⟩
theorem readRep {cs : List Value} (h : Trd enc Try.prog W 30 cs) : ∃ r, cs = repCells r ∧ r.val.size ≤ reachBytes := by
  obtain ⟨h1, h2, h3, h4, h5, _⟩ := h.struct
  match cs, h1 with
  | [a, b, c, d], _ =>
    obtain ⟨n, e1, _⟩ := h2.int
    obtain ⟨s, e2, w2⟩ := h3.str
    obtain ⟨t, e3⟩ := h4.bool
    obtain ⟨m, e4, _⟩ := h5.int
    simp at e1 e2 e3 e4
    subst e1 e2 e3 e4
    exact ⟨⟨n, s, t, m⟩, rfl, w2⟩
theorem readDon {cs : List Value} (h : Trd enc Try.prog W 43 cs) : ∃ d, cs = donCells d ∧ d.Ok := by
  obtain ⟨h1, h2, h3, h4, h5, _⟩ := h.struct
  match cs, h1 with
  | [a0, a1, a2, a3, a4, a5, a6, a7, a8], _ =>
    obtain ⟨x, e1, w1⟩ := readCall h2
    obtain ⟨r, e2, w2⟩ := readRep h3
    obtain ⟨n, e3, _⟩ := h4.int
    obtain ⟨m, e4, _⟩ := h5.int
    simp [callCells] at e1
    simp [repCells] at e2
    simp at e3 e4
    obtain ⟨rfl, rfl, rfl⟩ := e1
    obtain ⟨rfl, rfl, rfl, rfl⟩ := e2
    subst e3 e4
    exact ⟨⟨x, r, n, m⟩, rfl, w1, w2⟩
theorem openDons {v : Value} (h : Opn enc Try.prog W 23 v) : ∃ A c l, v = .slice A l.length c ∧ l.length ≤ c ∧ DonsAt (snap W) A l ∧ (∀ d ∈ l, d.Ok) ∧ l.length * 96 ≤ reachBytes := by
  obtain ⟨A, n, c, css, rfl, h2, h3, h4, h5, h6, h7⟩ := h.slice
  obtain ⟨l, rfl, hl⟩ := decode donCells Don.Ok css (fun x hx => readDon (h4 x hx).1)
  simp at h3
  subst h3
  rw [← dons_map] at h5
  exact ⟨A, c, l, rfl, h2, h5, hl, h6⟩
theorem openCalls {v : Value} (h : Opn enc Try.prog W 45 v) : ∃ A c l, v = .slice A l.length c ∧ l.length ≤ c ∧ CallsAt (snap W) A l ∧ (∀ x ∈ l, x.Ok) ∧ l.length * 40 ≤ reachBytes := by
  obtain ⟨A, n, c, css, rfl, h2, h3, h4, h5, h6, h7⟩ := h.slice
  obtain ⟨l, rfl, hl⟩ := decode callCells Call.Ok css (fun x hx => readCall (h4 x hx).1)
  simp at h3
  subst h3
  rw [← cls_map] at h5
  exact ⟨A, c, l, rfl, h2, h5, hl, h6⟩
theorem openCall {v : Value} (h : Opn enc Try.prog W 25 v) : ∃ x : Call, v = .agg (callCells x).toArray ∧ x.Ok := by
  obtain ⟨cs, rfl, _, _⟩ := h.struct
  obtain ⟨e, h1, h2⟩ := readCall h.2
  simp [Value.cells] at h1
  subst h1
  exact ⟨e, rfl, h2⟩
theorem openRep {v : Value} (h : Opn enc Try.prog W 30 v) : ∃ r : Rep4, v = .agg (repCells r).toArray ∧ r.val.size ≤ reachBytes := by
  obtain ⟨cs, rfl, _, _⟩ := h.struct
  obtain ⟨e, h1, h2⟩ := readRep h.2
  simp [Value.cells] at h1
  subst h1
  exact ⟨e, rfl, h2⟩
theorem Call.Ok.sz {x : Call} (h : x.Ok) : SzC x := by
  obtain ⟨h1, h2⟩ := h
  simp only [reachBytes] at h1 h2
  exact ⟨by omega, by omega⟩
theorem szD_of {l : List Don} (h : ∀ d ∈ l, d.Ok) (hb : l.length * 96 ≤ reachBytes) : SzD l := by
  simp only [reachBytes] at hb
  refine ⟨by omega, fun d hd => ?_⟩
  obtain ⟨h1, h2⟩ := h d hd
  simp only [reachBytes] at h2
  exact ⟨h1.sz, by omega⟩
theorem szE_of {l : List Ent} (h : Small l) (hb : l.length * 32 ≤ reachBytes) : SzE l := by
  simp only [reachBytes] at hb
  refine ⟨by omega, fun e he => ?_⟩
  have := h e he
  simp only [SmallE, reachBytes] at this
  omega
end
end Go.Proofs.Ytcbboghjocoiiaa
