/- Arguments that are calls of a memory, opened. Conditions: each law's own premises. -/
import Derived.Test.YtaimilhkfmpdoaaTyb
namespace Go.Proofs.Ytaimilhkfmpdoaa
open Go.Proofs Go.RowKit
set_option linter.unusedVariables false
/-- A call: Kind, I, Old, X. -/
structure Op8 where
  kind : Int
  i : Int
  old : Int
  x : Int
def Op8.Ok (o : Op8) : Prop := (-9223372036854775808 ≤ o.kind ∧ o.kind ≤ 9223372036854775807) ∧ (-9223372036854775808 ≤ o.i ∧ o.i ≤ 9223372036854775807) ∧ (-9223372036854775808 ≤ o.old ∧ o.old ≤ 9223372036854775807) ∧ (-9223372036854775808 ≤ o.x ∧ o.x ≤ 9223372036854775807)
def op8Cell (o : Op8) : List Value := [.int .i64 o.kind, .int .i64 o.i, .int .i64 o.old, .int .i64 o.x]
theorem wf_i64 {n : Int} (h : (Lit.int .i64 n).wf = true) : -9223372036854775808 ≤ n ∧ n ≤ 9223372036854775807 := by
  have : IntKind.i64.min ≤ n ∧ n ≤ IntKind.i64.max := by simpa [Lit.wf] using h
  exact this
section
variable {H : Type} {enc : TypeId × Value → H} {W : World}
theorem readOp8 {cs : List Value} (h : Trd enc Try.prog W 29 cs) : ∃ o, cs = op8Cell o ∧ o.Ok := by
  obtain ⟨h1, h2, h3, h4, h5, _⟩ := h.struct
  match cs, h1 with
  | [a, b, c, d], _ =>
    obtain ⟨k, e1, w1⟩ := h2.int
    obtain ⟨i, e2, w2⟩ := h3.int
    obtain ⟨o, e3, w3⟩ := h4.int
    obtain ⟨x, e4, w4⟩ := h5.int
    simp at e1 e2 e3 e4
    subst e1 e2 e3 e4
    exact ⟨⟨k, i, o, x⟩, rfl, wf_i64 w1, wf_i64 w2, wf_i64 w3, wf_i64 w4⟩
theorem openOp8 {v : Value} (h : Opn enc Try.prog W 29 v) : ∃ o : Op8, v = .agg (op8Cell o).toArray ∧ o.Ok := by
  obtain ⟨cs, rfl, _, _⟩ := h.struct
  obtain ⟨e, h1, h2⟩ := readOp8 h.2
  simp [Value.cells] at h1
  subst h1
  exact ⟨e, rfl, h2⟩
def ops8 (l : List Op8) : List Value := (l.map op8Cell).flatten
theorem openOps8 {v : Value} (h : Opn enc Try.prog W 22 v) : ∃ A c l, v = .slice A l.length c ∧ l.length ≤ c ∧ SlAt (snap W) A (ops8 l) ∧ (∀ o ∈ l, o.Ok) ∧ l.length * 32 ≤ reachBytes := by
  obtain ⟨A, n, c, css, rfl, h2, h3, h4, h5, h6, h7⟩ := h.slice
  obtain ⟨l, rfl, hl⟩ := decode op8Cell Op8.Ok css (fun x hx => readOp8 (h4 x hx).1)
  simp at h3
  subst h3
  exact ⟨A, c, l, rfl, h2, h5, hl, h6⟩
end
end Go.Proofs.Ytaimilhkfmpdoaa
