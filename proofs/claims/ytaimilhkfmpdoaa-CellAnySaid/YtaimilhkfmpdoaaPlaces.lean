/- Words of a memory by whatever number. Conditions: none. -/
import Derived.Test.YtaimilhkfmpdoaaMemBase
namespace Go.Proofs.Ytaimilhkfmpdoaa
open Go.RowKit
set_option linter.unusedVariables false
def thereB (n : Nat) (i : Int) : Bool := decide (0 ≤ i) && decide (i < (n : Int))
def thereN (n : Nat) (i : Int) : Nat := if thereB n i then 1 else 0
def errI (n : Nat) (i : Int) : Nat := if thereB n i then 0 else 1
theorem there_cases (n : Nat) (i : Int) : (thereB n i = true ∧ ∃ q : Nat, i = (q : Int) ∧ q < n) ∨ (thereB n i = false ∧ (i < 0 ∨ (n : Int) ≤ i)) := by
  by_cases h : 0 ≤ i ∧ i < (n : Int)
  · exact .inl ⟨by simp [thereB, h.1, h.2], i.toNat, by omega, by omega⟩
  · refine .inr ⟨?_, by omega⟩
    unfold thereB
    by_cases h1 : 0 ≤ i
    · simp [h1]; omega
    · simp [h1]
section
variable {α : Type} [Inhabited α]
def getI (ws : List α) (i : Int) : α := if thereB ws.length i then nth ws i.toNat else default
def storeI (ws : List α) (i : Int) (x : α) : List α := if thereB ws.length i then ws.set i.toNat x else ws
def casB [DecidableEq α] (ws : List α) (i : Int) (x : α) : Bool := thereB ws.length i && decide (nth ws i.toNat = x)
def casI [DecidableEq α] (ws : List α) (i : Int) (x y : α) : List α := if casB ws i x then ws.set i.toNat y else ws
end
theorem thereN_le (n : Nat) (i : Int) : thereN n i ≤ 1 := by unfold thereN; split <;> omega
end Go.Proofs.Ytaimilhkfmpdoaa
