/- Maps: a new one, its length, a round over an empty one. Conditions: each law's own premises. -/
import Derived.Test.YtlkbdgfipdeloaaMut
import Derived.Maps.RangeRun
namespace Go.Proofs.Ytlkbdgfipdeloaa
open Go.Proofs Go.RowKit
set_option linter.unusedVariables false
section
variable {P : Program} {r : Option Nat} {f : Fr} {H : HF} {w : World} {K : Value → World → Prop} {d : Option Nat} {ty : TypeId} {pos : String} {af : Array Edge} {g : Option (Nat × Bool)} {T k e : TypeId} {x : Operand}
theorem W_makeMap (hS : Sub H w) (hk : ∀ H' w' b, Grow H w H' w' → H' b = some (.map #[] 0) → K (.map (some b)) w') : OpW P r ⟨d, .makeMap T none, ty, pos, af, g⟩ f w K :=
  OpW_val (v := .map (some w.heap.size)) (w' := w.alloc (.map #[] 0)) (by simp) (by
    simp [execOp, Instr.makeMap, newObj, Sem.run]) (hk _ _ _ (Grow.alloc hS _) (ins_self _ _ _))
theorem W_lenMap {b clock : Nat} {es : Array MapEntry} (ht : P.underlying T = some (.map k e)) (hx : ev f x = .map (some b)) (hS : Sub H w) (hb : H b = some (.map es clock)) (hk : K (.int .i64 (es.size : Nat)) w) :
    OpW P r ⟨d, .call { callee := .builtin .len, args := #[x], argTypes := #[T] }, ty, pos, af, g⟩ f w K :=
  OpW_val (v := .int .i64 (es.size : Nat)) (w' := w) (by simp) (by
    have h1 : w.heap[b]? = some (.map es clock) := hS.out _ _ hb
    simp [execOp, resolve, invoke, builtin, Builtin.len_, hx, run_underlying ht, getObj, Sem.run, h1, goInt]) hk
theorem W_rangeMap {b clock : Nat} {es : Array MapEntry} (ht : P.underlying T = some (.map k e)) (hx : ev f x = .map (some b)) (hS : Sub H w) (hb : H b = some (.map es clock))
    (hk : ∀ H' w' c, Grow H w H' w' → H' c = some (.mapIter (some b) clock #[] clock) → K (.pointer (some ⟨c, 0, none⟩)) w') : OpW P r ⟨d, .range T x, ty, pos, af, g⟩ f w K :=
  OpW_val (v := .pointer (some ⟨w.heap.size, 0, none⟩)) (w' := w.alloc (.mapIter (some b) clock #[] clock)) (by simp) (by
    have h1 : w.heap[b]? = some (.map es clock) := hS.out _ _ hb
    simp [execOp, Instr.range, hx, run_underlying ht, getObj, Sem.run, h1, newObj]) (hk _ _ _ (Grow.alloc hS _) (ins_self _ _ _))
theorem W_nextDone {b c clock : Nat} (hx : ev f x = .pointer (some ⟨c, 0, none⟩)) (hS : Sub H w) (hb : H b = some (.map #[] clock)) (hc : H c = some (.mapIter (some b) clock #[] clock)) (hk : K (.tuple #[.bool false]) w) :
    OpW P r ⟨d, .next x false, ty, pos, af, g⟩ f w K :=
  OpW_val (v := .tuple #[.bool false]) (w' := w) (by simp) (by
    rcases run_next_at (P := P) w ty c b clock clock #[] #[] clock (hS.out _ _ hc) (hS.out _ _ hb) (by simp) (Nat.le_refl _) with ⟨_, h⟩ | ⟨e, he, _⟩
    · simp [execOp, hx, h]
    · simp [leftOf] at he) hk
end
end Go.Proofs.Ytlkbdgfipdeloaa
