/- What single operations do, as laws over any program. Conditions: each law's own premises. -/
import Derived.Test.YtnjeoobcejlojaaBase
import Derived.RangeFuncCalls
import Derived.Laws.Cells
import Derived.Laws.IdiomCopy
import Derived.Laws.BytesArg
import Derived.IntWalk
import Derived.Laws.Strings
namespace Go.Proofs.Ytnjeoobcejlojaa
open Go.RowKit
set_option linter.unusedVariables false
set_option linter.unusedSimpArgs false

/-! ### What is known of a type -/
class TyOne (P : Program) (T : TypeId) : Prop where
  agg : ∀ w, (isAgg T).run P w = .ok false w
  size : ∀ w, (sizeOf T).run P w = .ok 1 w
class TyAgg (P : Program) (T : TypeId) : Prop where
  agg : ∀ w, (isAgg T).run P w = .ok true w
class TySize (P : Program) (T : TypeId) (s : outParam Nat) : Prop where
  size : ∀ w, (sizeOf T).run P w = .ok s w
class TySlice (P : Program) (T : TypeId) (E : outParam TypeId) : Prop where
  out : P.underlying T = some (.slice E)
class TyStruct (P : Program) (T : TypeId) (fs : outParam (Array Field)) : Prop where
  out : P.underlying T = some (.struct fs)
/-- A struct's fields. -/
def fieldsOf : TypeDesc → Array Field | .struct fs => fs | _ => #[]
class TyPtr (P : Program) (T : TypeId) (E : outParam TypeId) : Prop where
  out : P.underlying T = some (.pointer E)
class TyStr (P : Program) (T : TypeId) : Prop where
  out : P.underlying T = some .string
class TyInt (P : Program) (T : TypeId) (k : outParam IntKind) : Prop where
  out : P.underlying T = some (.int k)
class TyBool (P : Program) (T : TypeId) : Prop where
  out : P.underlying T = some .bool
class TyZero (P : Program) (T : TypeId) (z : outParam Value) : Prop where
  out : ∀ w, (zeroValue T).run P w = .ok z w
class TyElem (P : Program) (T : TypeId) (s b : outParam Nat) : Prop where
  out : ∃ i z, P.info? T = some i ∧ i.zero = some z ∧ z.cells.size = s ∧ i.size = s ∧ i.bytes = b
class TyInfo (P : Program) (T : TypeId) (i : outParam TypeInfo) : Prop where
  out : P.info? T = some i

section
variable {P : Program} {r : Option Nat} {f : Fr} {w : World} {K : Value → World → Prop} {d : Option Nat} {ty : TypeId} {pos : String} {af : Array Edge} {g : Option (Nat × Bool)}

theorem OpW_val {o : Oper} {v : Value} {w' : World} (hd : ∀ c, o.op ≠ .defer c) (h : (execOp (ev f) o).run P w = .ok (.value v) w') (hk : K v w') : OpW P r o f w K := by
  intro a n ha Q
  refine ⟨fun _ _ => trivial, ?_⟩
  rw [Oper.semAt_eq _ _ _ hd, ha.eval, h]
  exact ⟨v, rfl, hk⟩
theorem OpW_skip {o : Oper} {w' : World} (hd : ∀ c, o.op ≠ .defer c) (h : (execOp (ev f) o).run P w = .ok .skip w') (hk : K undef w') : OpW P r o f w K := by
  intro a n ha Q
  refine ⟨fun _ _ => trivial, ?_⟩
  rw [Oper.semAt_eq _ _ _ hd, ha.eval, h]
  exact ⟨undef, rfl, hk⟩
/-- A call that returns. -/
def CallW (P : Program) (k : FuncId) (args : Array Value) (w : World) (R : Value → World → Prop) : Prop :=
  Calls P k args w fun e w' => ∃ v, e = .returned v ∧ R v w'
theorem CallW.mono {k : FuncId} {args : Array Value} {R R' : Value → World → Prop} (h : CallW P k args w R) (hr : ∀ v w', R v w' → R' v w') : CallW P k args w R' :=
  Calls.mono h fun _ _ ⟨v, e, hR⟩ => ⟨v, e, hr _ _ hR⟩
theorem callsIn_of {k : FuncId} {args : Array Value} {R : Ending → World → Prop} (h : Calls P k args w R) : CallsIn (FW r) 0 P k args w R := by
  cases r with
  | none => exact callsIn_wide.2 h
  | some l => exact CallsIn.inRound l (callsIn_wide.2 h)
theorem OpW_enter {o : Oper} {k : FuncId} {args : Array Value} {w' : World} (hd : ∀ c, o.op ≠ .defer c) (h : (execOp (ev f) o).run P w = .ok (.enter k args) w') (hk : CallW P k args w' K) : OpW P r o f w K := by
  intro a n ha Q
  refine ⟨fun _ _ => trivial, ?_⟩
  rw [Oper.semAt_eq _ _ _ hd, ha.eval, h]
  refine ⟨fun h => by simp [FW] at h, ?_⟩
  refine (callsIn_of (r := r) hk).mono ?_
  rintro e w'' ⟨v, rfl, hK⟩
  exact ⟨v, rfl, hK⟩

/-! ### Regions, stepwise -/
variable {ops : Array Oper} {o : Oper} {rest : List Oper} {Q : Fr → World → Prop}
theorem S_nil (h : Q f w) : SeqW P r ops Q [] f w := h
variable {t : Nat} {p : Op}
theorem S_op (h : OpW P r ⟨some t, p, ty, pos, af, none⟩ f w (fun v w' => SeqW P r ops Q rest (upd f t v) w')) : SeqW P r ops Q (⟨some t, p, ty, pos, af, none⟩ :: rest) f w := by
  simp only [SeqW, wantF, if_true]; exact h
theorem S_op0 (h : OpW P r ⟨none, p, ty, pos, af, none⟩ f w (fun v w' => SeqW P r ops Q rest f w')) : SeqW P r ops Q (⟨none, p, ty, pos, af, none⟩ :: rest) f w := by
  simp only [SeqW, wantF, if_true]; exact h
theorem S_want {j : Nat} {b : Bool} (hy : yieldF ops f j = some b) (h : OpW P r ⟨some t, p, ty, pos, af, some (j, b)⟩ f w (fun v w' => SeqW P r ops Q rest (upd f t v) w')) : SeqW P r ops Q (⟨some t, p, ty, pos, af, some (j, b)⟩ :: rest) f w := by
  have : wantF ops ⟨some t, p, ty, pos, af, some (j, b)⟩ f = true := by simp [wantF, hy]
  simp only [SeqW, this, if_true]; exact h
theorem S_pass {j : Nat} {b : Bool} (hy : yieldF ops f j = some (!b)) (h : SeqW P r ops Q rest (upd f t undef) w) : SeqW P r ops Q (⟨some t, p, ty, pos, af, some (j, b)⟩ :: rest) f w := by
  have : wantF ops ⟨some t, p, ty, pos, af, some (j, b)⟩ f = false := by simp [wantF, hy]
  simp only [SeqW, this, Bool.false_eq_true, if_false]; exact h

section guards
variable {T T' : TypeId} {x y i : Operand} {n : Nat} {c : Call} {u : UnOp} {parts : Array (Nat × Operand)} {o1 o2 o3 : Option Operand}
theorem G_move (h : OpW P r ⟨d, .move x, ty, pos, af, g⟩ f w K) : OpW P r ⟨d, .move x, ty, pos, af, g⟩ f w K := h
theorem G_assign (h : OpW P r ⟨d, .assign x, ty, pos, af, g⟩ f w K) : OpW P r ⟨d, .assign x, ty, pos, af, g⟩ f w K := h
theorem G_load (h : OpW P r ⟨d, .load T x, ty, pos, af, g⟩ f w K) : OpW P r ⟨d, .load T x, ty, pos, af, g⟩ f w K := h
theorem G_index (h : OpW P r ⟨d, .indexAddr T x i, ty, pos, af, g⟩ f w K) : OpW P r ⟨d, .indexAddr T x i, ty, pos, af, g⟩ f w K := h
theorem G_field (h : OpW P r ⟨d, .fieldAddr T x n, ty, pos, af, g⟩ f w K) : OpW P r ⟨d, .fieldAddr T x n, ty, pos, af, g⟩ f w K := h
theorem G_call (h : OpW P r ⟨d, .call c, ty, pos, af, g⟩ f w K) : OpW P r ⟨d, .call c, ty, pos, af, g⟩ f w K := h
theorem G_pick (h : OpW P r ⟨d, .pick x y i, ty, pos, af, g⟩ f w K) : OpW P r ⟨d, .pick x y i, ty, pos, af, g⟩ f w K := h
theorem G_extract (h : OpW P r ⟨d, .extract x n, ty, pos, af, g⟩ f w K) : OpW P r ⟨d, .extract x n, ty, pos, af, g⟩ f w K := h
theorem G_nilCheck (h : OpW P r ⟨d, .nilCheck x, ty, pos, af, g⟩ f w K) : OpW P r ⟨d, .nilCheck x, ty, pos, af, g⟩ f w K := h
theorem G_not (h : OpW P r ⟨d, .unOp u T x, ty, pos, af, g⟩ f w K) : OpW P r ⟨d, .unOp u T x, ty, pos, af, g⟩ f w K := h
theorem G_build (h : OpW P r ⟨d, .build T parts, ty, pos, af, g⟩ f w K) : OpW P r ⟨d, .build T parts, ty, pos, af, g⟩ f w K := h
theorem G_slice (h : OpW P r ⟨d, .slice T x o1 o2 o3, ty, pos, af, g⟩ f w K) : OpW P r ⟨d, .slice T x o1 o2 o3, ty, pos, af, g⟩ f w K := h
theorem G_add (h : OpW P r ⟨d, .binOp .add T x y T', ty, pos, af, g⟩ f w K) : OpW P r ⟨d, .binOp .add T x y T', ty, pos, af, g⟩ f w K := h
theorem G_sub (h : OpW P r ⟨d, .binOp .sub T x y T', ty, pos, af, g⟩ f w K) : OpW P r ⟨d, .binOp .sub T x y T', ty, pos, af, g⟩ f w K := h
theorem G_quo (h : OpW P r ⟨d, .binOp .quo T x y T', ty, pos, af, g⟩ f w K) : OpW P r ⟨d, .binOp .quo T x y T', ty, pos, af, g⟩ f w K := h
theorem G_lss (h : OpW P r ⟨d, .binOp .lss T x y T', ty, pos, af, g⟩ f w K) : OpW P r ⟨d, .binOp .lss T x y T', ty, pos, af, g⟩ f w K := h
theorem G_leq (h : OpW P r ⟨d, .binOp .leq T x y T', ty, pos, af, g⟩ f w K) : OpW P r ⟨d, .binOp .leq T x y T', ty, pos, af, g⟩ f w K := h
theorem G_gtr (h : OpW P r ⟨d, .binOp .gtr T x y T', ty, pos, af, g⟩ f w K) : OpW P r ⟨d, .binOp .gtr T x y T', ty, pos, af, g⟩ f w K := h
theorem G_geq (h : OpW P r ⟨d, .binOp .geq T x y T', ty, pos, af, g⟩ f w K) : OpW P r ⟨d, .binOp .geq T x y T', ty, pos, af, g⟩ f w K := h
theorem G_eql (h : OpW P r ⟨d, .binOp .eql T x y T', ty, pos, af, g⟩ f w K) : OpW P r ⟨d, .binOp .eql T x y T', ty, pos, af, g⟩ f w K := h
theorem G_neq (h : OpW P r ⟨d, .binOp .neq T x y T', ty, pos, af, g⟩ f w K) : OpW P r ⟨d, .binOp .neq T x y T', ty, pos, af, g⟩ f w K := h
end guards
/-! ### The operations -/
theorem W_move {x : Operand} {v : Value} (hx : ev f x = v) (hk : K v w) : OpW P r ⟨d, .move x, ty, pos, af, g⟩ f w K :=
  OpW_val (by simp) (by simp only [execOp, hx]; rfl) hk
theorem W_assign {x : Operand} {v : Value} (hx : ev f x = v) (hk : K v w) : OpW P r ⟨d, .assign x, ty, pos, af, g⟩ f w K :=
  OpW_val (by simp) (by simp only [execOp, hx]; rfl) hk
theorem W_pick {c x y : Operand} {b : Bool} {v : Value} (hc : ev f c = .bool b) (hv : (if b then ev f x else ev f y) = v) (hk : K v w) : OpW P r ⟨d, .pick c x y, ty, pos, af, g⟩ f w K :=
  OpW_val (by simp) (by simp only [execOp, hc, asBool]; subst hv; cases b <;> rfl) hk
theorem W_extract {x : Operand} {vs : Array Value} {i : Nat} {v : Value} (hx : ev f x = .tuple vs) (hv : vs[i]? = some v) (hk : K v w) : OpW P r ⟨d, .extract x i, ty, pos, af, g⟩ f w K :=
  OpW_val (by simp) (by simp only [execOp, hx, Instr.extract, hv]; rfl) hk
theorem W_nilCheck {x : Operand} {a : Addr} (hx : ev f x = .pointer (some a)) (hk : K (.pointer (some a)) w) : OpW P r ⟨d, .nilCheck x, ty, pos, af, g⟩ f w K :=
  OpW_val (by simp) (by simp only [execOp, hx]; rfl) hk
theorem W_nilCheckF {x : Operand} {k : FuncId} {fi ca : Array Value} (hx : ev f x = .func (.func k) fi ca) (hk : K (.func (.func k) fi ca) w) : OpW P r ⟨d, .nilCheck x, ty, pos, af, g⟩ f w K :=
  OpW_val (by simp) (by simp only [execOp, hx]; rfl) hk
theorem W_not {T : TypeId} {x : Operand} {b : Bool} (hx : ev f x = .bool b) (hk : K (.bool (!b)) w) : OpW P r ⟨d, .unOp .not T x, ty, pos, af, g⟩ f w K :=
  OpW_val (by simp) (by simp only [execOp, hx, Op.unary]; rfl) hk

theorem W_bin {b : BinOp} {T T' : TypeId} {x y : Operand} {u v z : Value} (hx : ev f x = u) (hy : ev f y = v) (hg : (eqGuard b T x y u v).run P w = .ok () w) (h : (binOp b T u v).run P w = .ok z w) (hk : K z w) :
    OpW P r ⟨d, .binOp b T x y T', ty, pos, af, g⟩ f w K :=
  OpW_val (by simp) (by simp [execOp, hx, hy, hg, h]) hk
section ints
variable {T T' : TypeId} {x y : Operand} {k : IntKind} {m n : Int}
theorem W_add {q : Int} (hx : ev f x = .int k m) (hy : ev f y = .int k n) (hq : k.wrap (m + n) = q) (hk : K (.int k q) w) : OpW P r ⟨d, .binOp .add T x y T', ty, pos, af, g⟩ f w K :=
  W_bin hx hy rfl (by simp [binOp, Op.intArith, hq]) hk
theorem W_sub {q : Int} (hx : ev f x = .int k m) (hy : ev f y = .int k n) (hq : k.wrap (m - n) = q) (hk : K (.int k q) w) : OpW P r ⟨d, .binOp .sub T x y T', ty, pos, af, g⟩ f w K :=
  W_bin hx hy rfl (by simp [binOp, Op.intArith, hq]) hk
theorem W_mul {q : Int} (hx : ev f x = .int k m) (hy : ev f y = .int k n) (hq : k.wrap (m * n) = q) (hk : K (.int k q) w) : OpW P r ⟨d, .binOp .mul T x y T', ty, pos, af, g⟩ f w K :=
  W_bin hx hy rfl (by simp [binOp, Op.intArith, hq]) hk
theorem W_quo {q : Int} (hx : ev f x = .int k m) (hy : ev f y = .int k n) (hn : n ≠ 0) (hq : k.wrap (m.tdiv n) = q) (hk : K (.int k q) w) : OpW P r ⟨d, .binOp .quo T x y T', ty, pos, af, g⟩ f w K :=
  W_bin hx hy rfl (by simp [binOp, Op.intDiv, hn, hq]) hk
theorem W_rem {q : Int} (hx : ev f x = .int k m) (hy : ev f y = .int k n) (hn : n ≠ 0) (hq : m.tmod n = q) (hk : K (.int k q) w) : OpW P r ⟨d, .binOp .rem T x y T', ty, pos, af, g⟩ f w K :=
  W_bin hx hy rfl (by simp [binOp, Op.intDiv, hn, hq]) hk
theorem W_and {v : Value} (hx : ev f x = .int k m) (hy : ev f y = .int k n) (hv : Value.int k (k.wrap (BitVec.ofInt k.bits m &&& BitVec.ofInt k.bits n).toNat) = v) (hk : K v w) : OpW P r ⟨d, .binOp .and T x y T', ty, pos, af, g⟩ f w K :=
  W_bin hx hy rfl (by subst hv; simp only [binOp]; rw [if_neg (by simp)]; rfl) hk
theorem W_lss (hx : ev f x = .int k m) (hy : ev f y = .int k n) (hk : K (.bool (decide (m < n))) w) : OpW P r ⟨d, .binOp .lss T x y T', ty, pos, af, g⟩ f w K :=
  W_bin hx hy rfl (by simp [binOp, Op.intCmp]) hk
theorem W_leq (hx : ev f x = .int k m) (hy : ev f y = .int k n) (hk : K (.bool (decide (m ≤ n))) w) : OpW P r ⟨d, .binOp .leq T x y T', ty, pos, af, g⟩ f w K :=
  W_bin hx hy rfl (by simp [binOp, Op.intCmp]) hk
theorem W_gtr (hx : ev f x = .int k m) (hy : ev f y = .int k n) (hk : K (.bool (decide (n < m))) w) : OpW P r ⟨d, .binOp .gtr T x y T', ty, pos, af, g⟩ f w K :=
  W_bin hx hy rfl (by simp [binOp, Op.intCmp]) hk
theorem W_geq (hx : ev f x = .int k m) (hy : ev f y = .int k n) (hk : K (.bool (decide (n ≤ m))) w) : OpW P r ⟨d, .binOp .geq T x y T', ty, pos, af, g⟩ f w K :=
  W_bin hx hy rfl (by simp [binOp, Op.intCmp]) hk
theorem W_eql (hx : ev f x = .int k m) (hy : ev f y = .int k n) (hk : K (.bool (decide (m = n))) w) : OpW P r ⟨d, .binOp .eql T x y T', ty, pos, af, g⟩ f w K :=
  W_bin hx hy (by rfl) (by simp [binOp, Op.intCmp]; rfl) hk
theorem W_neq (hx : ev f x = .int k m) (hy : ev f y = .int k n) (hk : K (.bool (decide (m ≠ n))) w) : OpW P r ⟨d, .binOp .neq T x y T', ty, pos, af, g⟩ f w K :=
  W_bin hx hy (by rfl) (by simp [binOp, Op.intCmp]; by_cases e : m = n <;> simp [e]) hk
end ints
section strs
variable {T T' : TypeId} {x y : Operand} {m n : ByteArray}
/-- Go's '<' on strings. -/
def slt (a b : ByteArray) : Bool := Op.bytesLess a.toList b.toList
theorem ba_toList (s : ByteArray) : s.toList = s.data.toList := ByteArray.toList_eq s
theorem toList_inj {a b : ByteArray} (h : a.toList = b.toList) : a = b := by
  rw [ba_toList, ba_toList] at h
  exact ByteArray.ext (Array.toList_inj.1 h)
theorem toList_beq (a b : ByteArray) : (a.toList == b.toList) = decide (a = b) := by
  by_cases e : a = b
  · subst e; simp
  · simp only [e, decide_false, beq_eq_false_iff_ne]
    exact fun h => e (toList_inj h)
theorem W_slss [TyStr P T] (hx : ev f x = .string m) (hy : ev f y = .string n) (hk : K (.bool (slt m n)) w) : OpW P r ⟨d, .binOp .lss T x y T', ty, pos, af, g⟩ f w K :=
  W_bin hx hy rfl (by simp [binOp, Op.stringOp, slt]) hk
theorem W_sgeq [TyStr P T] (hx : ev f x = .string m) (hy : ev f y = .string n) (hk : K (.bool (!slt m n)) w) : OpW P r ⟨d, .binOp .geq T x y T', ty, pos, af, g⟩ f w K :=
  W_bin hx hy rfl (by simp [binOp, Op.stringOp, slt]) hk
theorem W_sleq [TyStr P T] (hx : ev f x = .string m) (hy : ev f y = .string n) (hk : K (.bool (slt m n || decide (m = n))) w) : OpW P r ⟨d, .binOp .leq T x y T', ty, pos, af, g⟩ f w K :=
  W_bin hx hy rfl (by simp [binOp, Op.stringOp, slt, toList_beq]) hk
theorem W_sgtr [TyStr P T] (hx : ev f x = .string m) (hy : ev f y = .string n) (hk : K (.bool (!(slt m n || decide (m = n)))) w) : OpW P r ⟨d, .binOp .gtr T x y T', ty, pos, af, g⟩ f w K :=
  W_bin hx hy rfl (by simp [binOp, Op.stringOp, slt, toList_beq]) hk
theorem W_seql [TyStr P T] (hx : ev f x = .string m) (hy : ev f y = .string n) (hk : K (.bool (decide (m = n))) w) : OpW P r ⟨d, .binOp .eql T x y T', ty, pos, af, g⟩ f w K :=
  W_bin hx hy rfl (by simp [binOp, Op.stringOp, toList_beq]) hk
theorem W_sneq [TyStr P T] (hx : ev f x = .string m) (hy : ev f y = .string n) (hk : K (.bool (decide (m ≠ n))) w) : OpW P r ⟨d, .binOp .neq T x y T', ty, pos, af, g⟩ f w K :=
  W_bin hx hy rfl (by simp [binOp, Op.stringOp, toList_beq]) hk
theorem W_sadd (hx : ev f x = .string m) (hy : ev f y = .string n) (hb : m.size + n.size ≤ 9223372036854775807) (hk : K (.string (m ++ n)) w) : OpW P r ⟨d, .binOp .add T x y T', ty, pos, af, g⟩ f w K :=
  W_bin hx hy rfl (by have : ¬ ((m.size + n.size : Nat) : Int) > 9223372036854775807 := by omega
                      simp [binOp, Op.stringOp]; omega) hk
end strs
section eqs
variable {T T' E : TypeId} {x y : Operand}
theorem equal_succ (T : TypeId) (u v : Value) : Op.equal T u v = Op.equalIn (9999 + 1) T u v := rfl
theorem binOp_eql {T : TypeId} {u v : Value} {b : Bool} (h : ∀ k a, u ≠ .int k a) (h2 : ∀ s, u ≠ .string s) (h3 : ∀ k b, u ≠ .float k b) (h4 : ∀ k b c, u ≠ .complex k b c) (he : (Op.equal T u v).run P w = .ok b w) :
    (binOp .eql T u v).run P w = .ok (.bool b) w ∧ (binOp .neq T u v).run P w = .ok (.bool (!b)) w := by
  cases u <;> first | exact absurd rfl (h _ _) | exact absurd rfl (h2 _) | exact absurd rfl (h3 _ _) | exact absurd rfl (h4 _ _ _) | skip
  all_goals
    have e1 : ∀ z, binOp .eql T z v = binOp .eql T z v := fun _ => rfl
    simp [binOp, he]
theorem eqIn_bool [TyBool P T] (n : Nat) (a b : Bool) : (Op.equalIn (n + 1) T (.bool a) (.bool b)).run P w = .ok (a == b) w := by
  simp [Op.equalIn, run_underlying (TyBool.out (P := P) (T := T))]
theorem W_beql [TyBool P T] {m n : Bool} (hx : ev f x = .bool m) (hy : ev f y = .bool n) (hk : K (.bool (m == n)) w) : OpW P r ⟨d, .binOp .eql T x y T', ty, pos, af, g⟩ f w K :=
  W_bin hx hy rfl (binOp_eql (by simp) (by simp) (by simp) (by simp) (eqIn_bool _ _ _)).1 hk
theorem W_bneq [TyBool P T] {m n : Bool} (hx : ev f x = .bool m) (hy : ev f y = .bool n) (hk : K (.bool (!(m == n))) w) : OpW P r ⟨d, .binOp .neq T x y T', ty, pos, af, g⟩ f w K :=
  W_bin hx hy rfl (binOp_eql (by simp) (by simp) (by simp) (by simp) (eqIn_bool _ _ _)).2 hk
theorem eqIn_nil2 [TyPtr P T E] (n : Nat) (b : Option Addr) : (Op.equalIn (n + 1) T (.pointer b) (.pointer none)).run P w = .ok b.isNone w := by
  cases b <;> simp [Op.equalIn, run_underlying (TyPtr.out (P := P) (T := T))]
theorem eqIn_nil1 [TyPtr P T E] (n : Nat) (b : Option Addr) : (Op.equalIn (n + 1) T (.pointer none) (.pointer b)).run P w = .ok b.isNone w := by
  cases b <;> simp [Op.equalIn, run_underlying (TyPtr.out (P := P) (T := T))]
theorem W_peqnil [TyPtr P T E] {b : Option Addr} (hx : ev f x = .pointer b) (hy : ev f y = .pointer none) (hk : K (.bool b.isNone) w) : OpW P r ⟨d, .binOp .eql T x y T', ty, pos, af, g⟩ f w K :=
  W_bin hx hy (by cases b <;> rfl) (binOp_eql (by simp) (by simp) (by simp) (by simp) (eqIn_nil2 _ _)).1 hk
theorem W_pneqnil [TyPtr P T E] {b : Option Addr} (hx : ev f x = .pointer b) (hy : ev f y = .pointer none) (hk : K (.bool (!b.isNone)) w) : OpW P r ⟨d, .binOp .neq T x y T', ty, pos, af, g⟩ f w K :=
  W_bin hx hy (by cases b <;> rfl) (binOp_eql (by simp) (by simp) (by simp) (by simp) (eqIn_nil2 _ _)).2 hk
theorem eqIn_slnil [TySlice P T E] (n : Nat) (a : Option Addr) (l c l' c' : Nat) : (Op.equalIn (n + 1) T (.slice a l c) (.slice none l' c')).run P w = .ok a.isNone w := by
  cases a <;> simp [Op.equalIn, run_underlying (TySlice.out (P := P) (T := T))]
theorem W_sleqnil [TySlice P T E] {a : Option Addr} {n c n' c' : Nat} (hx : ev f x = .slice a n c) (hy : ev f y = .slice none n' c') (hk : K (.bool a.isNone) w) : OpW P r ⟨d, .binOp .eql T x y T', ty, pos, af, g⟩ f w K :=
  W_bin hx hy rfl (binOp_eql (by simp) (by simp) (by simp) (by simp) (eqIn_slnil _ _ _ _ _ _)).1 hk
end eqs
/-! ### Memory -/
section mem
variable {T E : TypeId} {x y i : Operand}
theorem W_load [TyOne P T] {a : Addr} {v : Value} (hx : ev f x = .pointer (some a)) (hc : w.cell? a = some v) (hk : K v w) : OpW P r ⟨d, .load T x, ty, pos, af, g⟩ f w K :=
  OpW_val (by simp) (by simp [execOp, hx, Instr.loadAt, Instr.sureAddr, loadVar, TyOne.agg (P := P) (T := T), hc]) hk
theorem W_loadAgg {s : Nat} [TyAgg P T] [TySize P T s] {a : Addr} {cs : List Value} (hx : ev f x = .pointer (some a)) (hl : cs.length = s) (hc : ∀ j v, cs[j]? = some v → w.cell? (a.add j) = some v) (hk : K (.agg cs.toArray) w) :
    OpW P r ⟨d, .load T x, ty, pos, af, g⟩ f w K :=
  OpW_val (by simp) (by
    have := run_loadCells_list (P := P) w a cs hc
    rw [hl] at this
    simp [execOp, hx, Instr.loadAt, Instr.sureAddr, loadVar, TyAgg.agg (P := P) (T := T), TySize.size (P := P) (T := T), this]) hk
theorem W_store [TySize P T 1] {a : Addr} {v u : Value} (hx : ev f x = .pointer (some a)) (hy : ev f y = v) (h1 : v.oneCell' = true) (hc : w.cell? a = some u) (hf : w.frozen? a = false) (hk : K undef (w.setCell a v)) :
    OpW P r ⟨d, .store T x y, ty, pos, af, g⟩ f w K :=
  OpW_skip (by simp) (by
    have hv : v.cells = #[v] := by cases v <;> simp_all [Value.cells, Value.oneCell']
    simp [execOp, hx, hy, Instr.storeAt, Instr.sureAddr, storeVar, hv, TySize.size (P := P) (T := T), storeCells, run_store P w _ _ _ h1, Addr.add_zero', hc, hf]) hk
theorem W_fieldAddr {fs : Array Field} [TyStruct P T fs] {fi : Field} {F : Nat} {s : Nat} (n : Nat) {a : Addr} (hx : ev f x = .pointer (some a)) (hf : fs[n]? = some fi) [TySize P fi.type (s + 1)] (hk : K (.pointer (some (a.add fi.offset))) w) :
    OpW P r ⟨d, .fieldAddr T x n, ty, pos, af, g⟩ f w K :=
  OpW_val (by simp) (by
    simp [execOp, hx, Instr.fieldAt, Instr.sureAddr, fieldPlace, run_underlying (TyStruct.out (P := P) (T := T)), hf, TySize.size (P := P) (T := fi.type)]) hk
end mem
end
end Go.Proofs.Ytnjeoobcejlojaa
