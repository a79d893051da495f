/- Conversions. Conditions: each law's own premises. -/
import Derived.Test.YtlkbdgfipdeloaaMut
import Derived.Laws.BytesArg
namespace Go.Proofs.Ytlkbdgfipdeloaa
open Go.Proofs Go.RowKit
set_option linter.unusedVariables false
section
variable {P : Program} {r : Option Nat} {f : Fr} {H : HF} {w : World} {K : Value → World → Prop} {d : Option Nat} {ty : TypeId} {pos : String} {af : Array Edge} {g : Option (Nat × Bool)} {S T E : TypeId} {x : Operand}
theorem W_convInt {k k0 k' : IntKind} [hs : TyInt P S k0] [ht : TyInt P T k'] {n q : Int} (hx : ev f x = .int k n) (hq : k'.wrap n = q) (hk : K (.int k' q) w) : OpW P r ⟨d, .convert S T x, ty, pos, af, g⟩ f w K :=
  OpW_val (by simp) (by simp [execOp, hx, convert, run_underlying hs.out, run_underlying ht.out, Conv.intToInt, hq]) hk
/-- A string of zero bytes. -/
def zeros (n : Nat) : ByteArray := strOfNums (List.replicate n 0)
theorem W_convZeros [hs : TySlice P S E] [he : TyInt P E .u8] [ht : TyStr P T] {b n c : Nat} (hx : ev f x = .slice (some ⟨b, 0, none⟩) n c) (hm : Mut H w b (List.replicate n (.int .u8 0))) (hk : K (.string (zeros n)) w) : OpW P r ⟨d, .convert S T x, ty, pos, af, g⟩ f w K :=
  OpW_val (by simp) (by
    have := run_convert_bytes_arg (P := P) w S E hs.out he.out b 0 n c (List.replicate n 0) (by simp) (fun i hi => by
      refine Sub.mut_or hm ?_
      simp [hi]) T ht.out
    simp only [execOp, hx, Sem.run_bind, this, Result.andThen_ok]
    rfl) hk
end
theorem zeros_size (n : Nat) : (zeros n).size = n := by simp [zeros, strOfNums, ByteArray.size]
theorem zeros_inj {m n : Nat} (h : zeros m = zeros n) : m = n := by
  have := congrArg ByteArray.size h
  rwa [zeros_size, zeros_size] at this
end Go.Proofs.Ytlkbdgfipdeloaa
