/-
  No cell of these rows narrows 'for every input' (looked for: loops, veiled, ifaces, maps, wideKeys, modest, calm, conditions, laid).
  DERIVED. THE GIVEN ROWS OF THIS SEAT. 12 by the template 'for every input the law returns true; each argument reads behind the call as it read before'; 0 by the template 'total and deterministic' (their statements: YtnjeoobcejlojaaTotals.lean).
  GIVEN WITH THE SEED: the statements are not yours to turn. If you find one false, say at which input.
  Laid BY PROGRAM, IN A SANDBOX (cutbox-rows.mjs): the forced cells as the released guide's own fill.sh prints them over the translation 31e8ee600a889ed6… (all of the seat's roots in one cut). By AI agents, Wed Nov 11 2026. No macro, syntax, notation, axiom, sorry.
-/
import Derived.Test.YtnjeoobcejlojaaChecked
import GoSem.Claim
import GoSem.ClaimJoined
import GoSem.ClaimMapViews
import Derived.JoinedTies
import Derived.KernelRfl
namespace Go.Proofs.Ytnjeoobcejlojaa
/- THE CELL 'sum', in the pinned program and in every row, IS THE sha256 OF THE DUMP (.gsa) THAT YtnjeoobcejlojaaProg.lean LOADS. Nothing in Lean hashes anything: it is a label: what it is worth is what the hold of that sum in a sandbox is worth. -/
noncomputable def Try.pinned : Pinned := { name := "ytnjeoobcejlojaa", sum := "31e8ee600a889ed674b0262d3ecb4f538bdb018944c3d22474a119c3bd9447c6", checked := Try.checked }
namespace Rows
def none {H : Type} : Left H := { results := [], args := [] }

/-- 'sapwoodlaw22.DiffBack': WHATEVER THE INPUT: true; the input reads as it did. -/
def diffBackSpec : ChangeSpec := { name := "diffBack", fn := fun _ => fun
  | [d] => { results := [.lit (.bool true)], args := [d] }
  | _ => none }
def diffBackRow : OpenClaim := { program := "ytnjeoobcejlojaa", sum := "31e8ee600a889ed674b0262d3ecb4f538bdb018944c3d22474a119c3bd9447c6", func := "sapwood/sapwoodlaw22.DiffBack", spec := "diffBack", unfollowed := true, recurses := true, apart := false }
def DiffBackSaid : Prop := diffBackRow.holds Try.pinned (OpenSpec.ofChange diffBackSpec)

/-- ITS FALSE NEIGHBOUR: 'it returns false'. Refute it at one input. -/
def diffBackWrong : ChangeSpec := { name := "diffBack", fn := fun _ => fun
  | [d] => { results := [.lit (.bool false)], args := [d] }
  | _ => none }
def DiffBackWrongFalsely : Prop := diffBackRow.holds Try.pinned (OpenSpec.ofChange diffBackWrong)

/-- 'sapwoodlaw22.DiffTells': WHATEVER THE INPUT: true; the input reads as it did. -/
def diffTellsSpec : ChangeSpec := { name := "diffTells", fn := fun _ => fun
  | [d1, d2, d3] => { results := [.lit (.bool true)], args := [d1, d2, d3] }
  | _ => none }
def diffTellsRow : OpenClaim := { program := "ytnjeoobcejlojaa", sum := "31e8ee600a889ed674b0262d3ecb4f538bdb018944c3d22474a119c3bd9447c6", func := "sapwood/sapwoodlaw22.DiffTells", spec := "diffTells", unfollowed := true, recurses := true, apart := false }
def DiffTellsSaid : Prop := diffTellsRow.holds Try.pinned (OpenSpec.ofChange diffTellsSpec)

/-- ITS FALSE NEIGHBOUR: 'it returns false'. Refute it at one input. -/
def diffTellsWrong : ChangeSpec := { name := "diffTells", fn := fun _ => fun
  | [d1, d2, d3] => { results := [.lit (.bool false)], args := [d1, d2, d3] }
  | _ => none }
def DiffTellsWrongFalsely : Prop := diffTellsRow.holds Try.pinned (OpenSpec.ofChange diffTellsWrong)

/-- 'sapwoodlaw22.DiffFew': WHATEVER THE INPUT: true; the input reads as it did. -/
def diffFewSpec : ChangeSpec := { name := "diffFew", fn := fun _ => fun
  | [d1, d2] => { results := [.lit (.bool true)], args := [d1, d2] }
  | _ => none }
def diffFewRow : OpenClaim := { program := "ytnjeoobcejlojaa", sum := "31e8ee600a889ed674b0262d3ecb4f538bdb018944c3d22474a119c3bd9447c6", func := "sapwood/sapwoodlaw22.DiffFew", spec := "diffFew", unfollowed := true, recurses := true, apart := false }
def DiffFewSaid : Prop := diffFewRow.holds Try.pinned (OpenSpec.ofChange diffFewSpec)

/-- ITS FALSE NEIGHBOUR: 'it returns false'. Refute it at one input. -/
def diffFewWrong : ChangeSpec := { name := "diffFew", fn := fun _ => fun
  | [d1, d2] => { results := [.lit (.bool false)], args := [d1, d2] }
  | _ => none }
def DiffFewWrongFalsely : Prop := diffFewRow.holds Try.pinned (OpenSpec.ofChange diffFewWrong)

/-- 'sapwoodlaw22.DiffThree': WHATEVER THE INPUT: true; the input reads as it did. -/
def diffThreeSpec : ChangeSpec := { name := "diffThree", fn := fun _ => fun
  | [d1, d2, d3] => { results := [.lit (.bool true)], args := [d1, d2, d3] }
  | _ => none }
def diffThreeRow : OpenClaim := { program := "ytnjeoobcejlojaa", sum := "31e8ee600a889ed674b0262d3ecb4f538bdb018944c3d22474a119c3bd9447c6", func := "sapwood/sapwoodlaw22.DiffThree", spec := "diffThree", unfollowed := true, recurses := true, apart := false }
def DiffThreeSaid : Prop := diffThreeRow.holds Try.pinned (OpenSpec.ofChange diffThreeSpec)

/-- ITS FALSE NEIGHBOUR: 'it returns false'. Refute it at one input. -/
def diffThreeWrong : ChangeSpec := { name := "diffThree", fn := fun _ => fun
  | [d1, d2, d3] => { results := [.lit (.bool false)], args := [d1, d2, d3] }
  | _ => none }
def DiffThreeWrongFalsely : Prop := diffThreeRow.holds Try.pinned (OpenSpec.ofChange diffThreeWrong)

/-- 'sapwoodlaw22.DiffThere': WHATEVER THE INPUT: true; the input reads as it did. -/
def diffThereSpec : ChangeSpec := { name := "diffThere", fn := fun _ => fun
  | [d1, d2] => { results := [.lit (.bool true)], args := [d1, d2] }
  | _ => none }
def diffThereRow : OpenClaim := { program := "ytnjeoobcejlojaa", sum := "31e8ee600a889ed674b0262d3ecb4f538bdb018944c3d22474a119c3bd9447c6", func := "sapwood/sapwoodlaw22.DiffThere", spec := "diffThere", unfollowed := true, recurses := true, apart := false }
def DiffThereSaid : Prop := diffThereRow.holds Try.pinned (OpenSpec.ofChange diffThereSpec)

/-- ITS FALSE NEIGHBOUR: 'it returns false'. Refute it at one input. -/
def diffThereWrong : ChangeSpec := { name := "diffThere", fn := fun _ => fun
  | [d1, d2] => { results := [.lit (.bool false)], args := [d1, d2] }
  | _ => none }
def DiffThereWrongFalsely : Prop := diffThereRow.holds Try.pinned (OpenSpec.ofChange diffThereWrong)

/-- 'sapwoodlaw22.DiffShared': WHATEVER THE INPUT: true; the input reads as it did. -/
def diffSharedSpec : ChangeSpec := { name := "diffShared", fn := fun _ => fun
  | [d1, d2] => { results := [.lit (.bool true)], args := [d1, d2] }
  | _ => none }
def diffSharedRow : OpenClaim := { program := "ytnjeoobcejlojaa", sum := "31e8ee600a889ed674b0262d3ecb4f538bdb018944c3d22474a119c3bd9447c6", func := "sapwood/sapwoodlaw22.DiffShared", spec := "diffShared", unfollowed := true, recurses := true, apart := false }
def DiffSharedSaid : Prop := diffSharedRow.holds Try.pinned (OpenSpec.ofChange diffSharedSpec)

/-- ITS FALSE NEIGHBOUR: 'it returns false'. Refute it at one input. -/
def diffSharedWrong : ChangeSpec := { name := "diffShared", fn := fun _ => fun
  | [d1, d2] => { results := [.lit (.bool false)], args := [d1, d2] }
  | _ => none }
def DiffSharedWrongFalsely : Prop := diffSharedRow.holds Try.pinned (OpenSpec.ofChange diffSharedWrong)

/-- 'sapwoodlaw23.BulkBuilds': WHATEVER THE INPUT: true; the input reads as it did. -/
def bulkBuildsSpec : ChangeSpec := { name := "bulkBuilds", fn := fun _ => fun
  | [d] => { results := [.lit (.bool true)], args := [d] }
  | _ => none }
def bulkBuildsRow : OpenClaim := { program := "ytnjeoobcejlojaa", sum := "31e8ee600a889ed674b0262d3ecb4f538bdb018944c3d22474a119c3bd9447c6", func := "sapwood/sapwoodlaw23.BulkBuilds", spec := "bulkBuilds", unfollowed := true, recurses := true, apart := false }
def BulkBuildsSaid : Prop := bulkBuildsRow.holds Try.pinned (OpenSpec.ofChange bulkBuildsSpec)

/-- ITS FALSE NEIGHBOUR: 'it returns false'. Refute it at one input. -/
def bulkBuildsWrong : ChangeSpec := { name := "bulkBuilds", fn := fun _ => fun
  | [d] => { results := [.lit (.bool false)], args := [d] }
  | _ => none }
def BulkBuildsWrongFalsely : Prop := bulkBuildsRow.holds Try.pinned (OpenSpec.ofChange bulkBuildsWrong)

/-- 'sapwoodlaw23.BulkNil': WHATEVER THE INPUT: true; the input reads as it did. -/
def bulkNilSpec : ChangeSpec := { name := "bulkNil", fn := fun _ => fun
  | [d1, d2] => { results := [.lit (.bool true)], args := [d1, d2] }
  | _ => none }
def bulkNilRow : OpenClaim := { program := "ytnjeoobcejlojaa", sum := "31e8ee600a889ed674b0262d3ecb4f538bdb018944c3d22474a119c3bd9447c6", func := "sapwood/sapwoodlaw23.BulkNil", spec := "bulkNil", unfollowed := true, recurses := true, apart := false }
def BulkNilSaid : Prop := bulkNilRow.holds Try.pinned (OpenSpec.ofChange bulkNilSpec)

/-- ITS FALSE NEIGHBOUR: 'it returns false'. Refute it at one input. -/
def bulkNilWrong : ChangeSpec := { name := "bulkNil", fn := fun _ => fun
  | [d1, d2] => { results := [.lit (.bool false)], args := [d1, d2] }
  | _ => none }
def BulkNilWrongFalsely : Prop := bulkNilRow.holds Try.pinned (OpenSpec.ofChange bulkNilWrong)

/-- 'sapwoodlaw23.BulkParts': WHATEVER THE INPUT: true; the input reads as it did. -/
def bulkPartsSpec : ChangeSpec := { name := "bulkParts", fn := fun _ => fun
  | [d1, d2, d3, d4] => { results := [.lit (.bool true)], args := [d1, d2, d3, d4] }
  | _ => none }
def bulkPartsRow : OpenClaim := { program := "ytnjeoobcejlojaa", sum := "31e8ee600a889ed674b0262d3ecb4f538bdb018944c3d22474a119c3bd9447c6", func := "sapwood/sapwoodlaw23.BulkParts", spec := "bulkParts", unfollowed := true, recurses := true, apart := false }
def BulkPartsSaid : Prop := bulkPartsRow.holds Try.pinned (OpenSpec.ofChange bulkPartsSpec)

/-- ITS FALSE NEIGHBOUR: 'it returns false'. Refute it at one input. -/
def bulkPartsWrong : ChangeSpec := { name := "bulkParts", fn := fun _ => fun
  | [d1, d2, d3, d4] => { results := [.lit (.bool false)], args := [d1, d2, d3, d4] }
  | _ => none }
def BulkPartsWrongFalsely : Prop := bulkPartsRow.holds Try.pinned (OpenSpec.ofChange bulkPartsWrong)

/-- 'sapwoodlaw23.BulkThree': WHATEVER THE INPUT: true; the input reads as it did. -/
def bulkThreeSpec : ChangeSpec := { name := "bulkThree", fn := fun _ => fun
  | [d1, d2, d3] => { results := [.lit (.bool true)], args := [d1, d2, d3] }
  | _ => none }
def bulkThreeRow : OpenClaim := { program := "ytnjeoobcejlojaa", sum := "31e8ee600a889ed674b0262d3ecb4f538bdb018944c3d22474a119c3bd9447c6", func := "sapwood/sapwoodlaw23.BulkThree", spec := "bulkThree", unfollowed := true, recurses := true, apart := false }
def BulkThreeSaid : Prop := bulkThreeRow.holds Try.pinned (OpenSpec.ofChange bulkThreeSpec)

/-- ITS FALSE NEIGHBOUR: 'it returns false'. Refute it at one input. -/
def bulkThreeWrong : ChangeSpec := { name := "bulkThree", fn := fun _ => fun
  | [d1, d2, d3] => { results := [.lit (.bool false)], args := [d1, d2, d3] }
  | _ => none }
def BulkThreeWrongFalsely : Prop := bulkThreeRow.holds Try.pinned (OpenSpec.ofChange bulkThreeWrong)

/-- 'sapwoodlaw23.BulkMerges': WHATEVER THE INPUT: true; the input reads as it did. -/
def bulkMergesSpec : ChangeSpec := { name := "bulkMerges", fn := fun _ => fun
  | [d1, d2, d3] => { results := [.lit (.bool true)], args := [d1, d2, d3] }
  | _ => none }
def bulkMergesRow : OpenClaim := { program := "ytnjeoobcejlojaa", sum := "31e8ee600a889ed674b0262d3ecb4f538bdb018944c3d22474a119c3bd9447c6", func := "sapwood/sapwoodlaw23.BulkMerges", spec := "bulkMerges", unfollowed := true, recurses := true, apart := false }
def BulkMergesSaid : Prop := bulkMergesRow.holds Try.pinned (OpenSpec.ofChange bulkMergesSpec)

/-- ITS FALSE NEIGHBOUR: 'it returns false'. Refute it at one input. -/
def bulkMergesWrong : ChangeSpec := { name := "bulkMerges", fn := fun _ => fun
  | [d1, d2, d3] => { results := [.lit (.bool false)], args := [d1, d2, d3] }
  | _ => none }
def BulkMergesWrongFalsely : Prop := bulkMergesRow.holds Try.pinned (OpenSpec.ofChange bulkMergesWrong)

/-- 'sapwoodlaw23.BulkGoes': WHATEVER THE INPUT: true; the input reads as it did. -/
def bulkGoesSpec : ChangeSpec := { name := "bulkGoes", fn := fun _ => fun
  | [d1, d2, d3] => { results := [.lit (.bool true)], args := [d1, d2, d3] }
  | _ => none }
def bulkGoesRow : OpenClaim := { program := "ytnjeoobcejlojaa", sum := "31e8ee600a889ed674b0262d3ecb4f538bdb018944c3d22474a119c3bd9447c6", func := "sapwood/sapwoodlaw23.BulkGoes", spec := "bulkGoes", unfollowed := true, recurses := true, apart := false }
def BulkGoesSaid : Prop := bulkGoesRow.holds Try.pinned (OpenSpec.ofChange bulkGoesSpec)

/-- ITS FALSE NEIGHBOUR: 'it returns false'. Refute it at one input. -/
def bulkGoesWrong : ChangeSpec := { name := "bulkGoes", fn := fun _ => fun
  | [d1, d2, d3] => { results := [.lit (.bool false)], args := [d1, d2, d3] }
  | _ => none }
def BulkGoesWrongFalsely : Prop := bulkGoesRow.holds Try.pinned (OpenSpec.ofChange bulkGoesWrong)

/- THE SECOND FORM. 'bulk': how many values and letters a reading holds, each counted each time it is reached (what is shared counts as often as it is met; a slice's spare places count too). A statement '..UptoSaid' is the law's where the arguments, and the package variables that the reading takes, are together of bulk at most 1048576: NARROWER than '..Said'. Prove '..Said' where nothing that the law and all that it calls make is longer than what came in: it says more and counts as full. Else prove '..UptoSaid'. A law counts once. -/
mutual
def uptoBulk {H : Type} : DataW H → Nat
  | .lit (.string bytes) => bytes.length + 1
  | .lit _ => 1
  | .nil => 1
  | .ptr d => uptoBulk d + 1
  | .slice elems spare => uptoBulkAll elems + uptoBulkAll spare + 1
  | .agg parts => uptoBulkAll parts + 1
  | .iface _ d => uptoBulk d + 1
  | .map entries => uptoBulkEntries entries + 1
  | .held _ => 1
def uptoBulkAll {H : Type} : List (DataW H) → Nat
  | [] => 0
  | d :: r => uptoBulk d + uptoBulkAll r
def uptoBulkEntries {H : Type} : List (Lit × DataW H) → Nat
  | [] => 0
  | x :: r => uptoBulkEntry x + uptoBulkEntries r
def uptoBulkEntry {H : Type} : Lit × DataW H → Nat
  | (.string bytes, d) => bytes.length + uptoBulk d + 1
  | (_, d) => uptoBulk d + 1
 end
def uptoSmall : (H : Type) → List (DataW H) → Bool := fun _ ds => decide (uptoBulkAll ds ≤ 1048576)
def OpenSpec.upto (s : _root_.Go.ChangeSpec) : _root_.Go.OpenSpec := { _root_.Go.OpenSpec.ofChange s with cond := some uptoSmall }

/-- 'sapwoodlaw22.DiffBack', WHERE WHAT IT READS IS OF BULK AT MOST 1048576: true; the input reads as it did. -/
def diffBackUptoRow : OpenClaim := { program := "ytnjeoobcejlojaa", sum := "31e8ee600a889ed674b0262d3ecb4f538bdb018944c3d22474a119c3bd9447c6", func := "sapwood/sapwoodlaw22.DiffBack", spec := "diffBack", unfollowed := true, recurses := true, apart := false, narrowed := true }
def DiffBackUptoSaid : Prop := diffBackUptoRow.holds Try.pinned (OpenSpec.upto diffBackSpec)

/-- 'sapwoodlaw22.DiffTells', WHERE WHAT IT READS IS OF BULK AT MOST 1048576: true; the input reads as it did. -/
def diffTellsUptoRow : OpenClaim := { program := "ytnjeoobcejlojaa", sum := "31e8ee600a889ed674b0262d3ecb4f538bdb018944c3d22474a119c3bd9447c6", func := "sapwood/sapwoodlaw22.DiffTells", spec := "diffTells", unfollowed := true, recurses := true, apart := false, narrowed := true }
def DiffTellsUptoSaid : Prop := diffTellsUptoRow.holds Try.pinned (OpenSpec.upto diffTellsSpec)

/-- 'sapwoodlaw22.DiffFew', WHERE WHAT IT READS IS OF BULK AT MOST 1048576: true; the input reads as it did. -/
def diffFewUptoRow : OpenClaim := { program := "ytnjeoobcejlojaa", sum := "31e8ee600a889ed674b0262d3ecb4f538bdb018944c3d22474a119c3bd9447c6", func := "sapwood/sapwoodlaw22.DiffFew", spec := "diffFew", unfollowed := true, recurses := true, apart := false, narrowed := true }
def DiffFewUptoSaid : Prop := diffFewUptoRow.holds Try.pinned (OpenSpec.upto diffFewSpec)

/-- 'sapwoodlaw22.DiffThree', WHERE WHAT IT READS IS OF BULK AT MOST 1048576: true; the input reads as it did. -/
def diffThreeUptoRow : OpenClaim := { program := "ytnjeoobcejlojaa", sum := "31e8ee600a889ed674b0262d3ecb4f538bdb018944c3d22474a119c3bd9447c6", func := "sapwood/sapwoodlaw22.DiffThree", spec := "diffThree", unfollowed := true, recurses := true, apart := false, narrowed := true }
def DiffThreeUptoSaid : Prop := diffThreeUptoRow.holds Try.pinned (OpenSpec.upto diffThreeSpec)

/-- 'sapwoodlaw22.DiffThere', WHERE WHAT IT READS IS OF BULK AT MOST 1048576: true; the input reads as it did. -/
def diffThereUptoRow : OpenClaim := { program := "ytnjeoobcejlojaa", sum := "31e8ee600a889ed674b0262d3ecb4f538bdb018944c3d22474a119c3bd9447c6", func := "sapwood/sapwoodlaw22.DiffThere", spec := "diffThere", unfollowed := true, recurses := true, apart := false, narrowed := true }
def DiffThereUptoSaid : Prop := diffThereUptoRow.holds Try.pinned (OpenSpec.upto diffThereSpec)

/-- 'sapwoodlaw22.DiffShared', WHERE WHAT IT READS IS OF BULK AT MOST 1048576: true; the input reads as it did. -/
def diffSharedUptoRow : OpenClaim := { program := "ytnjeoobcejlojaa", sum := "31e8ee600a889ed674b0262d3ecb4f538bdb018944c3d22474a119c3bd9447c6", func := "sapwood/sapwoodlaw22.DiffShared", spec := "diffShared", unfollowed := true, recurses := true, apart := false, narrowed := true }
def DiffSharedUptoSaid : Prop := diffSharedUptoRow.holds Try.pinned (OpenSpec.upto diffSharedSpec)

/-- 'sapwoodlaw23.BulkBuilds', WHERE WHAT IT READS IS OF BULK AT MOST 1048576: true; the input reads as it did. -/
def bulkBuildsUptoRow : OpenClaim := { program := "ytnjeoobcejlojaa", sum := "31e8ee600a889ed674b0262d3ecb4f538bdb018944c3d22474a119c3bd9447c6", func := "sapwood/sapwoodlaw23.BulkBuilds", spec := "bulkBuilds", unfollowed := true, recurses := true, apart := false, narrowed := true }
def BulkBuildsUptoSaid : Prop := bulkBuildsUptoRow.holds Try.pinned (OpenSpec.upto bulkBuildsSpec)

/-- 'sapwoodlaw23.BulkNil', WHERE WHAT IT READS IS OF BULK AT MOST 1048576: true; the input reads as it did. -/
def bulkNilUptoRow : OpenClaim := { program := "ytnjeoobcejlojaa", sum := "31e8ee600a889ed674b0262d3ecb4f538bdb018944c3d22474a119c3bd9447c6", func := "sapwood/sapwoodlaw23.BulkNil", spec := "bulkNil", unfollowed := true, recurses := true, apart := false, narrowed := true }
def BulkNilUptoSaid : Prop := bulkNilUptoRow.holds Try.pinned (OpenSpec.upto bulkNilSpec)

/-- 'sapwoodlaw23.BulkParts', WHERE WHAT IT READS IS OF BULK AT MOST 1048576: true; the input reads as it did. -/
def bulkPartsUptoRow : OpenClaim := { program := "ytnjeoobcejlojaa", sum := "31e8ee600a889ed674b0262d3ecb4f538bdb018944c3d22474a119c3bd9447c6", func := "sapwood/sapwoodlaw23.BulkParts", spec := "bulkParts", unfollowed := true, recurses := true, apart := false, narrowed := true }
def BulkPartsUptoSaid : Prop := bulkPartsUptoRow.holds Try.pinned (OpenSpec.upto bulkPartsSpec)

/-- 'sapwoodlaw23.BulkThree', WHERE WHAT IT READS IS OF BULK AT MOST 1048576: true; the input reads as it did. -/
def bulkThreeUptoRow : OpenClaim := { program := "ytnjeoobcejlojaa", sum := "31e8ee600a889ed674b0262d3ecb4f538bdb018944c3d22474a119c3bd9447c6", func := "sapwood/sapwoodlaw23.BulkThree", spec := "bulkThree", unfollowed := true, recurses := true, apart := false, narrowed := true }
def BulkThreeUptoSaid : Prop := bulkThreeUptoRow.holds Try.pinned (OpenSpec.upto bulkThreeSpec)

/-- 'sapwoodlaw23.BulkMerges', WHERE WHAT IT READS IS OF BULK AT MOST 1048576: true; the input reads as it did. -/
def bulkMergesUptoRow : OpenClaim := { program := "ytnjeoobcejlojaa", sum := "31e8ee600a889ed674b0262d3ecb4f538bdb018944c3d22474a119c3bd9447c6", func := "sapwood/sapwoodlaw23.BulkMerges", spec := "bulkMerges", unfollowed := true, recurses := true, apart := false, narrowed := true }
def BulkMergesUptoSaid : Prop := bulkMergesUptoRow.holds Try.pinned (OpenSpec.upto bulkMergesSpec)

/-- 'sapwoodlaw23.BulkGoes', WHERE WHAT IT READS IS OF BULK AT MOST 1048576: true; the input reads as it did. -/
def bulkGoesUptoRow : OpenClaim := { program := "ytnjeoobcejlojaa", sum := "31e8ee600a889ed674b0262d3ecb4f538bdb018944c3d22474a119c3bd9447c6", func := "sapwood/sapwoodlaw23.BulkGoes", spec := "bulkGoes", unfollowed := true, recurses := true, apart := false, narrowed := true }
def BulkGoesUptoSaid : Prop := bulkGoesUptoRow.holds Try.pinned (OpenSpec.upto bulkGoesSpec)

end Rows
end Go.Proofs.Ytnjeoobcejlojaa
