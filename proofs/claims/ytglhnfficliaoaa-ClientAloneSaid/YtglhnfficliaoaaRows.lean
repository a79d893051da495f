/-
  No cell of these rows narrows 'for every input' (looked for: loops, veiled, ifaces, maps, wideKeys, modest, calm, conditions, laid).
  DERIVED. THE GIVEN ROWS OF THIS SEAT. 7 by the template 'for every input the law returns true; each argument reads behind the call as it read before'; 0 by the template 'total and deterministic' (their statements: YtglhnfficliaoaaTotals.lean).
  GIVEN WITH THE SEED: the statements are not yours to turn. If you find one false, say at which input.
  Laid BY PROGRAM, IN A SANDBOX (cutbox-rows.mjs): the forced cells as the released guide's own fill.sh prints them over the translation 3b42c558318cfabe… (all of the seat's roots in one cut). By AI agents, Wed Nov 11 2026. No macro, syntax, notation, axiom, sorry.
-/
import Derived.Test.YtglhnfficliaoaaChecked
import GoSem.Claim
import GoSem.ClaimJoined
import GoSem.ClaimMapViews
import Derived.JoinedTies
import Derived.KernelRfl
namespace Go.Proofs.Ytglhnfficliaoaa
/- THE CELL 'sum', in the pinned program and in every row, IS THE sha256 OF THE DUMP (.gsa) THAT YtglhnfficliaoaaProg.lean LOADS. Nothing in Lean hashes anything: it is a label: what it is worth is what the hold of that sum in a sandbox is worth. -/
noncomputable def Try.pinned : Pinned := { name := "ytglhnfficliaoaa", sum := "3b42c558318cfabe3f20f677869e704e80b844cbcd12eec1815de05fc73bad28", checked := Try.checked }
namespace Rows
def none {H : Type} : Left H := { results := [], args := [] }

/-- 'sapwoodtop.TopLinear': WHATEVER THE INPUT: true; the input reads as it did. -/
def topLinearSpec : ChangeSpec := { name := "topLinear", fn := fun _ => fun
  | [d1, d2] => { results := [.lit (.bool true)], args := [d1, d2] }
  | _ => none }
def topLinearRow : OpenClaim := { program := "ytglhnfficliaoaa", sum := "3b42c558318cfabe3f20f677869e704e80b844cbcd12eec1815de05fc73bad28", func := "sapwood/sapwoodtop.TopLinear", spec := "topLinear", unfollowed := true, recurses := true, apart := false }
def TopLinearSaid : Prop := topLinearRow.holds Try.pinned (OpenSpec.ofChange topLinearSpec)

/-- ITS FALSE NEIGHBOUR: 'it returns false'. Refute it at one input. -/
def topLinearWrong : ChangeSpec := { name := "topLinear", fn := fun _ => fun
  | [d1, d2] => { results := [.lit (.bool false)], args := [d1, d2] }
  | _ => none }
def TopLinearWrongFalsely : Prop := topLinearRow.holds Try.pinned (OpenSpec.ofChange topLinearWrong)

/-- 'sapwoodlaw16.ClientNil': WHATEVER THE INPUT: true; the input reads as it did. -/
def clientNilSpec : ChangeSpec := { name := "clientNil", fn := fun _ => fun
  | [d1, d2] => { results := [.lit (.bool true)], args := [d1, d2] }
  | _ => none }
def clientNilRow : OpenClaim := { program := "ytglhnfficliaoaa", sum := "3b42c558318cfabe3f20f677869e704e80b844cbcd12eec1815de05fc73bad28", func := "sapwood/sapwoodlaw16.ClientNil", spec := "clientNil", unfollowed := true, recurses := true, apart := false }
def ClientNilSaid : Prop := clientNilRow.holds Try.pinned (OpenSpec.ofChange clientNilSpec)

/-- ITS FALSE NEIGHBOUR: 'it returns false'. Refute it at one input. -/
def clientNilWrong : ChangeSpec := { name := "clientNil", fn := fun _ => fun
  | [d1, d2] => { results := [.lit (.bool false)], args := [d1, d2] }
  | _ => none }
def ClientNilWrongFalsely : Prop := clientNilRow.holds Try.pinned (OpenSpec.ofChange clientNilWrong)

/-- 'sapwoodlaw16.ClientTries': WHATEVER THE INPUT: true; the input reads as it did. -/
def clientTriesSpec : ChangeSpec := { name := "clientTries", fn := fun _ => fun
  | [d] => { results := [.lit (.bool true)], args := [d] }
  | _ => none }
def clientTriesRow : OpenClaim := { program := "ytglhnfficliaoaa", sum := "3b42c558318cfabe3f20f677869e704e80b844cbcd12eec1815de05fc73bad28", func := "sapwood/sapwoodlaw16.ClientTries", spec := "clientTries", unfollowed := true, recurses := true, apart := false }
def ClientTriesSaid : Prop := clientTriesRow.holds Try.pinned (OpenSpec.ofChange clientTriesSpec)

/-- ITS FALSE NEIGHBOUR: 'it returns false'. Refute it at one input. -/
def clientTriesWrong : ChangeSpec := { name := "clientTries", fn := fun _ => fun
  | [d] => { results := [.lit (.bool false)], args := [d] }
  | _ => none }
def ClientTriesWrongFalsely : Prop := clientTriesRow.holds Try.pinned (OpenSpec.ofChange clientTriesWrong)

/-- 'sapwoodlaw16.ClientLinear': WHATEVER THE INPUT: true; the input reads as it did. -/
def clientLinearSpec : ChangeSpec := { name := "clientLinear", fn := fun _ => fun
  | [d] => { results := [.lit (.bool true)], args := [d] }
  | _ => none }
def clientLinearRow : OpenClaim := { program := "ytglhnfficliaoaa", sum := "3b42c558318cfabe3f20f677869e704e80b844cbcd12eec1815de05fc73bad28", func := "sapwood/sapwoodlaw16.ClientLinear", spec := "clientLinear", unfollowed := true, recurses := true, apart := false }
def ClientLinearSaid : Prop := clientLinearRow.holds Try.pinned (OpenSpec.ofChange clientLinearSpec)

/-- ITS FALSE NEIGHBOUR: 'it returns false'. Refute it at one input. -/
def clientLinearWrong : ChangeSpec := { name := "clientLinear", fn := fun _ => fun
  | [d] => { results := [.lit (.bool false)], args := [d] }
  | _ => none }
def ClientLinearWrongFalsely : Prop := clientLinearRow.holds Try.pinned (OpenSpec.ofChange clientLinearWrong)

/-- 'sapwoodlaw16.ClientEnds': WHATEVER THE INPUT: true; the input reads as it did. -/
def clientEndsSpec : ChangeSpec := { name := "clientEnds", fn := fun _ => fun
  | [d] => { results := [.lit (.bool true)], args := [d] }
  | _ => none }
def clientEndsRow : OpenClaim := { program := "ytglhnfficliaoaa", sum := "3b42c558318cfabe3f20f677869e704e80b844cbcd12eec1815de05fc73bad28", func := "sapwood/sapwoodlaw16.ClientEnds", spec := "clientEnds", unfollowed := true, recurses := true, apart := false }
def ClientEndsSaid : Prop := clientEndsRow.holds Try.pinned (OpenSpec.ofChange clientEndsSpec)

/-- ITS FALSE NEIGHBOUR: 'it returns false'. Refute it at one input. -/
def clientEndsWrong : ChangeSpec := { name := "clientEnds", fn := fun _ => fun
  | [d] => { results := [.lit (.bool false)], args := [d] }
  | _ => none }
def ClientEndsWrongFalsely : Prop := clientEndsRow.holds Try.pinned (OpenSpec.ofChange clientEndsWrong)

/-- 'sapwoodlaw16.ClientArgs': WHATEVER THE INPUT: true; the input reads as it did. -/
def clientArgsSpec : ChangeSpec := { name := "clientArgs", fn := fun _ => fun
  | [d1, d2] => { results := [.lit (.bool true)], args := [d1, d2] }
  | _ => none }
def clientArgsRow : OpenClaim := { program := "ytglhnfficliaoaa", sum := "3b42c558318cfabe3f20f677869e704e80b844cbcd12eec1815de05fc73bad28", func := "sapwood/sapwoodlaw16.ClientArgs", spec := "clientArgs", unfollowed := true, recurses := true, apart := false }
def ClientArgsSaid : Prop := clientArgsRow.holds Try.pinned (OpenSpec.ofChange clientArgsSpec)

/-- ITS FALSE NEIGHBOUR: 'it returns false'. Refute it at one input. -/
def clientArgsWrong : ChangeSpec := { name := "clientArgs", fn := fun _ => fun
  | [d1, d2] => { results := [.lit (.bool false)], args := [d1, d2] }
  | _ => none }
def ClientArgsWrongFalsely : Prop := clientArgsRow.holds Try.pinned (OpenSpec.ofChange clientArgsWrong)

/-- 'sapwoodlaw16.ClientAlone': WHATEVER THE INPUT: true; the input reads as it did. -/
def clientAloneSpec : ChangeSpec := { name := "clientAlone", fn := fun _ => fun
  | [d] => { results := [.lit (.bool true)], args := [d] }
  | _ => none }
def clientAloneRow : OpenClaim := { program := "ytglhnfficliaoaa", sum := "3b42c558318cfabe3f20f677869e704e80b844cbcd12eec1815de05fc73bad28", func := "sapwood/sapwoodlaw16.ClientAlone", spec := "clientAlone", unfollowed := true, recurses := true, apart := false }
def ClientAloneSaid : Prop := clientAloneRow.holds Try.pinned (OpenSpec.ofChange clientAloneSpec)

/-- ITS FALSE NEIGHBOUR: 'it returns false'. Refute it at one input. -/
def clientAloneWrong : ChangeSpec := { name := "clientAlone", fn := fun _ => fun
  | [d] => { results := [.lit (.bool false)], args := [d] }
  | _ => none }
def ClientAloneWrongFalsely : Prop := clientAloneRow.holds Try.pinned (OpenSpec.ofChange clientAloneWrong)

/- THE SECOND FORM. 'bulk': how many values and letters a reading holds, each counted each time it is reached (what is shared counts as often as it is met; a slice's spare places count too). A statement '..UptoSaid' is the law's where the arguments, and the package variables that the reading takes, are together of bulk at most 1048576: NARROWER than '..Said'. Prove '..Said' where nothing that the law and all that it calls make is longer than what came in: it says more and counts as full. Else prove '..UptoSaid'. A law counts once. -/
mutual
def uptoBulk {H : Type} : DataW H → Nat
  | .lit (.string bytes) => bytes.length + 1
  | .lit _ => 1
  | .nil => 1
  | .ptr d => uptoBulk d + 1
  | .slice elems spare => uptoBulkAll elems + uptoBulkAll spare + 1
  | .agg parts => uptoBulkAll parts + 1
  | .iface _ d => uptoBulk d + 1
  | .map entries => uptoBulkEntries entries + 1
  | .held _ => 1
def uptoBulkAll {H : Type} : List (DataW H) → Nat
  | [] => 0
  | d :: r => uptoBulk d + uptoBulkAll r
def uptoBulkEntries {H : Type} : List (Lit × DataW H) → Nat
  | [] => 0
  | x :: r => uptoBulkEntry x + uptoBulkEntries r
def uptoBulkEntry {H : Type} : Lit × DataW H → Nat
  | (.string bytes, d) => bytes.length + uptoBulk d + 1
  | (_, d) => uptoBulk d + 1
 end
def uptoSmall : (H : Type) → List (DataW H) → Bool := fun _ ds => decide (uptoBulkAll ds ≤ 1048576)
def OpenSpec.upto (s : _root_.Go.ChangeSpec) : _root_.Go.OpenSpec := { _root_.Go.OpenSpec.ofChange s with cond := some uptoSmall }

/-- 'sapwoodtop.TopLinear', WHERE WHAT IT READS IS OF BULK AT MOST 1048576: true; the input reads as it did. -/
def topLinearUptoRow : OpenClaim := { program := "ytglhnfficliaoaa", sum := "3b42c558318cfabe3f20f677869e704e80b844cbcd12eec1815de05fc73bad28", func := "sapwood/sapwoodtop.TopLinear", spec := "topLinear", unfollowed := true, recurses := true, apart := false, narrowed := true }
def TopLinearUptoSaid : Prop := topLinearUptoRow.holds Try.pinned (OpenSpec.upto topLinearSpec)

/-- 'sapwoodlaw16.ClientNil', WHERE WHAT IT READS IS OF BULK AT MOST 1048576: true; the input reads as it did. -/
def clientNilUptoRow : OpenClaim := { program := "ytglhnfficliaoaa", sum := "3b42c558318cfabe3f20f677869e704e80b844cbcd12eec1815de05fc73bad28", func := "sapwood/sapwoodlaw16.ClientNil", spec := "clientNil", unfollowed := true, recurses := true, apart := false, narrowed := true }
def ClientNilUptoSaid : Prop := clientNilUptoRow.holds Try.pinned (OpenSpec.upto clientNilSpec)

/-- 'sapwoodlaw16.ClientTries', WHERE WHAT IT READS IS OF BULK AT MOST 1048576: true; the input reads as it did. -/
def clientTriesUptoRow : OpenClaim := { program := "ytglhnfficliaoaa", sum := "3b42c558318cfabe3f20f677869e704e80b844cbcd12eec1815de05fc73bad28", func := "sapwood/sapwoodlaw16.ClientTries", spec := "clientTries", unfollowed := true, recurses := true, apart := false, narrowed := true }
def ClientTriesUptoSaid : Prop := clientTriesUptoRow.holds Try.pinned (OpenSpec.upto clientTriesSpec)

/-- 'sapwoodlaw16.ClientLinear', WHERE WHAT IT READS IS OF BULK AT MOST 1048576: true; the input reads as it did. -/
def clientLinearUptoRow : OpenClaim := { program := "ytglhnfficliaoaa", sum := "3b42c558318cfabe3f20f677869e704e80b844cbcd12eec1815de05fc73bad28", func := "sapwood/sapwoodlaw16.ClientLinear", spec := "clientLinear", unfollowed := true, recurses := true, apart := false, narrowed := true }
def ClientLinearUptoSaid : Prop := clientLinearUptoRow.holds Try.pinned (OpenSpec.upto clientLinearSpec)

/-- 'sapwoodlaw16.ClientEnds', WHERE WHAT IT READS IS OF BULK AT MOST 1048576: true; the input reads as it did. -/
def clientEndsUptoRow : OpenClaim := { program := "ytglhnfficliaoaa", sum := "3b42c558318cfabe3f20f677869e704e80b844cbcd12eec1815de05fc73bad28", func := "sapwood/sapwoodlaw16.ClientEnds", spec := "clientEnds", unfollowed := true, recurses := true, apart := false, narrowed := true }
def ClientEndsUptoSaid : Prop := clientEndsUptoRow.holds Try.pinned (OpenSpec.upto clientEndsSpec)

/-- 'sapwoodlaw16.ClientArgs', WHERE WHAT IT READS IS OF BULK AT MOST 1048576: true; the input reads as it did. -/
def clientArgsUptoRow : OpenClaim := { program := "ytglhnfficliaoaa", sum := "3b42c558318cfabe3f20f677869e704e80b844cbcd12eec1815de05fc73bad28", func := "sapwood/sapwoodlaw16.ClientArgs", spec := "clientArgs", unfollowed := true, recurses := true, apart := false, narrowed := true }
def ClientArgsUptoSaid : Prop := clientArgsUptoRow.holds Try.pinned (OpenSpec.upto clientArgsSpec)

/-- 'sapwoodlaw16.ClientAlone', WHERE WHAT IT READS IS OF BULK AT MOST 1048576: true; the input reads as it did. -/
def clientAloneUptoRow : OpenClaim := { program := "ytglhnfficliaoaa", sum := "3b42c558318cfabe3f20f677869e704e80b844cbcd12eec1815de05fc73bad28", func := "sapwood/sapwoodlaw16.ClientAlone", spec := "clientAlone", unfollowed := true, recurses := true, apart := false, narrowed := true }
def ClientAloneUptoSaid : Prop := clientAloneUptoRow.holds Try.pinned (OpenSpec.upto clientAloneSpec)

end Rows
end Go.Proofs.Ytglhnfficliaoaa
