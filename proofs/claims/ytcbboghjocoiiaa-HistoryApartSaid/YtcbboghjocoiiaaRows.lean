/-
  No cell of these rows narrows 'for every input' (looked for: loops, veiled, ifaces, maps, wideKeys, modest, calm, conditions, laid).
  DERIVED. THE GIVEN ROWS OF THIS SEAT. 6 by the template 'for every input the law returns true; each argument reads behind the call as it read before'; 0 by the template 'total and deterministic' (their statements: YtcbboghjocoiiaaTotals.lean).
  GIVEN WITH THE SEED: the statements are not yours to turn. If you find one false, say at which input.
  Laid BY PROGRAM, IN A SANDBOX (cutbox-rows.mjs): the forced cells as the released guide's own fill.sh prints them over the translation 887a4a8da98b972c… (all of the seat's roots in one cut). By AI agents, Wed Nov 11 2026. No macro, syntax, notation, axiom, sorry.
-/
import Derived.Test.YtcbboghjocoiiaaChecked
import GoSem.Claim
import GoSem.ClaimJoined
import GoSem.ClaimMapViews
import Derived.JoinedTies
import Derived.KernelRfl
namespace Go.Proofs.Ytcbboghjocoiiaa
/- THE CELL 'sum', in the pinned program and in every row, IS THE sha256 OF THE DUMP (.gsa) THAT YtcbboghjocoiiaaProg.lean LOADS. Nothing in Lean hashes anything: it is a label: what it is worth is what the hold of that sum in a sandbox is worth. -/
noncomputable def Try.pinned : Pinned := { name := "ytcbboghjocoiiaa", sum := "887a4a8da98b972c3ca24c81bdb488b35e12e949ea2198f9107a56408664d07e", checked := Try.checked }
namespace Rows
def none {H : Type} : Left H := { results := [], args := [] }

/-- 'sapwoodlaw20.HistoryTells': WHATEVER THE INPUT: true; the input reads as it did. -/
def historyTellsSpec : ChangeSpec := { name := "historyTells", fn := fun _ => fun
  | [d1, d2, d3] => { results := [.lit (.bool true)], args := [d1, d2, d3] }
  | _ => none }
def historyTellsRow : OpenClaim := { program := "ytcbboghjocoiiaa", sum := "887a4a8da98b972c3ca24c81bdb488b35e12e949ea2198f9107a56408664d07e", func := "sapwood/sapwoodlaw20.HistoryTells", spec := "historyTells", recurses := true, apart := false }
def HistoryTellsSaid : Prop := historyTellsRow.holds Try.pinned (OpenSpec.ofChange historyTellsSpec)

/-- ITS FALSE NEIGHBOUR: 'it returns false'. Refute it at one input. -/
def historyTellsWrong : ChangeSpec := { name := "historyTells", fn := fun _ => fun
  | [d1, d2, d3] => { results := [.lit (.bool false)], args := [d1, d2, d3] }
  | _ => none }
def HistoryTellsWrongFalsely : Prop := historyTellsRow.holds Try.pinned (OpenSpec.ofChange historyTellsWrong)

/-- 'sapwoodlaw20.HistoryOrder': WHATEVER THE INPUT: true; the input reads as it did. -/
def historyOrderSpec : ChangeSpec := { name := "historyOrder", fn := fun _ => fun
  | [d1, d2, d3] => { results := [.lit (.bool true)], args := [d1, d2, d3] }
  | _ => none }
def historyOrderRow : OpenClaim := { program := "ytcbboghjocoiiaa", sum := "887a4a8da98b972c3ca24c81bdb488b35e12e949ea2198f9107a56408664d07e", func := "sapwood/sapwoodlaw20.HistoryOrder", spec := "historyOrder", recurses := true, apart := false }
def HistoryOrderSaid : Prop := historyOrderRow.holds Try.pinned (OpenSpec.ofChange historyOrderSpec)

/-- ITS FALSE NEIGHBOUR: 'it returns false'. Refute it at one input. -/
def historyOrderWrong : ChangeSpec := { name := "historyOrder", fn := fun _ => fun
  | [d1, d2, d3] => { results := [.lit (.bool false)], args := [d1, d2, d3] }
  | _ => none }
def HistoryOrderWrongFalsely : Prop := historyOrderRow.holds Try.pinned (OpenSpec.ofChange historyOrderWrong)

/-- 'sapwoodlaw20.HistoryOne': WHATEVER THE INPUT: true; the input reads as it did. -/
def historyOneSpec : ChangeSpec := { name := "historyOne", fn := fun _ => fun
  | [d1, d2, d3] => { results := [.lit (.bool true)], args := [d1, d2, d3] }
  | _ => none }
def historyOneRow : OpenClaim := { program := "ytcbboghjocoiiaa", sum := "887a4a8da98b972c3ca24c81bdb488b35e12e949ea2198f9107a56408664d07e", func := "sapwood/sapwoodlaw20.HistoryOne", spec := "historyOne", recurses := true, apart := false }
def HistoryOneSaid : Prop := historyOneRow.holds Try.pinned (OpenSpec.ofChange historyOneSpec)

/-- ITS FALSE NEIGHBOUR: 'it returns false'. Refute it at one input. -/
def historyOneWrong : ChangeSpec := { name := "historyOne", fn := fun _ => fun
  | [d1, d2, d3] => { results := [.lit (.bool false)], args := [d1, d2, d3] }
  | _ => none }
def HistoryOneWrongFalsely : Prop := historyOneRow.holds Try.pinned (OpenSpec.ofChange historyOneWrong)

/-- 'sapwoodlaw20.HistoryLoose': WHATEVER THE INPUT: true; the input reads as it did. -/
def historyLooseSpec : ChangeSpec := { name := "historyLoose", fn := fun _ => fun
  | [d1, d2] => { results := [.lit (.bool true)], args := [d1, d2] }
  | _ => none }
def historyLooseRow : OpenClaim := { program := "ytcbboghjocoiiaa", sum := "887a4a8da98b972c3ca24c81bdb488b35e12e949ea2198f9107a56408664d07e", func := "sapwood/sapwoodlaw20.HistoryLoose", spec := "historyLoose", recurses := true, apart := false }
def HistoryLooseSaid : Prop := historyLooseRow.holds Try.pinned (OpenSpec.ofChange historyLooseSpec)

/-- ITS FALSE NEIGHBOUR: 'it returns false'. Refute it at one input. -/
def historyLooseWrong : ChangeSpec := { name := "historyLoose", fn := fun _ => fun
  | [d1, d2] => { results := [.lit (.bool false)], args := [d1, d2] }
  | _ => none }
def HistoryLooseWrongFalsely : Prop := historyLooseRow.holds Try.pinned (OpenSpec.ofChange historyLooseWrong)

/-- 'sapwoodlaw20.HistoryOnce': WHATEVER THE INPUT: true; the input reads as it did. -/
def historyOnceSpec : ChangeSpec := { name := "historyOnce", fn := fun _ => fun
  | [d1, d2, d3] => { results := [.lit (.bool true)], args := [d1, d2, d3] }
  | _ => none }
def historyOnceRow : OpenClaim := { program := "ytcbboghjocoiiaa", sum := "887a4a8da98b972c3ca24c81bdb488b35e12e949ea2198f9107a56408664d07e", func := "sapwood/sapwoodlaw20.HistoryOnce", spec := "historyOnce", recurses := true, apart := false }
def HistoryOnceSaid : Prop := historyOnceRow.holds Try.pinned (OpenSpec.ofChange historyOnceSpec)

/-- ITS FALSE NEIGHBOUR: 'it returns false'. Refute it at one input. -/
def historyOnceWrong : ChangeSpec := { name := "historyOnce", fn := fun _ => fun
  | [d1, d2, d3] => { results := [.lit (.bool false)], args := [d1, d2, d3] }
  | _ => none }
def HistoryOnceWrongFalsely : Prop := historyOnceRow.holds Try.pinned (OpenSpec.ofChange historyOnceWrong)

/-- 'sapwoodlaw20.HistoryApart': WHATEVER THE INPUT: true; the input reads as it did. -/
def historyApartSpec : ChangeSpec := { name := "historyApart", fn := fun _ => fun
  | [d1, d2, d3] => { results := [.lit (.bool true)], args := [d1, d2, d3] }
  | _ => none }
def historyApartRow : OpenClaim := { program := "ytcbboghjocoiiaa", sum := "887a4a8da98b972c3ca24c81bdb488b35e12e949ea2198f9107a56408664d07e", func := "sapwood/sapwoodlaw20.HistoryApart", spec := "historyApart", recurses := true, apart := false }
def HistoryApartSaid : Prop := historyApartRow.holds Try.pinned (OpenSpec.ofChange historyApartSpec)

/-- ITS FALSE NEIGHBOUR: 'it returns false'. Refute it at one input. -/
def historyApartWrong : ChangeSpec := { name := "historyApart", fn := fun _ => fun
  | [d1, d2, d3] => { results := [.lit (.bool false)], args := [d1, d2, d3] }
  | _ => none }
def HistoryApartWrongFalsely : Prop := historyApartRow.holds Try.pinned (OpenSpec.ofChange historyApartWrong)

/- THE SECOND FORM. 'bulk': how many values and letters a reading holds, each counted each time it is reached (what is shared counts as often as it is met; a slice's spare places count too). A statement '..UptoSaid' is the law's where the arguments, and the package variables that the reading takes, are together of bulk at most 1048576: NARROWER than '..Said'. Prove '..Said' where nothing that the law and all that it calls make is longer than what came in: it says more and counts as full. Else prove '..UptoSaid'. A law counts once. -/
mutual
def uptoBulk {H : Type} : DataW H → Nat
  | .lit (.string bytes) => bytes.length + 1
  | .lit _ => 1
  | .nil => 1
  | .ptr d => uptoBulk d + 1
  | .slice elems spare => uptoBulkAll elems + uptoBulkAll spare + 1
  | .agg parts => uptoBulkAll parts + 1
  | .iface _ d => uptoBulk d + 1
  | .map entries => uptoBulkEntries entries + 1
  | .held _ => 1
def uptoBulkAll {H : Type} : List (DataW H) → Nat
  | [] => 0
  | d :: r => uptoBulk d + uptoBulkAll r
def uptoBulkEntries {H : Type} : List (Lit × DataW H) → Nat
  | [] => 0
  | x :: r => uptoBulkEntry x + uptoBulkEntries r
def uptoBulkEntry {H : Type} : Lit × DataW H → Nat
  | (.string bytes, d) => bytes.length + uptoBulk d + 1
  | (_, d) => uptoBulk d + 1
 end
def uptoSmall : (H : Type) → List (DataW H) → Bool := fun _ ds => decide (uptoBulkAll ds ≤ 1048576)
def OpenSpec.upto (s : _root_.Go.ChangeSpec) : _root_.Go.OpenSpec := { _root_.Go.OpenSpec.ofChange s with cond := some uptoSmall }

/-- 'sapwoodlaw20.HistoryTells', WHERE WHAT IT READS IS OF BULK AT MOST 1048576: true; the input reads as it did. -/
def historyTellsUptoRow : OpenClaim := { program := "ytcbboghjocoiiaa", sum := "887a4a8da98b972c3ca24c81bdb488b35e12e949ea2198f9107a56408664d07e", func := "sapwood/sapwoodlaw20.HistoryTells", spec := "historyTells", recurses := true, apart := false, narrowed := true }
def HistoryTellsUptoSaid : Prop := historyTellsUptoRow.holds Try.pinned (OpenSpec.upto historyTellsSpec)

/-- 'sapwoodlaw20.HistoryOrder', WHERE WHAT IT READS IS OF BULK AT MOST 1048576: true; the input reads as it did. -/
def historyOrderUptoRow : OpenClaim := { program := "ytcbboghjocoiiaa", sum := "887a4a8da98b972c3ca24c81bdb488b35e12e949ea2198f9107a56408664d07e", func := "sapwood/sapwoodlaw20.HistoryOrder", spec := "historyOrder", recurses := true, apart := false, narrowed := true }
def HistoryOrderUptoSaid : Prop := historyOrderUptoRow.holds Try.pinned (OpenSpec.upto historyOrderSpec)

/-- 'sapwoodlaw20.HistoryOne', WHERE WHAT IT READS IS OF BULK AT MOST 1048576: true; the input reads as it did. -/
def historyOneUptoRow : OpenClaim := { program := "ytcbboghjocoiiaa", sum := "887a4a8da98b972c3ca24c81bdb488b35e12e949ea2198f9107a56408664d07e", func := "sapwood/sapwoodlaw20.HistoryOne", spec := "historyOne", recurses := true, apart := false, narrowed := true }
def HistoryOneUptoSaid : Prop := historyOneUptoRow.holds Try.pinned (OpenSpec.upto historyOneSpec)

/-- 'sapwoodlaw20.HistoryLoose', WHERE WHAT IT READS IS OF BULK AT MOST 1048576: true; the input reads as it did. -/
def historyLooseUptoRow : OpenClaim := { program := "ytcbboghjocoiiaa", sum := "887a4a8da98b972c3ca24c81bdb488b35e12e949ea2198f9107a56408664d07e", func := "sapwood/sapwoodlaw20.HistoryLoose", spec := "historyLoose", recurses := true, apart := false, narrowed := true }
def HistoryLooseUptoSaid : Prop := historyLooseUptoRow.holds Try.pinned (OpenSpec.upto historyLooseSpec)

/-- 'sapwoodlaw20.HistoryOnce', WHERE WHAT IT READS IS OF BULK AT MOST 1048576: true; the input reads as it did. -/
def historyOnceUptoRow : OpenClaim := { program := "ytcbboghjocoiiaa", sum := "887a4a8da98b972c3ca24c81bdb488b35e12e949ea2198f9107a56408664d07e", func := "sapwood/sapwoodlaw20.HistoryOnce", spec := "historyOnce", recurses := true, apart := false, narrowed := true }
def HistoryOnceUptoSaid : Prop := historyOnceUptoRow.holds Try.pinned (OpenSpec.upto historyOnceSpec)

/-- 'sapwoodlaw20.HistoryApart', WHERE WHAT IT READS IS OF BULK AT MOST 1048576: true; the input reads as it did. -/
def historyApartUptoRow : OpenClaim := { program := "ytcbboghjocoiiaa", sum := "887a4a8da98b972c3ca24c81bdb488b35e12e949ea2198f9107a56408664d07e", func := "sapwood/sapwoodlaw20.HistoryApart", spec := "historyApart", recurses := true, apart := false, narrowed := true }
def HistoryApartUptoSaid : Prop := historyApartUptoRow.holds Try.pinned (OpenSpec.upto historyApartSpec)

end Rows
end Go.Proofs.Ytcbboghjocoiiaa
