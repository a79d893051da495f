/-
  No cell of these rows narrows 'for every input' (looked for: loops, veiled, ifaces, maps, wideKeys, modest, calm, conditions, laid).
  DERIVED. THE GIVEN ROWS OF THIS SEAT. 11 by the template 'for every input the law returns true; each argument reads behind the call as it read before'; 0 by the template 'total and deterministic' (their statements: YtgaabmoknpifnaaTotals.lean).
  GIVEN WITH THE SEED: the statements are not yours to turn. If you find one false, say at which input.
  Laid BY PROGRAM, IN A SANDBOX (cutbox-rows.mjs): the forced cells as the released guide's own fill.sh prints them over the translation 5cfa59ea1e4d037b… (all of the seat's roots in one cut). By AI agents, Wed Nov 11 2026. No macro, syntax, notation, axiom, sorry.
-/
import Derived.Test.YtgaabmoknpifnaaChecked
import GoSem.Claim
import GoSem.ClaimJoined
import GoSem.ClaimMapViews
import Derived.JoinedTies
import Derived.KernelRfl
namespace Go.Proofs.Ytgaabmoknpifnaa
/- THE CELL 'sum', in the pinned program and in every row, IS THE sha256 OF THE DUMP (.gsa) THAT YtgaabmoknpifnaaProg.lean LOADS. Nothing in Lean hashes anything: it is a label: what it is worth is what the hold of that sum in a sandbox is worth. -/
noncomputable def Try.pinned : Pinned := { name := "ytgaabmoknpifnaa", sum := "5cfa59ea1e4d037bcf499cedc75786c62cc4edc03bc478db7442b5ce630760e1", checked := Try.checked }
namespace Rows
def none {H : Type} : Left H := { results := [], args := [] }

/-- 'sapwoodlaw11.WalkCounts': WHATEVER THE INPUT: true; the input reads as it did. -/
def walkCountsSpec : ChangeSpec := { name := "walkCounts", fn := fun _ => fun
  | [d1, d2, d3, d4] => { results := [.lit (.bool true)], args := [d1, d2, d3, d4] }
  | _ => none }
def walkCountsRow : OpenClaim := { program := "ytgaabmoknpifnaa", sum := "5cfa59ea1e4d037bcf499cedc75786c62cc4edc03bc478db7442b5ce630760e1", func := "sapwood/sapwoodlaw11.WalkCounts", spec := "walkCounts", unfollowed := true, recurses := true, apart := false }
def WalkCountsSaid : Prop := walkCountsRow.holds Try.pinned (OpenSpec.ofChange walkCountsSpec)

/-- ITS FALSE NEIGHBOUR: 'it returns false'. Refute it at one input. -/
def walkCountsWrong : ChangeSpec := { name := "walkCounts", fn := fun _ => fun
  | [d1, d2, d3, d4] => { results := [.lit (.bool false)], args := [d1, d2, d3, d4] }
  | _ => none }
def WalkCountsWrongFalsely : Prop := walkCountsRow.holds Try.pinned (OpenSpec.ofChange walkCountsWrong)

/-- 'sapwoodlaw11.WalkAgain': WHATEVER THE INPUT: true; the input reads as it did. -/
def walkAgainSpec : ChangeSpec := { name := "walkAgain", fn := fun _ => fun
  | [d1, d2, d3] => { results := [.lit (.bool true)], args := [d1, d2, d3] }
  | _ => none }
def walkAgainRow : OpenClaim := { program := "ytgaabmoknpifnaa", sum := "5cfa59ea1e4d037bcf499cedc75786c62cc4edc03bc478db7442b5ce630760e1", func := "sapwood/sapwoodlaw11.WalkAgain", spec := "walkAgain", unfollowed := true, recurses := true, apart := false }
def WalkAgainSaid : Prop := walkAgainRow.holds Try.pinned (OpenSpec.ofChange walkAgainSpec)

/-- ITS FALSE NEIGHBOUR: 'it returns false'. Refute it at one input. -/
def walkAgainWrong : ChangeSpec := { name := "walkAgain", fn := fun _ => fun
  | [d1, d2, d3] => { results := [.lit (.bool false)], args := [d1, d2, d3] }
  | _ => none }
def WalkAgainWrongFalsely : Prop := walkAgainRow.holds Try.pinned (OpenSpec.ofChange walkAgainWrong)

/-- 'sapwoodlaw11.WalkFrom': WHATEVER THE INPUT: true; the input reads as it did. -/
def walkFromSpec : ChangeSpec := { name := "walkFrom", fn := fun _ => fun
  | [d1, d2, d3] => { results := [.lit (.bool true)], args := [d1, d2, d3] }
  | _ => none }
def walkFromRow : OpenClaim := { program := "ytgaabmoknpifnaa", sum := "5cfa59ea1e4d037bcf499cedc75786c62cc4edc03bc478db7442b5ce630760e1", func := "sapwood/sapwoodlaw11.WalkFrom", spec := "walkFrom", unfollowed := true, recurses := true, apart := false }
def WalkFromSaid : Prop := walkFromRow.holds Try.pinned (OpenSpec.ofChange walkFromSpec)

/-- ITS FALSE NEIGHBOUR: 'it returns false'. Refute it at one input. -/
def walkFromWrong : ChangeSpec := { name := "walkFrom", fn := fun _ => fun
  | [d1, d2, d3] => { results := [.lit (.bool false)], args := [d1, d2, d3] }
  | _ => none }
def WalkFromWrongFalsely : Prop := walkFromRow.holds Try.pinned (OpenSpec.ofChange walkFromWrong)

/-- 'sapwoodlaw11.WalkSplits': WHATEVER THE INPUT: true; the input reads as it did. -/
def walkSplitsSpec : ChangeSpec := { name := "walkSplits", fn := fun _ => fun
  | [d1, d2, d3, d4] => { results := [.lit (.bool true)], args := [d1, d2, d3, d4] }
  | _ => none }
def walkSplitsRow : OpenClaim := { program := "ytgaabmoknpifnaa", sum := "5cfa59ea1e4d037bcf499cedc75786c62cc4edc03bc478db7442b5ce630760e1", func := "sapwood/sapwoodlaw11.WalkSplits", spec := "walkSplits", unfollowed := true, recurses := true, apart := false }
def WalkSplitsSaid : Prop := walkSplitsRow.holds Try.pinned (OpenSpec.ofChange walkSplitsSpec)

/-- ITS FALSE NEIGHBOUR: 'it returns false'. Refute it at one input. -/
def walkSplitsWrong : ChangeSpec := { name := "walkSplits", fn := fun _ => fun
  | [d1, d2, d3, d4] => { results := [.lit (.bool false)], args := [d1, d2, d3, d4] }
  | _ => none }
def WalkSplitsWrongFalsely : Prop := walkSplitsRow.holds Try.pinned (OpenSpec.ofChange walkSplitsWrong)

/-- 'sapwoodlaw11.WalkAll': WHATEVER THE INPUT: true; the input reads as it did. -/
def walkAllSpec : ChangeSpec := { name := "walkAll", fn := fun _ => fun
  | [d1, d2] => { results := [.lit (.bool true)], args := [d1, d2] }
  | _ => none }
def walkAllRow : OpenClaim := { program := "ytgaabmoknpifnaa", sum := "5cfa59ea1e4d037bcf499cedc75786c62cc4edc03bc478db7442b5ce630760e1", func := "sapwood/sapwoodlaw11.WalkAll", spec := "walkAll", unfollowed := true, recurses := true, apart := false }
def WalkAllSaid : Prop := walkAllRow.holds Try.pinned (OpenSpec.ofChange walkAllSpec)

/-- ITS FALSE NEIGHBOUR: 'it returns false'. Refute it at one input. -/
def walkAllWrong : ChangeSpec := { name := "walkAll", fn := fun _ => fun
  | [d1, d2] => { results := [.lit (.bool false)], args := [d1, d2] }
  | _ => none }
def WalkAllWrongFalsely : Prop := walkAllRow.holds Try.pinned (OpenSpec.ofChange walkAllWrong)

/-- 'sapwoodlaw11.WalkNil': WHATEVER THE INPUT: true; the input reads as it did. -/
def walkNilSpec : ChangeSpec := { name := "walkNil", fn := fun _ => fun
  | [d1, d2, d3] => { results := [.lit (.bool true)], args := [d1, d2, d3] }
  | _ => none }
def walkNilRow : OpenClaim := { program := "ytgaabmoknpifnaa", sum := "5cfa59ea1e4d037bcf499cedc75786c62cc4edc03bc478db7442b5ce630760e1", func := "sapwood/sapwoodlaw11.WalkNil", spec := "walkNil", unfollowed := true, recurses := true, apart := false }
def WalkNilSaid : Prop := walkNilRow.holds Try.pinned (OpenSpec.ofChange walkNilSpec)

/-- ITS FALSE NEIGHBOUR: 'it returns false'. Refute it at one input. -/
def walkNilWrong : ChangeSpec := { name := "walkNil", fn := fun _ => fun
  | [d1, d2, d3] => { results := [.lit (.bool false)], args := [d1, d2, d3] }
  | _ => none }
def WalkNilWrongFalsely : Prop := walkNilRow.holds Try.pinned (OpenSpec.ofChange walkNilWrong)

/-- 'sapwoodlaw12.CursorSeeks': WHATEVER THE INPUT: true; the input reads as it did. -/
def cursorSeeksSpec : ChangeSpec := { name := "cursorSeeks", fn := fun _ => fun
  | [d1, d2] => { results := [.lit (.bool true)], args := [d1, d2] }
  | _ => none }
def cursorSeeksRow : OpenClaim := { program := "ytgaabmoknpifnaa", sum := "5cfa59ea1e4d037bcf499cedc75786c62cc4edc03bc478db7442b5ce630760e1", func := "sapwood/sapwoodlaw12.CursorSeeks", spec := "cursorSeeks", unfollowed := true, recurses := true, apart := false }
def CursorSeeksSaid : Prop := cursorSeeksRow.holds Try.pinned (OpenSpec.ofChange cursorSeeksSpec)

/-- ITS FALSE NEIGHBOUR: 'it returns false'. Refute it at one input. -/
def cursorSeeksWrong : ChangeSpec := { name := "cursorSeeks", fn := fun _ => fun
  | [d1, d2] => { results := [.lit (.bool false)], args := [d1, d2] }
  | _ => none }
def CursorSeeksWrongFalsely : Prop := cursorSeeksRow.holds Try.pinned (OpenSpec.ofChange cursorSeeksWrong)

/-- 'sapwoodlaw12.CursorTurns': WHATEVER THE INPUT: true; the input reads as it did. -/
def cursorTurnsSpec : ChangeSpec := { name := "cursorTurns", fn := fun _ => fun
  | [d1, d2] => { results := [.lit (.bool true)], args := [d1, d2] }
  | _ => none }
def cursorTurnsRow : OpenClaim := { program := "ytgaabmoknpifnaa", sum := "5cfa59ea1e4d037bcf499cedc75786c62cc4edc03bc478db7442b5ce630760e1", func := "sapwood/sapwoodlaw12.CursorTurns", spec := "cursorTurns", unfollowed := true, recurses := true, apart := false }
def CursorTurnsSaid : Prop := cursorTurnsRow.holds Try.pinned (OpenSpec.ofChange cursorTurnsSpec)

/-- ITS FALSE NEIGHBOUR: 'it returns false'. Refute it at one input. -/
def cursorTurnsWrong : ChangeSpec := { name := "cursorTurns", fn := fun _ => fun
  | [d1, d2] => { results := [.lit (.bool false)], args := [d1, d2] }
  | _ => none }
def CursorTurnsWrongFalsely : Prop := cursorTurnsRow.holds Try.pinned (OpenSpec.ofChange cursorTurnsWrong)

/-- 'sapwoodlaw12.CursorPlays': WHATEVER THE INPUT: true; the input reads as it did. -/
def cursorPlaysSpec : ChangeSpec := { name := "cursorPlays", fn := fun _ => fun
  | [d1, d2] => { results := [.lit (.bool true)], args := [d1, d2] }
  | _ => none }
def cursorPlaysRow : OpenClaim := { program := "ytgaabmoknpifnaa", sum := "5cfa59ea1e4d037bcf499cedc75786c62cc4edc03bc478db7442b5ce630760e1", func := "sapwood/sapwoodlaw12.CursorPlays", spec := "cursorPlays", unfollowed := true, recurses := true, apart := false }
def CursorPlaysSaid : Prop := cursorPlaysRow.holds Try.pinned (OpenSpec.ofChange cursorPlaysSpec)

/-- ITS FALSE NEIGHBOUR: 'it returns false'. Refute it at one input. -/
def cursorPlaysWrong : ChangeSpec := { name := "cursorPlays", fn := fun _ => fun
  | [d1, d2] => { results := [.lit (.bool false)], args := [d1, d2] }
  | _ => none }
def CursorPlaysWrongFalsely : Prop := cursorPlaysRow.holds Try.pinned (OpenSpec.ofChange cursorPlaysWrong)

/-- 'sapwoodlaw12.CursorNil': WHATEVER THE INPUT: true; the input reads as it did. -/
def cursorNilSpec : ChangeSpec := { name := "cursorNil", fn := fun _ => fun
  | [d1, d2] => { results := [.lit (.bool true)], args := [d1, d2] }
  | _ => none }
def cursorNilRow : OpenClaim := { program := "ytgaabmoknpifnaa", sum := "5cfa59ea1e4d037bcf499cedc75786c62cc4edc03bc478db7442b5ce630760e1", func := "sapwood/sapwoodlaw12.CursorNil", spec := "cursorNil", unfollowed := true, recurses := true, apart := false }
def CursorNilSaid : Prop := cursorNilRow.holds Try.pinned (OpenSpec.ofChange cursorNilSpec)

/-- ITS FALSE NEIGHBOUR: 'it returns false'. Refute it at one input. -/
def cursorNilWrong : ChangeSpec := { name := "cursorNil", fn := fun _ => fun
  | [d1, d2] => { results := [.lit (.bool false)], args := [d1, d2] }
  | _ => none }
def CursorNilWrongFalsely : Prop := cursorNilRow.holds Try.pinned (OpenSpec.ofChange cursorNilWrong)

/-- 'sapwoodlaw12.CursorAll': WHATEVER THE INPUT: true; the input reads as it did. -/
def cursorAllSpec : ChangeSpec := { name := "cursorAll", fn := fun _ => fun
  | [d1, d2] => { results := [.lit (.bool true)], args := [d1, d2] }
  | _ => none }
def cursorAllRow : OpenClaim := { program := "ytgaabmoknpifnaa", sum := "5cfa59ea1e4d037bcf499cedc75786c62cc4edc03bc478db7442b5ce630760e1", func := "sapwood/sapwoodlaw12.CursorAll", spec := "cursorAll", unfollowed := true, recurses := true, apart := false }
def CursorAllSaid : Prop := cursorAllRow.holds Try.pinned (OpenSpec.ofChange cursorAllSpec)

/-- ITS FALSE NEIGHBOUR: 'it returns false'. Refute it at one input. -/
def cursorAllWrong : ChangeSpec := { name := "cursorAll", fn := fun _ => fun
  | [d1, d2] => { results := [.lit (.bool false)], args := [d1, d2] }
  | _ => none }
def CursorAllWrongFalsely : Prop := cursorAllRow.holds Try.pinned (OpenSpec.ofChange cursorAllWrong)

/- THE SECOND FORM. 'bulk': how many values and letters a reading holds, each counted each time it is reached (what is shared counts as often as it is met; a slice's spare places count too). A statement '..UptoSaid' is the law's where the arguments, and the package variables that the reading takes, are together of bulk at most 1048576: NARROWER than '..Said'. Prove '..Said' where nothing that the law and all that it calls make is longer than what came in: it says more and counts as full. Else prove '..UptoSaid'. A law counts once. -/
mutual
def uptoBulk {H : Type} : DataW H → Nat
  | .lit (.string bytes) => bytes.length + 1
  | .lit _ => 1
  | .nil => 1
  | .ptr d => uptoBulk d + 1
  | .slice elems spare => uptoBulkAll elems + uptoBulkAll spare + 1
  | .agg parts => uptoBulkAll parts + 1
  | .iface _ d => uptoBulk d + 1
  | .map entries => uptoBulkEntries entries + 1
  | .held _ => 1
def uptoBulkAll {H : Type} : List (DataW H) → Nat
  | [] => 0
  | d :: r => uptoBulk d + uptoBulkAll r
def uptoBulkEntries {H : Type} : List (Lit × DataW H) → Nat
  | [] => 0
  | x :: r => uptoBulkEntry x + uptoBulkEntries r
def uptoBulkEntry {H : Type} : Lit × DataW H → Nat
  | (.string bytes, d) => bytes.length + uptoBulk d + 1
  | (_, d) => uptoBulk d + 1
 end
def uptoSmall : (H : Type) → List (DataW H) → Bool := fun _ ds => decide (uptoBulkAll ds ≤ 1048576)
def OpenSpec.upto (s : _root_.Go.ChangeSpec) : _root_.Go.OpenSpec := { _root_.Go.OpenSpec.ofChange s with cond := some uptoSmall }

/-- 'sapwoodlaw11.WalkCounts', WHERE WHAT IT READS IS OF BULK AT MOST 1048576: true; the input reads as it did. -/
def walkCountsUptoRow : OpenClaim := { program := "ytgaabmoknpifnaa", sum := "5cfa59ea1e4d037bcf499cedc75786c62cc4edc03bc478db7442b5ce630760e1", func := "sapwood/sapwoodlaw11.WalkCounts", spec := "walkCounts", unfollowed := true, recurses := true, apart := false, narrowed := true }
def WalkCountsUptoSaid : Prop := walkCountsUptoRow.holds Try.pinned (OpenSpec.upto walkCountsSpec)

/-- 'sapwoodlaw11.WalkAgain', WHERE WHAT IT READS IS OF BULK AT MOST 1048576: true; the input reads as it did. -/
def walkAgainUptoRow : OpenClaim := { program := "ytgaabmoknpifnaa", sum := "5cfa59ea1e4d037bcf499cedc75786c62cc4edc03bc478db7442b5ce630760e1", func := "sapwood/sapwoodlaw11.WalkAgain", spec := "walkAgain", unfollowed := true, recurses := true, apart := false, narrowed := true }
def WalkAgainUptoSaid : Prop := walkAgainUptoRow.holds Try.pinned (OpenSpec.upto walkAgainSpec)

/-- 'sapwoodlaw11.WalkFrom', WHERE WHAT IT READS IS OF BULK AT MOST 1048576: true; the input reads as it did. -/
def walkFromUptoRow : OpenClaim := { program := "ytgaabmoknpifnaa", sum := "5cfa59ea1e4d037bcf499cedc75786c62cc4edc03bc478db7442b5ce630760e1", func := "sapwood/sapwoodlaw11.WalkFrom", spec := "walkFrom", unfollowed := true, recurses := true, apart := false, narrowed := true }
def WalkFromUptoSaid : Prop := walkFromUptoRow.holds Try.pinned (OpenSpec.upto walkFromSpec)

/-- 'sapwoodlaw11.WalkSplits', WHERE WHAT IT READS IS OF BULK AT MOST 1048576: true; the input reads as it did. -/
def walkSplitsUptoRow : OpenClaim := { program := "ytgaabmoknpifnaa", sum := "5cfa59ea1e4d037bcf499cedc75786c62cc4edc03bc478db7442b5ce630760e1", func := "sapwood/sapwoodlaw11.WalkSplits", spec := "walkSplits", unfollowed := true, recurses := true, apart := false, narrowed := true }
def WalkSplitsUptoSaid : Prop := walkSplitsUptoRow.holds Try.pinned (OpenSpec.upto walkSplitsSpec)

/-- 'sapwoodlaw11.WalkAll', WHERE WHAT IT READS IS OF BULK AT MOST 1048576: true; the input reads as it did. -/
def walkAllUptoRow : OpenClaim := { program := "ytgaabmoknpifnaa", sum := "5cfa59ea1e4d037bcf499cedc75786c62cc4edc03bc478db7442b5ce630760e1", func := "sapwood/sapwoodlaw11.WalkAll", spec := "walkAll", unfollowed := true, recurses := true, apart := false, narrowed := true }
def WalkAllUptoSaid : Prop := walkAllUptoRow.holds Try.pinned (OpenSpec.upto walkAllSpec)

/-- 'sapwoodlaw11.WalkNil', WHERE WHAT IT READS IS OF BULK AT MOST 1048576: true; the input reads as it did. -/
def walkNilUptoRow : OpenClaim := { program := "ytgaabmoknpifnaa", sum := "5cfa59ea1e4d037bcf499cedc75786c62cc4edc03bc478db7442b5ce630760e1", func := "sapwood/sapwoodlaw11.WalkNil", spec := "walkNil", unfollowed := true, recurses := true, apart := false, narrowed := true }
def WalkNilUptoSaid : Prop := walkNilUptoRow.holds Try.pinned (OpenSpec.upto walkNilSpec)

/-- 'sapwoodlaw12.CursorSeeks', WHERE WHAT IT READS IS OF BULK AT MOST 1048576: true; the input reads as it did. -/
def cursorSeeksUptoRow : OpenClaim := { program := "ytgaabmoknpifnaa", sum := "5cfa59ea1e4d037bcf499cedc75786c62cc4edc03bc478db7442b5ce630760e1", func := "sapwood/sapwoodlaw12.CursorSeeks", spec := "cursorSeeks", unfollowed := true, recurses := true, apart := false, narrowed := true }
def CursorSeeksUptoSaid : Prop := cursorSeeksUptoRow.holds Try.pinned (OpenSpec.upto cursorSeeksSpec)

/-- 'sapwoodlaw12.CursorTurns', WHERE WHAT IT READS IS OF BULK AT MOST 1048576: true; the input reads as it did. -/
def cursorTurnsUptoRow : OpenClaim := { program := "ytgaabmoknpifnaa", sum := "5cfa59ea1e4d037bcf499cedc75786c62cc4edc03bc478db7442b5ce630760e1", func := "sapwood/sapwoodlaw12.CursorTurns", spec := "cursorTurns", unfollowed := true, recurses := true, apart := false, narrowed := true }
def CursorTurnsUptoSaid : Prop := cursorTurnsUptoRow.holds Try.pinned (OpenSpec.upto cursorTurnsSpec)

/-- 'sapwoodlaw12.CursorPlays', WHERE WHAT IT READS IS OF BULK AT MOST 1048576: true; the input reads as it did. -/
def cursorPlaysUptoRow : OpenClaim := { program := "ytgaabmoknpifnaa", sum := "5cfa59ea1e4d037bcf499cedc75786c62cc4edc03bc478db7442b5ce630760e1", func := "sapwood/sapwoodlaw12.CursorPlays", spec := "cursorPlays", unfollowed := true, recurses := true, apart := false, narrowed := true }
def CursorPlaysUptoSaid : Prop := cursorPlaysUptoRow.holds Try.pinned (OpenSpec.upto cursorPlaysSpec)

/-- 'sapwoodlaw12.CursorNil', WHERE WHAT IT READS IS OF BULK AT MOST 1048576: true; the input reads as it did. -/
def cursorNilUptoRow : OpenClaim := { program := "ytgaabmoknpifnaa", sum := "5cfa59ea1e4d037bcf499cedc75786c62cc4edc03bc478db7442b5ce630760e1", func := "sapwood/sapwoodlaw12.CursorNil", spec := "cursorNil", unfollowed := true, recurses := true, apart := false, narrowed := true }
def CursorNilUptoSaid : Prop := cursorNilUptoRow.holds Try.pinned (OpenSpec.upto cursorNilSpec)

/-- 'sapwoodlaw12.CursorAll', WHERE WHAT IT READS IS OF BULK AT MOST 1048576: true; the input reads as it did. -/
def cursorAllUptoRow : OpenClaim := { program := "ytgaabmoknpifnaa", sum := "5cfa59ea1e4d037bcf499cedc75786c62cc4edc03bc478db7442b5ce630760e1", func := "sapwood/sapwoodlaw12.CursorAll", spec := "cursorAll", unfollowed := true, recurses := true, apart := false, narrowed := true }
def CursorAllUptoSaid : Prop := cursorAllUptoRow.holds Try.pinned (OpenSpec.upto cursorAllSpec)

end Rows
end Go.Proofs.Ytgaabmoknpifnaa
