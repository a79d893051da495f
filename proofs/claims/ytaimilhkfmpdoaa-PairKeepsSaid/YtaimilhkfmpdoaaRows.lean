/-
  No cell of these rows narrows 'for every input' (looked for: loops, veiled, ifaces, maps, wideKeys, modest, calm, conditions, laid).
  DERIVED. THE GIVEN ROWS OF THIS SEAT. 11 by the template 'for every input the law returns true; each argument reads behind the call as it read before'; 0 by the template 'total and deterministic' (their statements: YtaimilhkfmpdoaaTotals.lean).
  GIVEN WITH THE SEED: the statements are not yours to turn. If you find one false, say at which input.
  Laid BY PROGRAM, IN A SANDBOX (cutbox-rows.mjs): the forced cells as the released guide's own fill.sh prints them over the translation 44164f581ae88f84… (all of the seat's roots in one cut). By AI agents, Wed Nov 11 2026. No macro, syntax, notation, axiom, sorry.
-/
import Derived.Test.YtaimilhkfmpdoaaChecked
import GoSem.Claim
import GoSem.ClaimJoined
import GoSem.ClaimMapViews
import Derived.JoinedTies
import Derived.KernelRfl
namespace Go.Proofs.Ytaimilhkfmpdoaa
/- THE CELL 'sum', in the pinned program and in every row, IS THE sha256 OF THE DUMP (.gsa) THAT YtaimilhkfmpdoaaProg.lean LOADS. Nothing in Lean hashes anything: it is a label: what it is worth is what the hold of that sum in a sandbox is worth. -/
noncomputable def Try.pinned : Pinned := { name := "ytaimilhkfmpdoaa", sum := "44164f581ae88f8436e1f44aac24c592e2783662b84a28b4e2a51fb82715292e", checked := Try.checked }
namespace Rows
def none {H : Type} : Left H := { results := [], args := [] }

/-- 'sapwoodlaw08.CellPlays': WHATEVER THE INPUT: true; the input reads as it did. -/
def cellPlaysSpec : ChangeSpec := { name := "cellPlays", fn := fun _ => fun
  | [d1, d2] => { results := [.lit (.bool true)], args := [d1, d2] }
  | _ => none }
def cellPlaysRow : OpenClaim := { program := "ytaimilhkfmpdoaa", sum := "44164f581ae88f8436e1f44aac24c592e2783662b84a28b4e2a51fb82715292e", func := "sapwood/sapwoodlaw08.CellPlays", spec := "cellPlays", apart := false }
def CellPlaysSaid : Prop := cellPlaysRow.holds Try.pinned (OpenSpec.ofChange cellPlaysSpec)

/-- ITS FALSE NEIGHBOUR: 'it returns false'. Refute it at one input. -/
def cellPlaysWrong : ChangeSpec := { name := "cellPlays", fn := fun _ => fun
  | [d1, d2] => { results := [.lit (.bool false)], args := [d1, d2] }
  | _ => none }
def CellPlaysWrongFalsely : Prop := cellPlaysRow.holds Try.pinned (OpenSpec.ofChange cellPlaysWrong)

/-- 'sapwoodlaw08.CellOnce': WHATEVER THE INPUT: true; the input reads as it did. -/
def cellOnceSpec : ChangeSpec := { name := "cellOnce", fn := fun _ => fun
  | [d1, d2] => { results := [.lit (.bool true)], args := [d1, d2] }
  | _ => none }
def cellOnceRow : OpenClaim := { program := "ytaimilhkfmpdoaa", sum := "44164f581ae88f8436e1f44aac24c592e2783662b84a28b4e2a51fb82715292e", func := "sapwood/sapwoodlaw08.CellOnce", spec := "cellOnce", apart := false }
def CellOnceSaid : Prop := cellOnceRow.holds Try.pinned (OpenSpec.ofChange cellOnceSpec)

/-- ITS FALSE NEIGHBOUR: 'it returns false'. Refute it at one input. -/
def cellOnceWrong : ChangeSpec := { name := "cellOnce", fn := fun _ => fun
  | [d1, d2] => { results := [.lit (.bool false)], args := [d1, d2] }
  | _ => none }
def CellOnceWrongFalsely : Prop := cellOnceRow.holds Try.pinned (OpenSpec.ofChange cellOnceWrong)

/-- 'sapwoodlaw08.CellAny': WHATEVER THE INPUT: true; the input reads as it did. -/
def cellAnySpec : ChangeSpec := { name := "cellAny", fn := fun _ => fun
  | [d1, d2] => { results := [.lit (.bool true)], args := [d1, d2] }
  | _ => none }
def cellAnyRow : OpenClaim := { program := "ytaimilhkfmpdoaa", sum := "44164f581ae88f8436e1f44aac24c592e2783662b84a28b4e2a51fb82715292e", func := "sapwood/sapwoodlaw08.CellAny", spec := "cellAny", apart := false }
def CellAnySaid : Prop := cellAnyRow.holds Try.pinned (OpenSpec.ofChange cellAnySpec)

/-- ITS FALSE NEIGHBOUR: 'it returns false'. Refute it at one input. -/
def cellAnyWrong : ChangeSpec := { name := "cellAny", fn := fun _ => fun
  | [d1, d2] => { results := [.lit (.bool false)], args := [d1, d2] }
  | _ => none }
def CellAnyWrongFalsely : Prop := cellAnyRow.holds Try.pinned (OpenSpec.ofChange cellAnyWrong)

/-- 'sapwoodlaw08.CellNil': WHATEVER THE INPUT: true; the input reads as it did. -/
def cellNilSpec : ChangeSpec := { name := "cellNil", fn := fun _ => fun
  | [d1, d2] => { results := [.lit (.bool true)], args := [d1, d2] }
  | _ => none }
def cellNilRow : OpenClaim := { program := "ytaimilhkfmpdoaa", sum := "44164f581ae88f8436e1f44aac24c592e2783662b84a28b4e2a51fb82715292e", func := "sapwood/sapwoodlaw08.CellNil", spec := "cellNil", apart := false }
def CellNilSaid : Prop := cellNilRow.holds Try.pinned (OpenSpec.ofChange cellNilSpec)

/-- ITS FALSE NEIGHBOUR: 'it returns false'. Refute it at one input. -/
def cellNilWrong : ChangeSpec := { name := "cellNil", fn := fun _ => fun
  | [d1, d2] => { results := [.lit (.bool false)], args := [d1, d2] }
  | _ => none }
def CellNilWrongFalsely : Prop := cellNilRow.holds Try.pinned (OpenSpec.ofChange cellNilWrong)

/-- 'sapwoodlaw08.CellCounts': WHATEVER THE INPUT: true; the input reads as it did. -/
def cellCountsSpec : ChangeSpec := { name := "cellCounts", fn := fun _ => fun
  | [d1, d2] => { results := [.lit (.bool true)], args := [d1, d2] }
  | _ => none }
def cellCountsRow : OpenClaim := { program := "ytaimilhkfmpdoaa", sum := "44164f581ae88f8436e1f44aac24c592e2783662b84a28b4e2a51fb82715292e", func := "sapwood/sapwoodlaw08.CellCounts", spec := "cellCounts", apart := false }
def CellCountsSaid : Prop := cellCountsRow.holds Try.pinned (OpenSpec.ofChange cellCountsSpec)

/-- ITS FALSE NEIGHBOUR: 'it returns false'. Refute it at one input. -/
def cellCountsWrong : ChangeSpec := { name := "cellCounts", fn := fun _ => fun
  | [d1, d2] => { results := [.lit (.bool false)], args := [d1, d2] }
  | _ => none }
def CellCountsWrongFalsely : Prop := cellCountsRow.holds Try.pinned (OpenSpec.ofChange cellCountsWrong)

/-- 'sapwoodlaw03.PairBuilds': WHATEVER THE INPUT: true; the input reads as it did. -/
def pairBuildsSpec : ChangeSpec := { name := "pairBuilds", fn := fun _ => fun
  | [d] => { results := [.lit (.bool true)], args := [d] }
  | _ => none }
def pairBuildsRow : OpenClaim := { program := "ytaimilhkfmpdoaa", sum := "44164f581ae88f8436e1f44aac24c592e2783662b84a28b4e2a51fb82715292e", func := "sapwood/sapwoodlaw03.PairBuilds", spec := "pairBuilds", apart := false }
def PairBuildsSaid : Prop := pairBuildsRow.holds Try.pinned (OpenSpec.ofChange pairBuildsSpec)

/-- ITS FALSE NEIGHBOUR: 'it returns false'. Refute it at one input. -/
def pairBuildsWrong : ChangeSpec := { name := "pairBuilds", fn := fun _ => fun
  | [d] => { results := [.lit (.bool false)], args := [d] }
  | _ => none }
def PairBuildsWrongFalsely : Prop := pairBuildsRow.holds Try.pinned (OpenSpec.ofChange pairBuildsWrong)

/-- 'sapwoodlaw03.PairRights': WHATEVER THE INPUT: true; the input reads as it did. -/
def pairRightsSpec : ChangeSpec := { name := "pairRights", fn := fun _ => fun
  | [d1, d2] => { results := [.lit (.bool true)], args := [d1, d2] }
  | _ => none }
def pairRightsRow : OpenClaim := { program := "ytaimilhkfmpdoaa", sum := "44164f581ae88f8436e1f44aac24c592e2783662b84a28b4e2a51fb82715292e", func := "sapwood/sapwoodlaw03.PairRights", spec := "pairRights", apart := false }
def PairRightsSaid : Prop := pairRightsRow.holds Try.pinned (OpenSpec.ofChange pairRightsSpec)

/-- ITS FALSE NEIGHBOUR: 'it returns false'. Refute it at one input. -/
def pairRightsWrong : ChangeSpec := { name := "pairRights", fn := fun _ => fun
  | [d1, d2] => { results := [.lit (.bool false)], args := [d1, d2] }
  | _ => none }
def PairRightsWrongFalsely : Prop := pairRightsRow.holds Try.pinned (OpenSpec.ofChange pairRightsWrong)

/-- 'sapwoodlaw03.PairLists': WHATEVER THE INPUT: true; the input reads as it did. -/
def pairListsSpec : ChangeSpec := { name := "pairLists", fn := fun _ => fun
  | [d1, d2, d3] => { results := [.lit (.bool true)], args := [d1, d2, d3] }
  | _ => none }
def pairListsRow : OpenClaim := { program := "ytaimilhkfmpdoaa", sum := "44164f581ae88f8436e1f44aac24c592e2783662b84a28b4e2a51fb82715292e", func := "sapwood/sapwoodlaw03.PairLists", spec := "pairLists", apart := false }
def PairListsSaid : Prop := pairListsRow.holds Try.pinned (OpenSpec.ofChange pairListsSpec)

/-- ITS FALSE NEIGHBOUR: 'it returns false'. Refute it at one input. -/
def pairListsWrong : ChangeSpec := { name := "pairLists", fn := fun _ => fun
  | [d1, d2, d3] => { results := [.lit (.bool false)], args := [d1, d2, d3] }
  | _ => none }
def PairListsWrongFalsely : Prop := pairListsRow.holds Try.pinned (OpenSpec.ofChange pairListsWrong)

/-- 'sapwoodlaw03.PairTakes': WHATEVER THE INPUT: true; the input reads as it did. -/
def pairTakesSpec : ChangeSpec := { name := "pairTakes", fn := fun _ => fun
  | [d1, d2] => { results := [.lit (.bool true)], args := [d1, d2] }
  | _ => none }
def pairTakesRow : OpenClaim := { program := "ytaimilhkfmpdoaa", sum := "44164f581ae88f8436e1f44aac24c592e2783662b84a28b4e2a51fb82715292e", func := "sapwood/sapwoodlaw03.PairTakes", spec := "pairTakes", apart := false }
def PairTakesSaid : Prop := pairTakesRow.holds Try.pinned (OpenSpec.ofChange pairTakesSpec)

/-- ITS FALSE NEIGHBOUR: 'it returns false'. Refute it at one input. -/
def pairTakesWrong : ChangeSpec := { name := "pairTakes", fn := fun _ => fun
  | [d1, d2] => { results := [.lit (.bool false)], args := [d1, d2] }
  | _ => none }
def PairTakesWrongFalsely : Prop := pairTakesRow.holds Try.pinned (OpenSpec.ofChange pairTakesWrong)

/-- 'sapwoodlaw03.PairKeeps': WHATEVER THE INPUT: true; the input reads as it did. -/
def pairKeepsSpec : ChangeSpec := { name := "pairKeeps", fn := fun _ => fun
  | [d1, d2] => { results := [.lit (.bool true)], args := [d1, d2] }
  | _ => none }
def pairKeepsRow : OpenClaim := { program := "ytaimilhkfmpdoaa", sum := "44164f581ae88f8436e1f44aac24c592e2783662b84a28b4e2a51fb82715292e", func := "sapwood/sapwoodlaw03.PairKeeps", spec := "pairKeeps", apart := false }
def PairKeepsSaid : Prop := pairKeepsRow.holds Try.pinned (OpenSpec.ofChange pairKeepsSpec)

/-- ITS FALSE NEIGHBOUR: 'it returns false'. Refute it at one input. -/
def pairKeepsWrong : ChangeSpec := { name := "pairKeeps", fn := fun _ => fun
  | [d1, d2] => { results := [.lit (.bool false)], args := [d1, d2] }
  | _ => none }
def PairKeepsWrongFalsely : Prop := pairKeepsRow.holds Try.pinned (OpenSpec.ofChange pairKeepsWrong)

/-- 'sapwoodlaw03.PairMany': WHATEVER THE INPUT: true; the input reads as it did. -/
def pairManySpec : ChangeSpec := { name := "pairMany", fn := fun _ => fun
  | [d1, d2] => { results := [.lit (.bool true)], args := [d1, d2] }
  | _ => none }
def pairManyRow : OpenClaim := { program := "ytaimilhkfmpdoaa", sum := "44164f581ae88f8436e1f44aac24c592e2783662b84a28b4e2a51fb82715292e", func := "sapwood/sapwoodlaw03.PairMany", spec := "pairMany", apart := false }
def PairManySaid : Prop := pairManyRow.holds Try.pinned (OpenSpec.ofChange pairManySpec)

/-- ITS FALSE NEIGHBOUR: 'it returns false'. Refute it at one input. -/
def pairManyWrong : ChangeSpec := { name := "pairMany", fn := fun _ => fun
  | [d1, d2] => { results := [.lit (.bool false)], args := [d1, d2] }
  | _ => none }
def PairManyWrongFalsely : Prop := pairManyRow.holds Try.pinned (OpenSpec.ofChange pairManyWrong)

/- THE SECOND FORM. 'bulk': how many values and letters a reading holds, each counted each time it is reached (what is shared counts as often as it is met; a slice's spare places count too). A statement '..UptoSaid' is the law's where the arguments, and the package variables that the reading takes, are together of bulk at most 1048576: NARROWER than '..Said'. Prove '..Said' where nothing that the law and all that it calls make is longer than what came in: it says more and counts as full. Else prove '..UptoSaid'. A law counts once. -/
mutual
def uptoBulk {H : Type} : DataW H → Nat
  | .lit (.string bytes) => bytes.length + 1
  | .lit _ => 1
  | .nil => 1
  | .ptr d => uptoBulk d + 1
  | .slice elems spare => uptoBulkAll elems + uptoBulkAll spare + 1
  | .agg parts => uptoBulkAll parts + 1
  | .iface _ d => uptoBulk d + 1
  | .map entries => uptoBulkEntries entries + 1
  | .held _ => 1
def uptoBulkAll {H : Type} : List (DataW H) → Nat
  | [] => 0
  | d :: r => uptoBulk d + uptoBulkAll r
def uptoBulkEntries {H : Type} : List (Lit × DataW H) → Nat
  | [] => 0
  | x :: r => uptoBulkEntry x + uptoBulkEntries r
def uptoBulkEntry {H : Type} : Lit × DataW H → Nat
  | (.string bytes, d) => bytes.length + uptoBulk d + 1
  | (_, d) => uptoBulk d + 1
 end
def uptoSmall : (H : Type) → List (DataW H) → Bool := fun _ ds => decide (uptoBulkAll ds ≤ 1048576)
def OpenSpec.upto (s : _root_.Go.ChangeSpec) : _root_.Go.OpenSpec := { _root_.Go.OpenSpec.ofChange s with cond := some uptoSmall }

/-- 'sapwoodlaw08.CellPlays', WHERE WHAT IT READS IS OF BULK AT MOST 1048576: true; the input reads as it did. -/
def cellPlaysUptoRow : OpenClaim := { program := "ytaimilhkfmpdoaa", sum := "44164f581ae88f8436e1f44aac24c592e2783662b84a28b4e2a51fb82715292e", func := "sapwood/sapwoodlaw08.CellPlays", spec := "cellPlays", apart := false, narrowed := true }
def CellPlaysUptoSaid : Prop := cellPlaysUptoRow.holds Try.pinned (OpenSpec.upto cellPlaysSpec)

/-- 'sapwoodlaw08.CellOnce', WHERE WHAT IT READS IS OF BULK AT MOST 1048576: true; the input reads as it did. -/
def cellOnceUptoRow : OpenClaim := { program := "ytaimilhkfmpdoaa", sum := "44164f581ae88f8436e1f44aac24c592e2783662b84a28b4e2a51fb82715292e", func := "sapwood/sapwoodlaw08.CellOnce", spec := "cellOnce", apart := false, narrowed := true }
def CellOnceUptoSaid : Prop := cellOnceUptoRow.holds Try.pinned (OpenSpec.upto cellOnceSpec)

/-- 'sapwoodlaw08.CellAny', WHERE WHAT IT READS IS OF BULK AT MOST 1048576: true; the input reads as it did. -/
def cellAnyUptoRow : OpenClaim := { program := "ytaimilhkfmpdoaa", sum := "44164f581ae88f8436e1f44aac24c592e2783662b84a28b4e2a51fb82715292e", func := "sapwood/sapwoodlaw08.CellAny", spec := "cellAny", apart := false, narrowed := true }
def CellAnyUptoSaid : Prop := cellAnyUptoRow.holds Try.pinned (OpenSpec.upto cellAnySpec)

/-- 'sapwoodlaw08.CellNil', WHERE WHAT IT READS IS OF BULK AT MOST 1048576: true; the input reads as it did. -/
def cellNilUptoRow : OpenClaim := { program := "ytaimilhkfmpdoaa", sum := "44164f581ae88f8436e1f44aac24c592e2783662b84a28b4e2a51fb82715292e", func := "sapwood/sapwoodlaw08.CellNil", spec := "cellNil", apart := false, narrowed := true }
def CellNilUptoSaid : Prop := cellNilUptoRow.holds Try.pinned (OpenSpec.upto cellNilSpec)

/-- 'sapwoodlaw08.CellCounts', WHERE WHAT IT READS IS OF BULK AT MOST 1048576: true; the input reads as it did. -/
def cellCountsUptoRow : OpenClaim := { program := "ytaimilhkfmpdoaa", sum := "44164f581ae88f8436e1f44aac24c592e2783662b84a28b4e2a51fb82715292e", func := "sapwood/sapwoodlaw08.CellCounts", spec := "cellCounts", apart := false, narrowed := true }
def CellCountsUptoSaid : Prop := cellCountsUptoRow.holds Try.pinned (OpenSpec.upto cellCountsSpec)

/-- 'sapwoodlaw03.PairBuilds', WHERE WHAT IT READS IS OF BULK AT MOST 1048576: true; the input reads as it did. -/
def pairBuildsUptoRow : OpenClaim := { program := "ytaimilhkfmpdoaa", sum := "44164f581ae88f8436e1f44aac24c592e2783662b84a28b4e2a51fb82715292e", func := "sapwood/sapwoodlaw03.PairBuilds", spec := "pairBuilds", apart := false, narrowed := true }
def PairBuildsUptoSaid : Prop := pairBuildsUptoRow.holds Try.pinned (OpenSpec.upto pairBuildsSpec)

/-- 'sapwoodlaw03.PairRights', WHERE WHAT IT READS IS OF BULK AT MOST 1048576: true; the input reads as it did. -/
def pairRightsUptoRow : OpenClaim := { program := "ytaimilhkfmpdoaa", sum := "44164f581ae88f8436e1f44aac24c592e2783662b84a28b4e2a51fb82715292e", func := "sapwood/sapwoodlaw03.PairRights", spec := "pairRights", apart := false, narrowed := true }
def PairRightsUptoSaid : Prop := pairRightsUptoRow.holds Try.pinned (OpenSpec.upto pairRightsSpec)

/-- 'sapwoodlaw03.PairLists', WHERE WHAT IT READS IS OF BULK AT MOST 1048576: true; the input reads as it did. -/
def pairListsUptoRow : OpenClaim := { program := "ytaimilhkfmpdoaa", sum := "44164f581ae88f8436e1f44aac24c592e2783662b84a28b4e2a51fb82715292e", func := "sapwood/sapwoodlaw03.PairLists", spec := "pairLists", apart := false, narrowed := true }
def PairListsUptoSaid : Prop := pairListsUptoRow.holds Try.pinned (OpenSpec.upto pairListsSpec)

/-- 'sapwoodlaw03.PairTakes', WHERE WHAT IT READS IS OF BULK AT MOST 1048576: true; the input reads as it did. -/
def pairTakesUptoRow : OpenClaim := { program := "ytaimilhkfmpdoaa", sum := "44164f581ae88f8436e1f44aac24c592e2783662b84a28b4e2a51fb82715292e", func := "sapwood/sapwoodlaw03.PairTakes", spec := "pairTakes", apart := false, narrowed := true }
def PairTakesUptoSaid : Prop := pairTakesUptoRow.holds Try.pinned (OpenSpec.upto pairTakesSpec)

/-- 'sapwoodlaw03.PairKeeps', WHERE WHAT IT READS IS OF BULK AT MOST 1048576: true; the input reads as it did. -/
def pairKeepsUptoRow : OpenClaim := { program := "ytaimilhkfmpdoaa", sum := "44164f581ae88f8436e1f44aac24c592e2783662b84a28b4e2a51fb82715292e", func := "sapwood/sapwoodlaw03.PairKeeps", spec := "pairKeeps", apart := false, narrowed := true }
def PairKeepsUptoSaid : Prop := pairKeepsUptoRow.holds Try.pinned (OpenSpec.upto pairKeepsSpec)

/-- 'sapwoodlaw03.PairMany', WHERE WHAT IT READS IS OF BULK AT MOST 1048576: true; the input reads as it did. -/
def pairManyUptoRow : OpenClaim := { program := "ytaimilhkfmpdoaa", sum := "44164f581ae88f8436e1f44aac24c592e2783662b84a28b4e2a51fb82715292e", func := "sapwood/sapwoodlaw03.PairMany", spec := "pairMany", apart := false, narrowed := true }
def PairManyUptoSaid : Prop := pairManyUptoRow.holds Try.pinned (OpenSpec.upto pairManySpec)

end Rows
end Go.Proofs.Ytaimilhkfmpdoaa
