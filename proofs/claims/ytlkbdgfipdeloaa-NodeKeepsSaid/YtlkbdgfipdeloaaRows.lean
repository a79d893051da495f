/-
  No cell of these rows narrows 'for every input' (looked for: loops, veiled, ifaces, maps, wideKeys, modest, calm, conditions, laid).
  DERIVED. THE GIVEN ROWS OF THIS SEAT. 12 by the template 'for every input the law returns true; each argument reads behind the call as it read before'; 0 by the template 'total and deterministic' (their statements: YtlkbdgfipdeloaaTotals.lean).
  GIVEN WITH THE SEED: the statements are not yours to turn. If you find one false, say at which input.
  Laid BY PROGRAM, IN A SANDBOX (cutbox-rows.mjs): the forced cells as the released guide's own fill.sh prints them over the translation dc1dc65927a86c13… (all of the seat's roots in one cut). By AI agents, Wed Nov 11 2026. No macro, syntax, notation, axiom, sorry.
-/
import Derived.Test.YtlkbdgfipdeloaaChecked
import GoSem.Claim
import GoSem.ClaimJoined
import GoSem.ClaimMapViews
import Derived.JoinedTies
import Derived.KernelRfl
namespace Go.Proofs.Ytlkbdgfipdeloaa
/- THE CELL 'sum', in the pinned program and in every row, IS THE sha256 OF THE DUMP (.gsa) THAT YtlkbdgfipdeloaaProg.lean LOADS. Nothing in Lean hashes anything: it is a label: what it is worth is what the hold of that sum in a sandbox is worth. -/
noncomputable def Try.pinned : Pinned := { name := "ytlkbdgfipdeloaa", sum := "dc1dc65927a86c13931a0fafdce69b95cb6ae6ac0a9a25a367b7cec5211680f8", checked := Try.checked }
namespace Rows
def none {H : Type} : Left H := { results := [], args := [] }

/-- 'sapwoodlaw09.NodeKeeps': WHATEVER THE INPUT: true; the input reads as it did. -/
def nodeKeepsSpec : ChangeSpec := { name := "nodeKeeps", fn := fun _ => fun
  | [d] => { results := [.lit (.bool true)], args := [d] }
  | _ => none }
def nodeKeepsRow : OpenClaim := { program := "ytlkbdgfipdeloaa", sum := "dc1dc65927a86c13931a0fafdce69b95cb6ae6ac0a9a25a367b7cec5211680f8", func := "sapwood/sapwoodlaw09.NodeKeeps", spec := "nodeKeeps", unfollowed := true, recurses := true, apart := false }
def NodeKeepsSaid : Prop := nodeKeepsRow.holds Try.pinned (OpenSpec.ofChange nodeKeepsSpec)

/-- ITS FALSE NEIGHBOUR: 'it returns false'. Refute it at one input. -/
def nodeKeepsWrong : ChangeSpec := { name := "nodeKeeps", fn := fun _ => fun
  | [d] => { results := [.lit (.bool false)], args := [d] }
  | _ => none }
def NodeKeepsWrongFalsely : Prop := nodeKeepsRow.holds Try.pinned (OpenSpec.ofChange nodeKeepsWrong)

/-- 'sapwoodlaw09.NodeOrder': WHATEVER THE INPUT: true; the input reads as it did. -/
def nodeOrderSpec : ChangeSpec := { name := "nodeOrder", fn := fun _ => fun
  | [d1, d2, d3] => { results := [.lit (.bool true)], args := [d1, d2, d3] }
  | _ => none }
def nodeOrderRow : OpenClaim := { program := "ytlkbdgfipdeloaa", sum := "dc1dc65927a86c13931a0fafdce69b95cb6ae6ac0a9a25a367b7cec5211680f8", func := "sapwood/sapwoodlaw09.NodeOrder", spec := "nodeOrder", unfollowed := true, recurses := true, apart := false }
def NodeOrderSaid : Prop := nodeOrderRow.holds Try.pinned (OpenSpec.ofChange nodeOrderSpec)

/-- ITS FALSE NEIGHBOUR: 'it returns false'. Refute it at one input. -/
def nodeOrderWrong : ChangeSpec := { name := "nodeOrder", fn := fun _ => fun
  | [d1, d2, d3] => { results := [.lit (.bool false)], args := [d1, d2, d3] }
  | _ => none }
def NodeOrderWrongFalsely : Prop := nodeOrderRow.holds Try.pinned (OpenSpec.ofChange nodeOrderWrong)

/-- 'sapwoodlaw09.NodeBuilds': WHATEVER THE INPUT: true; the input reads as it did. -/
def nodeBuildsSpec : ChangeSpec := { name := "nodeBuilds", fn := fun _ => fun
  | [d] => { results := [.lit (.bool true)], args := [d] }
  | _ => none }
def nodeBuildsRow : OpenClaim := { program := "ytlkbdgfipdeloaa", sum := "dc1dc65927a86c13931a0fafdce69b95cb6ae6ac0a9a25a367b7cec5211680f8", func := "sapwood/sapwoodlaw09.NodeBuilds", spec := "nodeBuilds", unfollowed := true, recurses := true, apart := false }
def NodeBuildsSaid : Prop := nodeBuildsRow.holds Try.pinned (OpenSpec.ofChange nodeBuildsSpec)

/-- ITS FALSE NEIGHBOUR: 'it returns false'. Refute it at one input. -/
def nodeBuildsWrong : ChangeSpec := { name := "nodeBuilds", fn := fun _ => fun
  | [d] => { results := [.lit (.bool false)], args := [d] }
  | _ => none }
def NodeBuildsWrongFalsely : Prop := nodeBuildsRow.holds Try.pinned (OpenSpec.ofChange nodeBuildsWrong)

/-- 'sapwoodlaw09.NodeNil': WHATEVER THE INPUT: true; the input reads as it did. -/
def nodeNilSpec : ChangeSpec := { name := "nodeNil", fn := fun _ => fun
  | [d1, d2] => { results := [.lit (.bool true)], args := [d1, d2] }
  | _ => none }
def nodeNilRow : OpenClaim := { program := "ytlkbdgfipdeloaa", sum := "dc1dc65927a86c13931a0fafdce69b95cb6ae6ac0a9a25a367b7cec5211680f8", func := "sapwood/sapwoodlaw09.NodeNil", spec := "nodeNil", unfollowed := true, recurses := true, apart := false }
def NodeNilSaid : Prop := nodeNilRow.holds Try.pinned (OpenSpec.ofChange nodeNilSpec)

/-- ITS FALSE NEIGHBOUR: 'it returns false'. Refute it at one input. -/
def nodeNilWrong : ChangeSpec := { name := "nodeNil", fn := fun _ => fun
  | [d1, d2] => { results := [.lit (.bool false)], args := [d1, d2] }
  | _ => none }
def NodeNilWrongFalsely : Prop := nodeNilRow.holds Try.pinned (OpenSpec.ofChange nodeNilWrong)

/-- 'sapwoodlaw10.TreePlays': WHATEVER THE INPUT: true; the input reads as it did. -/
def treePlaysSpec : ChangeSpec := { name := "treePlays", fn := fun _ => fun
  | [d1, d2] => { results := [.lit (.bool true)], args := [d1, d2] }
  | _ => none }
def treePlaysRow : OpenClaim := { program := "ytlkbdgfipdeloaa", sum := "dc1dc65927a86c13931a0fafdce69b95cb6ae6ac0a9a25a367b7cec5211680f8", func := "sapwood/sapwoodlaw10.TreePlays", spec := "treePlays", unfollowed := true, recurses := true, apart := false }
def TreePlaysSaid : Prop := treePlaysRow.holds Try.pinned (OpenSpec.ofChange treePlaysSpec)

/-- ITS FALSE NEIGHBOUR: 'it returns false'. Refute it at one input. -/
def treePlaysWrong : ChangeSpec := { name := "treePlays", fn := fun _ => fun
  | [d1, d2] => { results := [.lit (.bool false)], args := [d1, d2] }
  | _ => none }
def TreePlaysWrongFalsely : Prop := treePlaysRow.holds Try.pinned (OpenSpec.ofChange treePlaysWrong)

/-- 'sapwoodlaw10.TreeStays': WHATEVER THE INPUT: true; the input reads as it did. -/
def treeStaysSpec : ChangeSpec := { name := "treeStays", fn := fun _ => fun
  | [d] => { results := [.lit (.bool true)], args := [d] }
  | _ => none }
def treeStaysRow : OpenClaim := { program := "ytlkbdgfipdeloaa", sum := "dc1dc65927a86c13931a0fafdce69b95cb6ae6ac0a9a25a367b7cec5211680f8", func := "sapwood/sapwoodlaw10.TreeStays", spec := "treeStays", unfollowed := true, recurses := true, apart := false }
def TreeStaysSaid : Prop := treeStaysRow.holds Try.pinned (OpenSpec.ofChange treeStaysSpec)

/-- ITS FALSE NEIGHBOUR: 'it returns false'. Refute it at one input. -/
def treeStaysWrong : ChangeSpec := { name := "treeStays", fn := fun _ => fun
  | [d] => { results := [.lit (.bool false)], args := [d] }
  | _ => none }
def TreeStaysWrongFalsely : Prop := treeStaysRow.holds Try.pinned (OpenSpec.ofChange treeStaysWrong)

/-- 'sapwoodlaw10.TreePaths': WHATEVER THE INPUT: true; the input reads as it did. -/
def treePathsSpec : ChangeSpec := { name := "treePaths", fn := fun _ => fun
  | [d1, d2] => { results := [.lit (.bool true)], args := [d1, d2] }
  | _ => none }
def treePathsRow : OpenClaim := { program := "ytlkbdgfipdeloaa", sum := "dc1dc65927a86c13931a0fafdce69b95cb6ae6ac0a9a25a367b7cec5211680f8", func := "sapwood/sapwoodlaw10.TreePaths", spec := "treePaths", unfollowed := true, recurses := true, apart := false }
def TreePathsSaid : Prop := treePathsRow.holds Try.pinned (OpenSpec.ofChange treePathsSpec)

/-- ITS FALSE NEIGHBOUR: 'it returns false'. Refute it at one input. -/
def treePathsWrong : ChangeSpec := { name := "treePaths", fn := fun _ => fun
  | [d1, d2] => { results := [.lit (.bool false)], args := [d1, d2] }
  | _ => none }
def TreePathsWrongFalsely : Prop := treePathsRow.holds Try.pinned (OpenSpec.ofChange treePathsWrong)

/-- 'sapwoodlaw10.TreeOrder': WHATEVER THE INPUT: true; the input reads as it did. -/
def treeOrderSpec : ChangeSpec := { name := "treeOrder", fn := fun _ => fun
  | [d1, d2] => { results := [.lit (.bool true)], args := [d1, d2] }
  | _ => none }
def treeOrderRow : OpenClaim := { program := "ytlkbdgfipdeloaa", sum := "dc1dc65927a86c13931a0fafdce69b95cb6ae6ac0a9a25a367b7cec5211680f8", func := "sapwood/sapwoodlaw10.TreeOrder", spec := "treeOrder", unfollowed := true, recurses := true, apart := false }
def TreeOrderSaid : Prop := treeOrderRow.holds Try.pinned (OpenSpec.ofChange treeOrderSpec)

/-- ITS FALSE NEIGHBOUR: 'it returns false'. Refute it at one input. -/
def treeOrderWrong : ChangeSpec := { name := "treeOrder", fn := fun _ => fun
  | [d1, d2] => { results := [.lit (.bool false)], args := [d1, d2] }
  | _ => none }
def TreeOrderWrongFalsely : Prop := treeOrderRow.holds Try.pinned (OpenSpec.ofChange treeOrderWrong)

/-- 'sapwoodlaw10.TreeBack': WHATEVER THE INPUT: true; the input reads as it did. -/
def treeBackSpec : ChangeSpec := { name := "treeBack", fn := fun _ => fun
  | [d1, d2] => { results := [.lit (.bool true)], args := [d1, d2] }
  | _ => none }
def treeBackRow : OpenClaim := { program := "ytlkbdgfipdeloaa", sum := "dc1dc65927a86c13931a0fafdce69b95cb6ae6ac0a9a25a367b7cec5211680f8", func := "sapwood/sapwoodlaw10.TreeBack", spec := "treeBack", unfollowed := true, recurses := true, apart := false }
def TreeBackSaid : Prop := treeBackRow.holds Try.pinned (OpenSpec.ofChange treeBackSpec)

/-- ITS FALSE NEIGHBOUR: 'it returns false'. Refute it at one input. -/
def treeBackWrong : ChangeSpec := { name := "treeBack", fn := fun _ => fun
  | [d1, d2] => { results := [.lit (.bool false)], args := [d1, d2] }
  | _ => none }
def TreeBackWrongFalsely : Prop := treeBackRow.holds Try.pinned (OpenSpec.ofChange treeBackWrong)

/-- 'sapwoodlaw10.TreeCommutes': WHATEVER THE INPUT: true; the input reads as it did. -/
def treeCommutesSpec : ChangeSpec := { name := "treeCommutes", fn := fun _ => fun
  | [d1, d2, d3] => { results := [.lit (.bool true)], args := [d1, d2, d3] }
  | _ => none }
def treeCommutesRow : OpenClaim := { program := "ytlkbdgfipdeloaa", sum := "dc1dc65927a86c13931a0fafdce69b95cb6ae6ac0a9a25a367b7cec5211680f8", func := "sapwood/sapwoodlaw10.TreeCommutes", spec := "treeCommutes", unfollowed := true, recurses := true, apart := false }
def TreeCommutesSaid : Prop := treeCommutesRow.holds Try.pinned (OpenSpec.ofChange treeCommutesSpec)

/-- ITS FALSE NEIGHBOUR: 'it returns false'. Refute it at one input. -/
def treeCommutesWrong : ChangeSpec := { name := "treeCommutes", fn := fun _ => fun
  | [d1, d2, d3] => { results := [.lit (.bool false)], args := [d1, d2, d3] }
  | _ => none }
def TreeCommutesWrongFalsely : Prop := treeCommutesRow.holds Try.pinned (OpenSpec.ofChange treeCommutesWrong)

/-- 'sapwoodlaw10.TreeShares': WHATEVER THE INPUT: true; the input reads as it did. -/
def treeSharesSpec : ChangeSpec := { name := "treeShares", fn := fun _ => fun
  | [d1, d2] => { results := [.lit (.bool true)], args := [d1, d2] }
  | _ => none }
def treeSharesRow : OpenClaim := { program := "ytlkbdgfipdeloaa", sum := "dc1dc65927a86c13931a0fafdce69b95cb6ae6ac0a9a25a367b7cec5211680f8", func := "sapwood/sapwoodlaw10.TreeShares", spec := "treeShares", unfollowed := true, recurses := true, apart := false }
def TreeSharesSaid : Prop := treeSharesRow.holds Try.pinned (OpenSpec.ofChange treeSharesSpec)

/-- ITS FALSE NEIGHBOUR: 'it returns false'. Refute it at one input. -/
def treeSharesWrong : ChangeSpec := { name := "treeShares", fn := fun _ => fun
  | [d1, d2] => { results := [.lit (.bool false)], args := [d1, d2] }
  | _ => none }
def TreeSharesWrongFalsely : Prop := treeSharesRow.holds Try.pinned (OpenSpec.ofChange treeSharesWrong)

/-- 'sapwoodlaw10.TreeNil': WHATEVER THE INPUT: true; the input reads as it did. -/
def treeNilSpec : ChangeSpec := { name := "treeNil", fn := fun _ => fun
  | [d] => { results := [.lit (.bool true)], args := [d] }
  | _ => none }
def treeNilRow : OpenClaim := { program := "ytlkbdgfipdeloaa", sum := "dc1dc65927a86c13931a0fafdce69b95cb6ae6ac0a9a25a367b7cec5211680f8", func := "sapwood/sapwoodlaw10.TreeNil", spec := "treeNil", unfollowed := true, recurses := true, apart := false }
def TreeNilSaid : Prop := treeNilRow.holds Try.pinned (OpenSpec.ofChange treeNilSpec)

/-- ITS FALSE NEIGHBOUR: 'it returns false'. Refute it at one input. -/
def treeNilWrong : ChangeSpec := { name := "treeNil", fn := fun _ => fun
  | [d] => { results := [.lit (.bool false)], args := [d] }
  | _ => none }
def TreeNilWrongFalsely : Prop := treeNilRow.holds Try.pinned (OpenSpec.ofChange treeNilWrong)

/- THE SECOND FORM. 'bulk': how many values and letters a reading holds, each counted each time it is reached (what is shared counts as often as it is met; a slice's spare places count too). A statement '..UptoSaid' is the law's where the arguments, and the package variables that the reading takes, are together of bulk at most 1048576: NARROWER than '..Said'. Prove '..Said' where nothing that the law and all that it calls make is longer than what came in: it says more and counts as full. Else prove '..UptoSaid'. A law counts once. -/
mutual
def uptoBulk {H : Type} : DataW H → Nat
  | .lit (.string bytes) => bytes.length + 1
  | .lit _ => 1
  | .nil => 1
  | .ptr d => uptoBulk d + 1
  | .slice elems spare => uptoBulkAll elems + uptoBulkAll spare + 1
  | .agg parts => uptoBulkAll parts + 1
  | .iface _ d => uptoBulk d + 1
  | .map entries => uptoBulkEntries entries + 1
  | .held _ => 1
def uptoBulkAll {H : Type} : List (DataW H) → Nat
  | [] => 0
  | d :: r => uptoBulk d + uptoBulkAll r
def uptoBulkEntries {H : Type} : List (Lit × DataW H) → Nat
  | [] => 0
  | x :: r => uptoBulkEntry x + uptoBulkEntries r
def uptoBulkEntry {H : Type} : Lit × DataW H → Nat
  | (.string bytes, d) => bytes.length + uptoBulk d + 1
  | (_, d) => uptoBulk d + 1
 end
def uptoSmall : (H : Type) → List (DataW H) → Bool := fun _ ds => decide (uptoBulkAll ds ≤ 1048576)
def OpenSpec.upto (s : _root_.Go.ChangeSpec) : _root_.Go.OpenSpec := { _root_.Go.OpenSpec.ofChange s with cond := some uptoSmall }

/-- 'sapwoodlaw09.NodeKeeps', WHERE WHAT IT READS IS OF BULK AT MOST 1048576: true; the input reads as it did. -/
def nodeKeepsUptoRow : OpenClaim := { program := "ytlkbdgfipdeloaa", sum := "dc1dc65927a86c13931a0fafdce69b95cb6ae6ac0a9a25a367b7cec5211680f8", func := "sapwood/sapwoodlaw09.NodeKeeps", spec := "nodeKeeps", unfollowed := true, recurses := true, apart := false, narrowed := true }
def NodeKeepsUptoSaid : Prop := nodeKeepsUptoRow.holds Try.pinned (OpenSpec.upto nodeKeepsSpec)

/-- 'sapwoodlaw09.NodeOrder', WHERE WHAT IT READS IS OF BULK AT MOST 1048576: true; the input reads as it did. -/
def nodeOrderUptoRow : OpenClaim := { program := "ytlkbdgfipdeloaa", sum := "dc1dc65927a86c13931a0fafdce69b95cb6ae6ac0a9a25a367b7cec5211680f8", func := "sapwood/sapwoodlaw09.NodeOrder", spec := "nodeOrder", unfollowed := true, recurses := true, apart := false, narrowed := true }
def NodeOrderUptoSaid : Prop := nodeOrderUptoRow.holds Try.pinned (OpenSpec.upto nodeOrderSpec)

/-- 'sapwoodlaw09.NodeBuilds', WHERE WHAT IT READS IS OF BULK AT MOST 1048576: true; the input reads as it did. -/
def nodeBuildsUptoRow : OpenClaim := { program := "ytlkbdgfipdeloaa", sum := "dc1dc65927a86c13931a0fafdce69b95cb6ae6ac0a9a25a367b7cec5211680f8", func := "sapwood/sapwoodlaw09.NodeBuilds", spec := "nodeBuilds", unfollowed := true, recurses := true, apart := false, narrowed := true }
def NodeBuildsUptoSaid : Prop := nodeBuildsUptoRow.holds Try.pinned (OpenSpec.upto nodeBuildsSpec)

/-- 'sapwoodlaw09.NodeNil', WHERE WHAT IT READS IS OF BULK AT MOST 1048576: true; the input reads as it did. -/
def nodeNilUptoRow : OpenClaim := { program := "ytlkbdgfipdeloaa", sum := "dc1dc65927a86c13931a0fafdce69b95cb6ae6ac0a9a25a367b7cec5211680f8", func := "sapwood/sapwoodlaw09.NodeNil", spec := "nodeNil", unfollowed := true, recurses := true, apart := false, narrowed := true }
def NodeNilUptoSaid : Prop := nodeNilUptoRow.holds Try.pinned (OpenSpec.upto nodeNilSpec)

/-- 'sapwoodlaw10.TreePlays', WHERE WHAT IT READS IS OF BULK AT MOST 1048576: true; the input reads as it did. -/
def treePlaysUptoRow : OpenClaim := { program := "ytlkbdgfipdeloaa", sum := "dc1dc65927a86c13931a0fafdce69b95cb6ae6ac0a9a25a367b7cec5211680f8", func := "sapwood/sapwoodlaw10.TreePlays", spec := "treePlays", unfollowed := true, recurses := true, apart := false, narrowed := true }
def TreePlaysUptoSaid : Prop := treePlaysUptoRow.holds Try.pinned (OpenSpec.upto treePlaysSpec)

/-- 'sapwoodlaw10.TreeStays', WHERE WHAT IT READS IS OF BULK AT MOST 1048576: true; the input reads as it did. -/
def treeStaysUptoRow : OpenClaim := { program := "ytlkbdgfipdeloaa", sum := "dc1dc65927a86c13931a0fafdce69b95cb6ae6ac0a9a25a367b7cec5211680f8", func := "sapwood/sapwoodlaw10.TreeStays", spec := "treeStays", unfollowed := true, recurses := true, apart := false, narrowed := true }
def TreeStaysUptoSaid : Prop := treeStaysUptoRow.holds Try.pinned (OpenSpec.upto treeStaysSpec)

/-- 'sapwoodlaw10.TreePaths', WHERE WHAT IT READS IS OF BULK AT MOST 1048576: true; the input reads as it did. -/
def treePathsUptoRow : OpenClaim := { program := "ytlkbdgfipdeloaa", sum := "dc1dc65927a86c13931a0fafdce69b95cb6ae6ac0a9a25a367b7cec5211680f8", func := "sapwood/sapwoodlaw10.TreePaths", spec := "treePaths", unfollowed := true, recurses := true, apart := false, narrowed := true }
def TreePathsUptoSaid : Prop := treePathsUptoRow.holds Try.pinned (OpenSpec.upto treePathsSpec)

/-- 'sapwoodlaw10.TreeOrder', WHERE WHAT IT READS IS OF BULK AT MOST 1048576: true; the input reads as it did. -/
def treeOrderUptoRow : OpenClaim := { program := "ytlkbdgfipdeloaa", sum := "dc1dc65927a86c13931a0fafdce69b95cb6ae6ac0a9a25a367b7cec5211680f8", func := "sapwood/sapwoodlaw10.TreeOrder", spec := "treeOrder", unfollowed := true, recurses := true, apart := false, narrowed := true }
def TreeOrderUptoSaid : Prop := treeOrderUptoRow.holds Try.pinned (OpenSpec.upto treeOrderSpec)

/-- 'sapwoodlaw10.TreeBack', WHERE WHAT IT READS IS OF BULK AT MOST 1048576: true; the input reads as it did. -/
def treeBackUptoRow : OpenClaim := { program := "ytlkbdgfipdeloaa", sum := "dc1dc65927a86c13931a0fafdce69b95cb6ae6ac0a9a25a367b7cec5211680f8", func := "sapwood/sapwoodlaw10.TreeBack", spec := "treeBack", unfollowed := true, recurses := true, apart := false, narrowed := true }
def TreeBackUptoSaid : Prop := treeBackUptoRow.holds Try.pinned (OpenSpec.upto treeBackSpec)

/-- 'sapwoodlaw10.TreeCommutes', WHERE WHAT IT READS IS OF BULK AT MOST 1048576: true; the input reads as it did. -/
def treeCommutesUptoRow : OpenClaim := { program := "ytlkbdgfipdeloaa", sum := "dc1dc65927a86c13931a0fafdce69b95cb6ae6ac0a9a25a367b7cec5211680f8", func := "sapwood/sapwoodlaw10.TreeCommutes", spec := "treeCommutes", unfollowed := true, recurses := true, apart := false, narrowed := true }
def TreeCommutesUptoSaid : Prop := treeCommutesUptoRow.holds Try.pinned (OpenSpec.upto treeCommutesSpec)

/-- 'sapwoodlaw10.TreeShares', WHERE WHAT IT READS IS OF BULK AT MOST 1048576: true; the input reads as it did. -/
def treeSharesUptoRow : OpenClaim := { program := "ytlkbdgfipdeloaa", sum := "dc1dc65927a86c13931a0fafdce69b95cb6ae6ac0a9a25a367b7cec5211680f8", func := "sapwood/sapwoodlaw10.TreeShares", spec := "treeShares", unfollowed := true, recurses := true, apart := false, narrowed := true }
def TreeSharesUptoSaid : Prop := treeSharesUptoRow.holds Try.pinned (OpenSpec.upto treeSharesSpec)

/-- 'sapwoodlaw10.TreeNil', WHERE WHAT IT READS IS OF BULK AT MOST 1048576: true; the input reads as it did. -/
def treeNilUptoRow : OpenClaim := { program := "ytlkbdgfipdeloaa", sum := "dc1dc65927a86c13931a0fafdce69b95cb6ae6ac0a9a25a367b7cec5211680f8", func := "sapwood/sapwoodlaw10.TreeNil", spec := "treeNil", unfollowed := true, recurses := true, apart := false, narrowed := true }
def TreeNilUptoSaid : Prop := treeNilUptoRow.holds Try.pinned (OpenSpec.upto treeNilSpec)

end Rows
end Go.Proofs.Ytlkbdgfipdeloaa
