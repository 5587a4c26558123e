/-
  No cell of these rows narrows 'for every input' (looked for: loops, veiled, ifaces, maps, wideKeys, modest, calm, conditions, laid).
  DERIVED. THE GIVEN ROWS OF THIS SEAT. 14 by the template 'for every input the law returns true; each argument reads behind the call as it read before'; 0 by the template 'total and deterministic' (their statements: YtbpdejbkfpkphaaTotals.lean).
  GIVEN WITH THE SEED: the statements are not yours to turn. If you find one false, say at which input.
  Laid BY PROGRAM, IN A SANDBOX (cutbox-rows.mjs): the forced cells as the released guide's own fill.sh prints them over the translation 618ab7452e883d3b… (all of the seat's roots in one cut). By AI agents, Wed Nov 11 2026. No macro, syntax, notation, axiom, sorry.
-/
import Derived.Test.YtbpdejbkfpkphaaChecked
import GoSem.Claim
import GoSem.ClaimJoined
import GoSem.ClaimMapViews
import Derived.JoinedTies
import Derived.KernelRfl
namespace Go.Proofs.Ytbpdejbkfpkphaa
/- THE CELL 'sum', in the pinned program and in every row, IS THE sha256 OF THE DUMP (.gsa) THAT YtbpdejbkfpkphaaProg.lean LOADS. Nothing in Lean hashes anything: it is a label: what it is worth is what the hold of that sum in a sandbox is worth. -/
noncomputable def Try.pinned : Pinned := { name := "ytbpdejbkfpkphaa", sum := "618ab7452e883d3beaec73f8529df70f9dbb18543d9a5856d2f2c2e72bb6596f", checked := Try.checked }
namespace Rows
def none {H : Type} : Left H := { results := [], args := [] }

/-- 'stratumlaw15.CoordVotes': WHATEVER THE INPUT: true; the input reads as it did. -/
def coordVotesSpec : ChangeSpec := { name := "coordVotes", fn := fun _ => fun
  | [d1, d2] => { results := [.lit (.bool true)], args := [d1, d2] }
  | _ => none }
def coordVotesRow : OpenClaim := { program := "ytbpdejbkfpkphaa", sum := "618ab7452e883d3beaec73f8529df70f9dbb18543d9a5856d2f2c2e72bb6596f", func := "stratum/stratumlaw15.CoordVotes", spec := "coordVotes", unfollowed := true, recurses := true, apart := false }
def CoordVotesSaid : Prop := coordVotesRow.holds Try.pinned (OpenSpec.ofChange coordVotesSpec)

/-- ITS FALSE NEIGHBOUR: 'it returns false'. Refute it at one input. -/
def coordVotesWrong : ChangeSpec := { name := "coordVotes", fn := fun _ => fun
  | [d1, d2] => { results := [.lit (.bool false)], args := [d1, d2] }
  | _ => none }
def CoordVotesWrongFalsely : Prop := coordVotesRow.holds Try.pinned (OpenSpec.ofChange coordVotesWrong)

/-- 'stratumlaw15.CoordMaps': WHATEVER THE INPUT: true; the input reads as it did. -/
def coordMapsSpec : ChangeSpec := { name := "coordMaps", fn := fun _ => fun
  | [d1, d2] => { results := [.lit (.bool true)], args := [d1, d2] }
  | _ => none }
def coordMapsRow : OpenClaim := { program := "ytbpdejbkfpkphaa", sum := "618ab7452e883d3beaec73f8529df70f9dbb18543d9a5856d2f2c2e72bb6596f", func := "stratum/stratumlaw15.CoordMaps", spec := "coordMaps", unfollowed := true, recurses := true, apart := false }
def CoordMapsSaid : Prop := coordMapsRow.holds Try.pinned (OpenSpec.ofChange coordMapsSpec)

/-- ITS FALSE NEIGHBOUR: 'it returns false'. Refute it at one input. -/
def coordMapsWrong : ChangeSpec := { name := "coordMaps", fn := fun _ => fun
  | [d1, d2] => { results := [.lit (.bool false)], args := [d1, d2] }
  | _ => none }
def CoordMapsWrongFalsely : Prop := coordMapsRow.holds Try.pinned (OpenSpec.ofChange coordMapsWrong)

/-- 'stratumlaw15.CoordNumbers': WHATEVER THE INPUT: true; the input reads as it did. -/
def coordNumbersSpec : ChangeSpec := { name := "coordNumbers", fn := fun _ => fun
  | [d] => { results := [.lit (.bool true)], args := [d] }
  | _ => none }
def coordNumbersRow : OpenClaim := { program := "ytbpdejbkfpkphaa", sum := "618ab7452e883d3beaec73f8529df70f9dbb18543d9a5856d2f2c2e72bb6596f", func := "stratum/stratumlaw15.CoordNumbers", spec := "coordNumbers", unfollowed := true, recurses := true, apart := false }
def CoordNumbersSaid : Prop := coordNumbersRow.holds Try.pinned (OpenSpec.ofChange coordNumbersSpec)

/-- ITS FALSE NEIGHBOUR: 'it returns false'. Refute it at one input. -/
def coordNumbersWrong : ChangeSpec := { name := "coordNumbers", fn := fun _ => fun
  | [d] => { results := [.lit (.bool false)], args := [d] }
  | _ => none }
def CoordNumbersWrongFalsely : Prop := coordNumbersRow.holds Try.pinned (OpenSpec.ofChange coordNumbersWrong)

/-- 'stratumlaw12.SpansBack': WHATEVER THE INPUT: true; the input reads as it did. -/
def spansBackSpec : ChangeSpec := { name := "spansBack", fn := fun _ => fun
  | [d1, d2, d3] => { results := [.lit (.bool true)], args := [d1, d2, d3] }
  | _ => none }
def spansBackRow : OpenClaim := { program := "ytbpdejbkfpkphaa", sum := "618ab7452e883d3beaec73f8529df70f9dbb18543d9a5856d2f2c2e72bb6596f", func := "stratum/stratumlaw12.SpansBack", spec := "spansBack", unfollowed := true, recurses := true, apart := false }
def SpansBackSaid : Prop := spansBackRow.holds Try.pinned (OpenSpec.ofChange spansBackSpec)

/-- ITS FALSE NEIGHBOUR: 'it returns false'. Refute it at one input. -/
def spansBackWrong : ChangeSpec := { name := "spansBack", fn := fun _ => fun
  | [d1, d2, d3] => { results := [.lit (.bool false)], args := [d1, d2, d3] }
  | _ => none }
def SpansBackWrongFalsely : Prop := spansBackRow.holds Try.pinned (OpenSpec.ofChange spansBackWrong)

/-- 'stratumlaw12.SpansNodes': WHATEVER THE INPUT: true; the input reads as it did. -/
def spansNodesSpec : ChangeSpec := { name := "spansNodes", fn := fun _ => fun
  | [d1, d2, d3] => { results := [.lit (.bool true)], args := [d1, d2, d3] }
  | _ => none }
def spansNodesRow : OpenClaim := { program := "ytbpdejbkfpkphaa", sum := "618ab7452e883d3beaec73f8529df70f9dbb18543d9a5856d2f2c2e72bb6596f", func := "stratum/stratumlaw12.SpansNodes", spec := "spansNodes", unfollowed := true, recurses := true, apart := false }
def SpansNodesSaid : Prop := spansNodesRow.holds Try.pinned (OpenSpec.ofChange spansNodesSpec)

/-- ITS FALSE NEIGHBOUR: 'it returns false'. Refute it at one input. -/
def spansNodesWrong : ChangeSpec := { name := "spansNodes", fn := fun _ => fun
  | [d1, d2, d3] => { results := [.lit (.bool false)], args := [d1, d2, d3] }
  | _ => none }
def SpansNodesWrongFalsely : Prop := spansNodesRow.holds Try.pinned (OpenSpec.ofChange spansNodesWrong)

/-- 'stratumlaw12.SpansSound': WHATEVER THE INPUT: true; the input reads as it did. -/
def spansSoundSpec : ChangeSpec := { name := "spansSound", fn := fun _ => fun
  | [d1, d2, d3, d4, d5] => { results := [.lit (.bool true)], args := [d1, d2, d3, d4, d5] }
  | _ => none }
def spansSoundRow : OpenClaim := { program := "ytbpdejbkfpkphaa", sum := "618ab7452e883d3beaec73f8529df70f9dbb18543d9a5856d2f2c2e72bb6596f", func := "stratum/stratumlaw12.SpansSound", spec := "spansSound", unfollowed := true, recurses := true, apart := false }
def SpansSoundSaid : Prop := spansSoundRow.holds Try.pinned (OpenSpec.ofChange spansSoundSpec)

/-- ITS FALSE NEIGHBOUR: 'it returns false'. Refute it at one input. -/
def spansSoundWrong : ChangeSpec := { name := "spansSound", fn := fun _ => fun
  | [d1, d2, d3, d4, d5] => { results := [.lit (.bool false)], args := [d1, d2, d3, d4, d5] }
  | _ => none }
def SpansSoundWrongFalsely : Prop := spansSoundRow.holds Try.pinned (OpenSpec.ofChange spansSoundWrong)

/-- 'stratumlaw12.SpansParts': WHATEVER THE INPUT: true; the input reads as it did. -/
def spansPartsSpec : ChangeSpec := { name := "spansParts", fn := fun _ => fun
  | [d1, d2, d3, d4, d5, d6] => { results := [.lit (.bool true)], args := [d1, d2, d3, d4, d5, d6] }
  | _ => none }
def spansPartsRow : OpenClaim := { program := "ytbpdejbkfpkphaa", sum := "618ab7452e883d3beaec73f8529df70f9dbb18543d9a5856d2f2c2e72bb6596f", func := "stratum/stratumlaw12.SpansParts", spec := "spansParts", unfollowed := true, recurses := true, apart := false }
def SpansPartsSaid : Prop := spansPartsRow.holds Try.pinned (OpenSpec.ofChange spansPartsSpec)

/-- ITS FALSE NEIGHBOUR: 'it returns false'. Refute it at one input. -/
def spansPartsWrong : ChangeSpec := { name := "spansParts", fn := fun _ => fun
  | [d1, d2, d3, d4, d5, d6] => { results := [.lit (.bool false)], args := [d1, d2, d3, d4, d5, d6] }
  | _ => none }
def SpansPartsWrongFalsely : Prop := spansPartsRow.holds Try.pinned (OpenSpec.ofChange spansPartsWrong)

/-- 'stratumlaw12.SpansSplits': WHATEVER THE INPUT: true; the input reads as it did. -/
def spansSplitsSpec : ChangeSpec := { name := "spansSplits", fn := fun _ => fun
  | [d1, d2, d3, d4, d5, d6, d7] => { results := [.lit (.bool true)], args := [d1, d2, d3, d4, d5, d6, d7] }
  | _ => none }
def spansSplitsRow : OpenClaim := { program := "ytbpdejbkfpkphaa", sum := "618ab7452e883d3beaec73f8529df70f9dbb18543d9a5856d2f2c2e72bb6596f", func := "stratum/stratumlaw12.SpansSplits", spec := "spansSplits", unfollowed := true, recurses := true, apart := false }
def SpansSplitsSaid : Prop := spansSplitsRow.holds Try.pinned (OpenSpec.ofChange spansSplitsSpec)

/-- ITS FALSE NEIGHBOUR: 'it returns false'. Refute it at one input. -/
def spansSplitsWrong : ChangeSpec := { name := "spansSplits", fn := fun _ => fun
  | [d1, d2, d3, d4, d5, d6, d7] => { results := [.lit (.bool false)], args := [d1, d2, d3, d4, d5, d6, d7] }
  | _ => none }
def SpansSplitsWrongFalsely : Prop := spansSplitsRow.holds Try.pinned (OpenSpec.ofChange spansSplitsWrong)

/-- 'stratumlaw12.SpansMoves': WHATEVER THE INPUT: true; the input reads as it did. -/
def spansMovesSpec : ChangeSpec := { name := "spansMoves", fn := fun _ => fun
  | [d1, d2, d3, d4] => { results := [.lit (.bool true)], args := [d1, d2, d3, d4] }
  | _ => none }
def spansMovesRow : OpenClaim := { program := "ytbpdejbkfpkphaa", sum := "618ab7452e883d3beaec73f8529df70f9dbb18543d9a5856d2f2c2e72bb6596f", func := "stratum/stratumlaw12.SpansMoves", spec := "spansMoves", unfollowed := true, recurses := true, apart := false }
def SpansMovesSaid : Prop := spansMovesRow.holds Try.pinned (OpenSpec.ofChange spansMovesSpec)

/-- ITS FALSE NEIGHBOUR: 'it returns false'. Refute it at one input. -/
def spansMovesWrong : ChangeSpec := { name := "spansMoves", fn := fun _ => fun
  | [d1, d2, d3, d4] => { results := [.lit (.bool false)], args := [d1, d2, d3, d4] }
  | _ => none }
def SpansMovesWrongFalsely : Prop := spansMovesRow.holds Try.pinned (OpenSpec.ofChange spansMovesWrong)

/-- 'stratumlaw12.SpansWhole': WHATEVER THE INPUT: true; the input reads as it did. -/
def spansWholeSpec : ChangeSpec := { name := "spansWhole", fn := fun _ => fun
  | [d1, d2] => { results := [.lit (.bool true)], args := [d1, d2] }
  | _ => none }
def spansWholeRow : OpenClaim := { program := "ytbpdejbkfpkphaa", sum := "618ab7452e883d3beaec73f8529df70f9dbb18543d9a5856d2f2c2e72bb6596f", func := "stratum/stratumlaw12.SpansWhole", spec := "spansWhole", unfollowed := true, recurses := true, apart := false }
def SpansWholeSaid : Prop := spansWholeRow.holds Try.pinned (OpenSpec.ofChange spansWholeSpec)

/-- ITS FALSE NEIGHBOUR: 'it returns false'. Refute it at one input. -/
def spansWholeWrong : ChangeSpec := { name := "spansWhole", fn := fun _ => fun
  | [d1, d2] => { results := [.lit (.bool false)], args := [d1, d2] }
  | _ => none }
def SpansWholeWrongFalsely : Prop := spansWholeRow.holds Try.pinned (OpenSpec.ofChange spansWholeWrong)

/-- 'stratumlaw12.SpansNew': WHATEVER THE INPUT: true; the input reads as it did. -/
def spansNewSpec : ChangeSpec := { name := "spansNew", fn := fun _ => fun
  | [d1, d2] => { results := [.lit (.bool true)], args := [d1, d2] }
  | _ => none }
def spansNewRow : OpenClaim := { program := "ytbpdejbkfpkphaa", sum := "618ab7452e883d3beaec73f8529df70f9dbb18543d9a5856d2f2c2e72bb6596f", func := "stratum/stratumlaw12.SpansNew", spec := "spansNew", unfollowed := true, recurses := true, apart := false }
def SpansNewSaid : Prop := spansNewRow.holds Try.pinned (OpenSpec.ofChange spansNewSpec)

/-- ITS FALSE NEIGHBOUR: 'it returns false'. Refute it at one input. -/
def spansNewWrong : ChangeSpec := { name := "spansNew", fn := fun _ => fun
  | [d1, d2] => { results := [.lit (.bool false)], args := [d1, d2] }
  | _ => none }
def SpansNewWrongFalsely : Prop := spansNewRow.holds Try.pinned (OpenSpec.ofChange spansNewWrong)

/-- 'stratumlaw15.CoordOnce': WHATEVER THE INPUT: true; the input reads as it did. -/
def coordOnceSpec : ChangeSpec := { name := "coordOnce", fn := fun _ => fun
  | [d] => { results := [.lit (.bool true)], args := [d] }
  | _ => none }
def coordOnceRow : OpenClaim := { program := "ytbpdejbkfpkphaa", sum := "618ab7452e883d3beaec73f8529df70f9dbb18543d9a5856d2f2c2e72bb6596f", func := "stratum/stratumlaw15.CoordOnce", spec := "coordOnce", unfollowed := true, recurses := true, apart := false }
def CoordOnceSaid : Prop := coordOnceRow.holds Try.pinned (OpenSpec.ofChange coordOnceSpec)

/-- ITS FALSE NEIGHBOUR: 'it returns false'. Refute it at one input. -/
def coordOnceWrong : ChangeSpec := { name := "coordOnce", fn := fun _ => fun
  | [d] => { results := [.lit (.bool false)], args := [d] }
  | _ => none }
def CoordOnceWrongFalsely : Prop := coordOnceRow.holds Try.pinned (OpenSpec.ofChange coordOnceWrong)

/-- 'stratumlaw15.CoordEnds': WHATEVER THE INPUT: true; the input reads as it did. -/
def coordEndsSpec : ChangeSpec := { name := "coordEnds", fn := fun _ => fun
  | [d1, d2, d3] => { results := [.lit (.bool true)], args := [d1, d2, d3] }
  | _ => none }
def coordEndsRow : OpenClaim := { program := "ytbpdejbkfpkphaa", sum := "618ab7452e883d3beaec73f8529df70f9dbb18543d9a5856d2f2c2e72bb6596f", func := "stratum/stratumlaw15.CoordEnds", spec := "coordEnds", unfollowed := true, recurses := true, apart := false }
def CoordEndsSaid : Prop := coordEndsRow.holds Try.pinned (OpenSpec.ofChange coordEndsSpec)

/-- ITS FALSE NEIGHBOUR: 'it returns false'. Refute it at one input. -/
def coordEndsWrong : ChangeSpec := { name := "coordEnds", fn := fun _ => fun
  | [d1, d2, d3] => { results := [.lit (.bool false)], args := [d1, d2, d3] }
  | _ => none }
def CoordEndsWrongFalsely : Prop := coordEndsRow.holds Try.pinned (OpenSpec.ofChange coordEndsWrong)

/-- 'stratumlaw15.CoordDrops': WHATEVER THE INPUT: true; the input reads as it did. -/
def coordDropsSpec : ChangeSpec := { name := "coordDrops", fn := fun _ => fun
  | [d1, d2] => { results := [.lit (.bool true)], args := [d1, d2] }
  | _ => none }
def coordDropsRow : OpenClaim := { program := "ytbpdejbkfpkphaa", sum := "618ab7452e883d3beaec73f8529df70f9dbb18543d9a5856d2f2c2e72bb6596f", func := "stratum/stratumlaw15.CoordDrops", spec := "coordDrops", unfollowed := true, recurses := true, apart := false }
def CoordDropsSaid : Prop := coordDropsRow.holds Try.pinned (OpenSpec.ofChange coordDropsSpec)

/-- ITS FALSE NEIGHBOUR: 'it returns false'. Refute it at one input. -/
def coordDropsWrong : ChangeSpec := { name := "coordDrops", fn := fun _ => fun
  | [d1, d2] => { results := [.lit (.bool false)], args := [d1, d2] }
  | _ => none }
def CoordDropsWrongFalsely : Prop := coordDropsRow.holds Try.pinned (OpenSpec.ofChange coordDropsWrong)

/- THE SECOND FORM. 'bulk': how many values and letters a reading holds, each counted each time it is reached (what is shared counts as often as it is met; a slice's spare places count too). A statement '..UptoSaid' is the law's where the arguments, and the package variables that the reading takes, are together of bulk at most 1048576: NARROWER than '..Said'. Prove '..Said' where nothing that the law and all that it calls make is longer than what came in: it says more and counts as full. Else prove '..UptoSaid'. A law counts once. -/
mutual
def uptoBulk {H : Type} : DataW H → Nat
  | .lit (.string bytes) => bytes.length + 1
  | .lit _ => 1
  | .nil => 1
  | .ptr d => uptoBulk d + 1
  | .slice elems spare => uptoBulkAll elems + uptoBulkAll spare + 1
  | .agg parts => uptoBulkAll parts + 1
  | .iface _ d => uptoBulk d + 1
  | .map entries => uptoBulkEntries entries + 1
  | .held _ => 1
def uptoBulkAll {H : Type} : List (DataW H) → Nat
  | [] => 0
  | d :: r => uptoBulk d + uptoBulkAll r
def uptoBulkEntries {H : Type} : List (Lit × DataW H) → Nat
  | [] => 0
  | x :: r => uptoBulkEntry x + uptoBulkEntries r
def uptoBulkEntry {H : Type} : Lit × DataW H → Nat
  | (.string bytes, d) => bytes.length + uptoBulk d + 1
  | (_, d) => uptoBulk d + 1
 end
def uptoSmall : (H : Type) → List (DataW H) → Bool := fun _ ds => decide (uptoBulkAll ds ≤ 1048576)
def OpenSpec.upto (s : _root_.Go.ChangeSpec) : _root_.Go.OpenSpec := { _root_.Go.OpenSpec.ofChange s with cond := some uptoSmall }

/-- 'stratumlaw15.CoordVotes', WHERE WHAT IT READS IS OF BULK AT MOST 1048576: true; the input reads as it did. -/
def coordVotesUptoRow : OpenClaim := { program := "ytbpdejbkfpkphaa", sum := "618ab7452e883d3beaec73f8529df70f9dbb18543d9a5856d2f2c2e72bb6596f", func := "stratum/stratumlaw15.CoordVotes", spec := "coordVotes", unfollowed := true, recurses := true, apart := false, narrowed := true }
def CoordVotesUptoSaid : Prop := coordVotesUptoRow.holds Try.pinned (OpenSpec.upto coordVotesSpec)

/-- 'stratumlaw15.CoordMaps', WHERE WHAT IT READS IS OF BULK AT MOST 1048576: true; the input reads as it did. -/
def coordMapsUptoRow : OpenClaim := { program := "ytbpdejbkfpkphaa", sum := "618ab7452e883d3beaec73f8529df70f9dbb18543d9a5856d2f2c2e72bb6596f", func := "stratum/stratumlaw15.CoordMaps", spec := "coordMaps", unfollowed := true, recurses := true, apart := false, narrowed := true }
def CoordMapsUptoSaid : Prop := coordMapsUptoRow.holds Try.pinned (OpenSpec.upto coordMapsSpec)

/-- 'stratumlaw15.CoordNumbers', WHERE WHAT IT READS IS OF BULK AT MOST 1048576: true; the input reads as it did. -/
def coordNumbersUptoRow : OpenClaim := { program := "ytbpdejbkfpkphaa", sum := "618ab7452e883d3beaec73f8529df70f9dbb18543d9a5856d2f2c2e72bb6596f", func := "stratum/stratumlaw15.CoordNumbers", spec := "coordNumbers", unfollowed := true, recurses := true, apart := false, narrowed := true }
def CoordNumbersUptoSaid : Prop := coordNumbersUptoRow.holds Try.pinned (OpenSpec.upto coordNumbersSpec)

/-- 'stratumlaw12.SpansBack', WHERE WHAT IT READS IS OF BULK AT MOST 1048576: true; the input reads as it did. -/
def spansBackUptoRow : OpenClaim := { program := "ytbpdejbkfpkphaa", sum := "618ab7452e883d3beaec73f8529df70f9dbb18543d9a5856d2f2c2e72bb6596f", func := "stratum/stratumlaw12.SpansBack", spec := "spansBack", unfollowed := true, recurses := true, apart := false, narrowed := true }
def SpansBackUptoSaid : Prop := spansBackUptoRow.holds Try.pinned (OpenSpec.upto spansBackSpec)

/-- 'stratumlaw12.SpansNodes', WHERE WHAT IT READS IS OF BULK AT MOST 1048576: true; the input reads as it did. -/
def spansNodesUptoRow : OpenClaim := { program := "ytbpdejbkfpkphaa", sum := "618ab7452e883d3beaec73f8529df70f9dbb18543d9a5856d2f2c2e72bb6596f", func := "stratum/stratumlaw12.SpansNodes", spec := "spansNodes", unfollowed := true, recurses := true, apart := false, narrowed := true }
def SpansNodesUptoSaid : Prop := spansNodesUptoRow.holds Try.pinned (OpenSpec.upto spansNodesSpec)

/-- 'stratumlaw12.SpansSound', WHERE WHAT IT READS IS OF BULK AT MOST 1048576: true; the input reads as it did. -/
def spansSoundUptoRow : OpenClaim := { program := "ytbpdejbkfpkphaa", sum := "618ab7452e883d3beaec73f8529df70f9dbb18543d9a5856d2f2c2e72bb6596f", func := "stratum/stratumlaw12.SpansSound", spec := "spansSound", unfollowed := true, recurses := true, apart := false, narrowed := true }
def SpansSoundUptoSaid : Prop := spansSoundUptoRow.holds Try.pinned (OpenSpec.upto spansSoundSpec)

/-- 'stratumlaw12.SpansParts', WHERE WHAT IT READS IS OF BULK AT MOST 1048576: true; the input reads as it did. -/
def spansPartsUptoRow : OpenClaim := { program := "ytbpdejbkfpkphaa", sum := "618ab7452e883d3beaec73f8529df70f9dbb18543d9a5856d2f2c2e72bb6596f", func := "stratum/stratumlaw12.SpansParts", spec := "spansParts", unfollowed := true, recurses := true, apart := false, narrowed := true }
def SpansPartsUptoSaid : Prop := spansPartsUptoRow.holds Try.pinned (OpenSpec.upto spansPartsSpec)

/-- 'stratumlaw12.SpansSplits', WHERE WHAT IT READS IS OF BULK AT MOST 1048576: true; the input reads as it did. -/
def spansSplitsUptoRow : OpenClaim := { program := "ytbpdejbkfpkphaa", sum := "618ab7452e883d3beaec73f8529df70f9dbb18543d9a5856d2f2c2e72bb6596f", func := "stratum/stratumlaw12.SpansSplits", spec := "spansSplits", unfollowed := true, recurses := true, apart := false, narrowed := true }
def SpansSplitsUptoSaid : Prop := spansSplitsUptoRow.holds Try.pinned (OpenSpec.upto spansSplitsSpec)

/-- 'stratumlaw12.SpansMoves', WHERE WHAT IT READS IS OF BULK AT MOST 1048576: true; the input reads as it did. -/
def spansMovesUptoRow : OpenClaim := { program := "ytbpdejbkfpkphaa", sum := "618ab7452e883d3beaec73f8529df70f9dbb18543d9a5856d2f2c2e72bb6596f", func := "stratum/stratumlaw12.SpansMoves", spec := "spansMoves", unfollowed := true, recurses := true, apart := false, narrowed := true }
def SpansMovesUptoSaid : Prop := spansMovesUptoRow.holds Try.pinned (OpenSpec.upto spansMovesSpec)

/-- 'stratumlaw12.SpansWhole', WHERE WHAT IT READS IS OF BULK AT MOST 1048576: true; the input reads as it did. -/
def spansWholeUptoRow : OpenClaim := { program := "ytbpdejbkfpkphaa", sum := "618ab7452e883d3beaec73f8529df70f9dbb18543d9a5856d2f2c2e72bb6596f", func := "stratum/stratumlaw12.SpansWhole", spec := "spansWhole", unfollowed := true, recurses := true, apart := false, narrowed := true }
def SpansWholeUptoSaid : Prop := spansWholeUptoRow.holds Try.pinned (OpenSpec.upto spansWholeSpec)

/-- 'stratumlaw12.SpansNew', WHERE WHAT IT READS IS OF BULK AT MOST 1048576: true; the input reads as it did. -/
def spansNewUptoRow : OpenClaim := { program := "ytbpdejbkfpkphaa", sum := "618ab7452e883d3beaec73f8529df70f9dbb18543d9a5856d2f2c2e72bb6596f", func := "stratum/stratumlaw12.SpansNew", spec := "spansNew", unfollowed := true, recurses := true, apart := false, narrowed := true }
def SpansNewUptoSaid : Prop := spansNewUptoRow.holds Try.pinned (OpenSpec.upto spansNewSpec)

/-- 'stratumlaw15.CoordOnce', WHERE WHAT IT READS IS OF BULK AT MOST 1048576: true; the input reads as it did. -/
def coordOnceUptoRow : OpenClaim := { program := "ytbpdejbkfpkphaa", sum := "618ab7452e883d3beaec73f8529df70f9dbb18543d9a5856d2f2c2e72bb6596f", func := "stratum/stratumlaw15.CoordOnce", spec := "coordOnce", unfollowed := true, recurses := true, apart := false, narrowed := true }
def CoordOnceUptoSaid : Prop := coordOnceUptoRow.holds Try.pinned (OpenSpec.upto coordOnceSpec)

/-- 'stratumlaw15.CoordEnds', WHERE WHAT IT READS IS OF BULK AT MOST 1048576: true; the input reads as it did. -/
def coordEndsUptoRow : OpenClaim := { program := "ytbpdejbkfpkphaa", sum := "618ab7452e883d3beaec73f8529df70f9dbb18543d9a5856d2f2c2e72bb6596f", func := "stratum/stratumlaw15.CoordEnds", spec := "coordEnds", unfollowed := true, recurses := true, apart := false, narrowed := true }
def CoordEndsUptoSaid : Prop := coordEndsUptoRow.holds Try.pinned (OpenSpec.upto coordEndsSpec)

/-- 'stratumlaw15.CoordDrops', WHERE WHAT IT READS IS OF BULK AT MOST 1048576: true; the input reads as it did. -/
def coordDropsUptoRow : OpenClaim := { program := "ytbpdejbkfpkphaa", sum := "618ab7452e883d3beaec73f8529df70f9dbb18543d9a5856d2f2c2e72bb6596f", func := "stratum/stratumlaw15.CoordDrops", spec := "coordDrops", unfollowed := true, recurses := true, apart := false, narrowed := true }
def CoordDropsUptoSaid : Prop := coordDropsUptoRow.holds Try.pinned (OpenSpec.upto coordDropsSpec)

end Rows
end Go.Proofs.Ytbpdejbkfpkphaa
