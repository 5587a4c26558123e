/-
  No cell of these rows narrows 'for every input' (looked for: loops, veiled, ifaces, maps, wideKeys, modest, calm, conditions, laid).
  DERIVED. THE GIVEN ROWS OF THIS SEAT. 7 by the template 'for every input the law returns true; each argument reads behind the call as it read before'; 0 by the template 'total and deterministic' (their statements: YtjppookmjdaplaaTotals.lean).
  GIVEN WITH THE SEED: the statements are not yours to turn. If you find one false, say at which input.
  Laid BY PROGRAM, IN A SANDBOX (cutbox-rows.mjs): the forced cells as the released guide's own fill.sh prints them over the translation 4cab550564693fde… (all of the seat's roots in one cut). By AI agents, Wed Nov 11 2026. No macro, syntax, notation, axiom, sorry.
-/
import Derived.Test.YtjppookmjdaplaaChecked
import GoSem.Claim
import GoSem.ClaimJoined
import GoSem.ClaimMapViews
import Derived.JoinedTies
import Derived.KernelRfl
namespace Go.Proofs.Ytjppookmjdaplaa
/- THE CELL 'sum', in the pinned program and in every row, IS THE sha256 OF THE DUMP (.gsa) THAT YtjppookmjdaplaaProg.lean LOADS. Nothing in Lean hashes anything: it is a label: what it is worth is what the hold of that sum in a sandbox is worth. -/
noncomputable def Try.pinned : Pinned := { name := "ytjppookmjdaplaa", sum := "4cab550564693fde4102c3bdcad4c063d57269cc51f220fee4d7759f70fe7487", checked := Try.checked }
namespace Rows
def none {H : Type} : Left H := { results := [], args := [] }

/-- 'stratumlaw15.CoordVotes': WHATEVER THE INPUT: true; the input reads as it did. -/
def coordVotesSpec : ChangeSpec := { name := "coordVotes", fn := fun _ => fun
  | [d1, d2] => { results := [.lit (.bool true)], args := [d1, d2] }
  | _ => none }
def coordVotesRow : OpenClaim := { program := "ytjppookmjdaplaa", sum := "4cab550564693fde4102c3bdcad4c063d57269cc51f220fee4d7759f70fe7487", func := "stratum/stratumlaw15.CoordVotes", spec := "coordVotes", unfollowed := true, recurses := true, apart := false }
def CoordVotesSaid : Prop := coordVotesRow.holds Try.pinned (OpenSpec.ofChange coordVotesSpec)

/-- ITS FALSE NEIGHBOUR: 'it returns false'. Refute it at one input. -/
def coordVotesWrong : ChangeSpec := { name := "coordVotes", fn := fun _ => fun
  | [d1, d2] => { results := [.lit (.bool false)], args := [d1, d2] }
  | _ => none }
def CoordVotesWrongFalsely : Prop := coordVotesRow.holds Try.pinned (OpenSpec.ofChange coordVotesWrong)

/-- 'stratumlaw15.CoordMaps': WHATEVER THE INPUT: true; the input reads as it did. -/
def coordMapsSpec : ChangeSpec := { name := "coordMaps", fn := fun _ => fun
  | [d1, d2] => { results := [.lit (.bool true)], args := [d1, d2] }
  | _ => none }
def coordMapsRow : OpenClaim := { program := "ytjppookmjdaplaa", sum := "4cab550564693fde4102c3bdcad4c063d57269cc51f220fee4d7759f70fe7487", func := "stratum/stratumlaw15.CoordMaps", spec := "coordMaps", unfollowed := true, recurses := true, apart := false }
def CoordMapsSaid : Prop := coordMapsRow.holds Try.pinned (OpenSpec.ofChange coordMapsSpec)

/-- ITS FALSE NEIGHBOUR: 'it returns false'. Refute it at one input. -/
def coordMapsWrong : ChangeSpec := { name := "coordMaps", fn := fun _ => fun
  | [d1, d2] => { results := [.lit (.bool false)], args := [d1, d2] }
  | _ => none }
def CoordMapsWrongFalsely : Prop := coordMapsRow.holds Try.pinned (OpenSpec.ofChange coordMapsWrong)

/-- 'stratumlaw15.CoordNumbers': WHATEVER THE INPUT: true; the input reads as it did. -/
def coordNumbersSpec : ChangeSpec := { name := "coordNumbers", fn := fun _ => fun
  | [d] => { results := [.lit (.bool true)], args := [d] }
  | _ => none }
def coordNumbersRow : OpenClaim := { program := "ytjppookmjdaplaa", sum := "4cab550564693fde4102c3bdcad4c063d57269cc51f220fee4d7759f70fe7487", func := "stratum/stratumlaw15.CoordNumbers", spec := "coordNumbers", unfollowed := true, recurses := true, apart := false }
def CoordNumbersSaid : Prop := coordNumbersRow.holds Try.pinned (OpenSpec.ofChange coordNumbersSpec)

/-- ITS FALSE NEIGHBOUR: 'it returns false'. Refute it at one input. -/
def coordNumbersWrong : ChangeSpec := { name := "coordNumbers", fn := fun _ => fun
  | [d] => { results := [.lit (.bool false)], args := [d] }
  | _ => none }
def CoordNumbersWrongFalsely : Prop := coordNumbersRow.holds Try.pinned (OpenSpec.ofChange coordNumbersWrong)

/-- 'stratumlaw12.SpansParts': WHATEVER THE INPUT: true; the input reads as it did. -/
def spansPartsSpec : ChangeSpec := { name := "spansParts", fn := fun _ => fun
  | [d1, d2, d3, d4, d5, d6] => { results := [.lit (.bool true)], args := [d1, d2, d3, d4, d5, d6] }
  | _ => none }
def spansPartsRow : OpenClaim := { program := "ytjppookmjdaplaa", sum := "4cab550564693fde4102c3bdcad4c063d57269cc51f220fee4d7759f70fe7487", func := "stratum/stratumlaw12.SpansParts", spec := "spansParts", unfollowed := true, recurses := true, apart := false }
def SpansPartsSaid : Prop := spansPartsRow.holds Try.pinned (OpenSpec.ofChange spansPartsSpec)

/-- ITS FALSE NEIGHBOUR: 'it returns false'. Refute it at one input. -/
def spansPartsWrong : ChangeSpec := { name := "spansParts", fn := fun _ => fun
  | [d1, d2, d3, d4, d5, d6] => { results := [.lit (.bool false)], args := [d1, d2, d3, d4, d5, d6] }
  | _ => none }
def SpansPartsWrongFalsely : Prop := spansPartsRow.holds Try.pinned (OpenSpec.ofChange spansPartsWrong)

/-- 'stratumlaw15.CoordOnce': WHATEVER THE INPUT: true; the input reads as it did. -/
def coordOnceSpec : ChangeSpec := { name := "coordOnce", fn := fun _ => fun
  | [d] => { results := [.lit (.bool true)], args := [d] }
  | _ => none }
def coordOnceRow : OpenClaim := { program := "ytjppookmjdaplaa", sum := "4cab550564693fde4102c3bdcad4c063d57269cc51f220fee4d7759f70fe7487", func := "stratum/stratumlaw15.CoordOnce", spec := "coordOnce", unfollowed := true, recurses := true, apart := false }
def CoordOnceSaid : Prop := coordOnceRow.holds Try.pinned (OpenSpec.ofChange coordOnceSpec)

/-- ITS FALSE NEIGHBOUR: 'it returns false'. Refute it at one input. -/
def coordOnceWrong : ChangeSpec := { name := "coordOnce", fn := fun _ => fun
  | [d] => { results := [.lit (.bool false)], args := [d] }
  | _ => none }
def CoordOnceWrongFalsely : Prop := coordOnceRow.holds Try.pinned (OpenSpec.ofChange coordOnceWrong)

/-- 'stratumlaw15.CoordEnds': WHATEVER THE INPUT: true; the input reads as it did. -/
def coordEndsSpec : ChangeSpec := { name := "coordEnds", fn := fun _ => fun
  | [d1, d2, d3] => { results := [.lit (.bool true)], args := [d1, d2, d3] }
  | _ => none }
def coordEndsRow : OpenClaim := { program := "ytjppookmjdaplaa", sum := "4cab550564693fde4102c3bdcad4c063d57269cc51f220fee4d7759f70fe7487", func := "stratum/stratumlaw15.CoordEnds", spec := "coordEnds", unfollowed := true, recurses := true, apart := false }
def CoordEndsSaid : Prop := coordEndsRow.holds Try.pinned (OpenSpec.ofChange coordEndsSpec)

/-- ITS FALSE NEIGHBOUR: 'it returns false'. Refute it at one input. -/
def coordEndsWrong : ChangeSpec := { name := "coordEnds", fn := fun _ => fun
  | [d1, d2, d3] => { results := [.lit (.bool false)], args := [d1, d2, d3] }
  | _ => none }
def CoordEndsWrongFalsely : Prop := coordEndsRow.holds Try.pinned (OpenSpec.ofChange coordEndsWrong)

/-- 'stratumlaw15.CoordDrops': WHATEVER THE INPUT: true; the input reads as it did. -/
def coordDropsSpec : ChangeSpec := { name := "coordDrops", fn := fun _ => fun
  | [d1, d2] => { results := [.lit (.bool true)], args := [d1, d2] }
  | _ => none }
def coordDropsRow : OpenClaim := { program := "ytjppookmjdaplaa", sum := "4cab550564693fde4102c3bdcad4c063d57269cc51f220fee4d7759f70fe7487", func := "stratum/stratumlaw15.CoordDrops", spec := "coordDrops", unfollowed := true, recurses := true, apart := false }
def CoordDropsSaid : Prop := coordDropsRow.holds Try.pinned (OpenSpec.ofChange coordDropsSpec)

/-- ITS FALSE NEIGHBOUR: 'it returns false'. Refute it at one input. -/
def coordDropsWrong : ChangeSpec := { name := "coordDrops", fn := fun _ => fun
  | [d1, d2] => { results := [.lit (.bool false)], args := [d1, d2] }
  | _ => none }
def CoordDropsWrongFalsely : Prop := coordDropsRow.holds Try.pinned (OpenSpec.ofChange coordDropsWrong)

/- THE SECOND FORM. 'bulk': how many values and letters a reading holds, each counted each time it is reached (what is shared counts as often as it is met; a slice's spare places count too). A statement '..UptoSaid' is the law's where the arguments, and the package variables that the reading takes, are together of bulk at most 1048576: NARROWER than '..Said'. Prove '..Said' where nothing that the law and all that it calls make is longer than what came in: it says more and counts as full. Else prove '..UptoSaid'. A law counts once. -/
mutual
def uptoBulk {H : Type} : DataW H → Nat
  | .lit (.string bytes) => bytes.length + 1
  | .lit _ => 1
  | .nil => 1
  | .ptr d => uptoBulk d + 1
  | .slice elems spare => uptoBulkAll elems + uptoBulkAll spare + 1
  | .agg parts => uptoBulkAll parts + 1
  | .iface _ d => uptoBulk d + 1
  | .map entries => uptoBulkEntries entries + 1
  | .held _ => 1
def uptoBulkAll {H : Type} : List (DataW H) → Nat
  | [] => 0
  | d :: r => uptoBulk d + uptoBulkAll r
def uptoBulkEntries {H : Type} : List (Lit × DataW H) → Nat
  | [] => 0
  | x :: r => uptoBulkEntry x + uptoBulkEntries r
def uptoBulkEntry {H : Type} : Lit × DataW H → Nat
  | (.string bytes, d) => bytes.length + uptoBulk d + 1
  | (_, d) => uptoBulk d + 1
 end
def uptoSmall : (H : Type) → List (DataW H) → Bool := fun _ ds => decide (uptoBulkAll ds ≤ 1048576)
def OpenSpec.upto (s : _root_.Go.ChangeSpec) : _root_.Go.OpenSpec := { _root_.Go.OpenSpec.ofChange s with cond := some uptoSmall }

/-- 'stratumlaw15.CoordVotes', WHERE WHAT IT READS IS OF BULK AT MOST 1048576: true; the input reads as it did. -/
def coordVotesUptoRow : OpenClaim := { program := "ytjppookmjdaplaa", sum := "4cab550564693fde4102c3bdcad4c063d57269cc51f220fee4d7759f70fe7487", func := "stratum/stratumlaw15.CoordVotes", spec := "coordVotes", unfollowed := true, recurses := true, apart := false, narrowed := true }
def CoordVotesUptoSaid : Prop := coordVotesUptoRow.holds Try.pinned (OpenSpec.upto coordVotesSpec)

/-- 'stratumlaw15.CoordMaps', WHERE WHAT IT READS IS OF BULK AT MOST 1048576: true; the input reads as it did. -/
def coordMapsUptoRow : OpenClaim := { program := "ytjppookmjdaplaa", sum := "4cab550564693fde4102c3bdcad4c063d57269cc51f220fee4d7759f70fe7487", func := "stratum/stratumlaw15.CoordMaps", spec := "coordMaps", unfollowed := true, recurses := true, apart := false, narrowed := true }
def CoordMapsUptoSaid : Prop := coordMapsUptoRow.holds Try.pinned (OpenSpec.upto coordMapsSpec)

/-- 'stratumlaw15.CoordNumbers', WHERE WHAT IT READS IS OF BULK AT MOST 1048576: true; the input reads as it did. -/
def coordNumbersUptoRow : OpenClaim := { program := "ytjppookmjdaplaa", sum := "4cab550564693fde4102c3bdcad4c063d57269cc51f220fee4d7759f70fe7487", func := "stratum/stratumlaw15.CoordNumbers", spec := "coordNumbers", unfollowed := true, recurses := true, apart := false, narrowed := true }
def CoordNumbersUptoSaid : Prop := coordNumbersUptoRow.holds Try.pinned (OpenSpec.upto coordNumbersSpec)

/-- 'stratumlaw12.SpansParts', WHERE WHAT IT READS IS OF BULK AT MOST 1048576: true; the input reads as it did. -/
def spansPartsUptoRow : OpenClaim := { program := "ytjppookmjdaplaa", sum := "4cab550564693fde4102c3bdcad4c063d57269cc51f220fee4d7759f70fe7487", func := "stratum/stratumlaw12.SpansParts", spec := "spansParts", unfollowed := true, recurses := true, apart := false, narrowed := true }
def SpansPartsUptoSaid : Prop := spansPartsUptoRow.holds Try.pinned (OpenSpec.upto spansPartsSpec)

/-- 'stratumlaw15.CoordOnce', WHERE WHAT IT READS IS OF BULK AT MOST 1048576: true; the input reads as it did. -/
def coordOnceUptoRow : OpenClaim := { program := "ytjppookmjdaplaa", sum := "4cab550564693fde4102c3bdcad4c063d57269cc51f220fee4d7759f70fe7487", func := "stratum/stratumlaw15.CoordOnce", spec := "coordOnce", unfollowed := true, recurses := true, apart := false, narrowed := true }
def CoordOnceUptoSaid : Prop := coordOnceUptoRow.holds Try.pinned (OpenSpec.upto coordOnceSpec)

/-- 'stratumlaw15.CoordEnds', WHERE WHAT IT READS IS OF BULK AT MOST 1048576: true; the input reads as it did. -/
def coordEndsUptoRow : OpenClaim := { program := "ytjppookmjdaplaa", sum := "4cab550564693fde4102c3bdcad4c063d57269cc51f220fee4d7759f70fe7487", func := "stratum/stratumlaw15.CoordEnds", spec := "coordEnds", unfollowed := true, recurses := true, apart := false, narrowed := true }
def CoordEndsUptoSaid : Prop := coordEndsUptoRow.holds Try.pinned (OpenSpec.upto coordEndsSpec)

/-- 'stratumlaw15.CoordDrops', WHERE WHAT IT READS IS OF BULK AT MOST 1048576: true; the input reads as it did. -/
def coordDropsUptoRow : OpenClaim := { program := "ytjppookmjdaplaa", sum := "4cab550564693fde4102c3bdcad4c063d57269cc51f220fee4d7759f70fe7487", func := "stratum/stratumlaw15.CoordDrops", spec := "coordDrops", unfollowed := true, recurses := true, apart := false, narrowed := true }
def CoordDropsUptoSaid : Prop := coordDropsUptoRow.holds Try.pinned (OpenSpec.upto coordDropsSpec)

end Rows
end Go.Proofs.Ytjppookmjdaplaa
