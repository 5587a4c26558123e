/-
  No cell of these rows narrows 'for every input' (looked for: loops, veiled, ifaces, maps, wideKeys, modest, calm, conditions, laid).
  DERIVED. THE GIVEN ROWS OF THIS SEAT. 12 by the template 'for every input the law returns true; each argument reads behind the call as it read before'; 0 by the template 'total and deterministic' (their statements: YtbbhjceelghadaaTotals.lean).
  GIVEN WITH THE SEED: the statements are not yours to turn. If you find one false, say at which input.
  Laid BY PROGRAM, IN A SANDBOX (cutbox-rows.mjs): the forced cells as the released guide's own fill.sh prints them over the translation 8a4f87af36b6c961… (all of the seat's roots in one cut). By AI agents, Wed Nov 11 2026. No macro, syntax, notation, axiom, sorry.
-/
import Derived.Test.YtbbhjceelghadaaChecked
import GoSem.Claim
import GoSem.ClaimJoined
import GoSem.ClaimMapViews
import Derived.JoinedTies
import Derived.KernelRfl
namespace Go.Proofs.Ytbbhjceelghadaa
/- THE CELL 'sum', in the pinned program and in every row, IS THE sha256 OF THE DUMP (.gsa) THAT YtbbhjceelghadaaProg.lean LOADS. Nothing in Lean hashes anything: it is a label: what it is worth is what the hold of that sum in a sandbox is worth. -/
noncomputable def Try.pinned : Pinned := { name := "ytbbhjceelghadaa", sum := "8a4f87af36b6c961c14854f4291463a796f9ec982212696b8d68af29be22063c", checked := Try.checked }
namespace Rows
def none {H : Type} : Left H := { results := [], args := [] }

/-- 'stratumlaw08.SumLong': WHATEVER THE INPUT: true; the input reads as it did. -/
def sumLongSpec : ChangeSpec := { name := "sumLong", fn := fun _ => fun
  | [d1, d2, d3] => { results := [.lit (.bool true)], args := [d1, d2, d3] }
  | _ => none }
def sumLongRow : OpenClaim := { program := "ytbbhjceelghadaa", sum := "8a4f87af36b6c961c14854f4291463a796f9ec982212696b8d68af29be22063c", func := "stratum/stratumlaw08.SumLong", spec := "sumLong", unfollowed := true, recurses := true, apart := false }
def SumLongSaid : Prop := sumLongRow.holds Try.pinned (OpenSpec.ofChange sumLongSpec)

/-- ITS FALSE NEIGHBOUR: 'it returns false'. Refute it at one input. -/
def sumLongWrong : ChangeSpec := { name := "sumLong", fn := fun _ => fun
  | [d1, d2, d3] => { results := [.lit (.bool false)], args := [d1, d2, d3] }
  | _ => none }
def SumLongWrongFalsely : Prop := sumLongRow.holds Try.pinned (OpenSpec.ofChange sumLongWrong)

/-- 'stratumlaw08.SumStays': WHATEVER THE INPUT: true; the input reads as it did. -/
def sumStaysSpec : ChangeSpec := { name := "sumStays", fn := fun _ => fun
  | [d] => { results := [.lit (.bool true)], args := [d] }
  | _ => none }
def sumStaysRow : OpenClaim := { program := "ytbbhjceelghadaa", sum := "8a4f87af36b6c961c14854f4291463a796f9ec982212696b8d68af29be22063c", func := "stratum/stratumlaw08.SumStays", spec := "sumStays", unfollowed := true, recurses := true, apart := false }
def SumStaysSaid : Prop := sumStaysRow.holds Try.pinned (OpenSpec.ofChange sumStaysSpec)

/-- ITS FALSE NEIGHBOUR: 'it returns false'. Refute it at one input. -/
def sumStaysWrong : ChangeSpec := { name := "sumStays", fn := fun _ => fun
  | [d] => { results := [.lit (.bool false)], args := [d] }
  | _ => none }
def SumStaysWrongFalsely : Prop := sumStaysRow.holds Try.pinned (OpenSpec.ofChange sumStaysWrong)

/-- 'stratumlaw08.SumSums': WHATEVER THE INPUT: true; the input reads as it did. -/
def sumSumsSpec : ChangeSpec := { name := "sumSums", fn := fun _ => fun
  | [d1, d2] => { results := [.lit (.bool true)], args := [d1, d2] }
  | _ => none }
def sumSumsRow : OpenClaim := { program := "ytbbhjceelghadaa", sum := "8a4f87af36b6c961c14854f4291463a796f9ec982212696b8d68af29be22063c", func := "stratum/stratumlaw08.SumSums", spec := "sumSums", unfollowed := true, recurses := true, apart := false }
def SumSumsSaid : Prop := sumSumsRow.holds Try.pinned (OpenSpec.ofChange sumSumsSpec)

/-- ITS FALSE NEIGHBOUR: 'it returns false'. Refute it at one input. -/
def sumSumsWrong : ChangeSpec := { name := "sumSums", fn := fun _ => fun
  | [d1, d2] => { results := [.lit (.bool false)], args := [d1, d2] }
  | _ => none }
def SumSumsWrongFalsely : Prop := sumSumsRow.holds Try.pinned (OpenSpec.ofChange sumSumsWrong)

/-- 'stratumlaw08.SumParts': WHATEVER THE INPUT: true; the input reads as it did. -/
def sumPartsSpec : ChangeSpec := { name := "sumParts", fn := fun _ => fun
  | [d1, d2, d3] => { results := [.lit (.bool true)], args := [d1, d2, d3] }
  | _ => none }
def sumPartsRow : OpenClaim := { program := "ytbbhjceelghadaa", sum := "8a4f87af36b6c961c14854f4291463a796f9ec982212696b8d68af29be22063c", func := "stratum/stratumlaw08.SumParts", spec := "sumParts", unfollowed := true, recurses := true, apart := false }
def SumPartsSaid : Prop := sumPartsRow.holds Try.pinned (OpenSpec.ofChange sumPartsSpec)

/-- ITS FALSE NEIGHBOUR: 'it returns false'. Refute it at one input. -/
def sumPartsWrong : ChangeSpec := { name := "sumParts", fn := fun _ => fun
  | [d1, d2, d3] => { results := [.lit (.bool false)], args := [d1, d2, d3] }
  | _ => none }
def SumPartsWrongFalsely : Prop := sumPartsRow.holds Try.pinned (OpenSpec.ofChange sumPartsWrong)

/-- 'stratumlaw08.SumBytes': WHATEVER THE INPUT: true; the input reads as it did. -/
def sumBytesSpec : ChangeSpec := { name := "sumBytes", fn := fun _ => fun
  | [d1, d2, d3] => { results := [.lit (.bool true)], args := [d1, d2, d3] }
  | _ => none }
def sumBytesRow : OpenClaim := { program := "ytbbhjceelghadaa", sum := "8a4f87af36b6c961c14854f4291463a796f9ec982212696b8d68af29be22063c", func := "stratum/stratumlaw08.SumBytes", spec := "sumBytes", unfollowed := true, recurses := true, apart := false }
def SumBytesSaid : Prop := sumBytesRow.holds Try.pinned (OpenSpec.ofChange sumBytesSpec)

/-- ITS FALSE NEIGHBOUR: 'it returns false'. Refute it at one input. -/
def sumBytesWrong : ChangeSpec := { name := "sumBytes", fn := fun _ => fun
  | [d1, d2, d3] => { results := [.lit (.bool false)], args := [d1, d2, d3] }
  | _ => none }
def SumBytesWrongFalsely : Prop := sumBytesRow.holds Try.pinned (OpenSpec.ofChange sumBytesWrong)

/-- 'stratumlaw08.SumSwaps': WHATEVER THE INPUT: true; the input reads as it did. -/
def sumSwapsSpec : ChangeSpec := { name := "sumSwaps", fn := fun _ => fun
  | [d1, d2] => { results := [.lit (.bool true)], args := [d1, d2] }
  | _ => none }
def sumSwapsRow : OpenClaim := { program := "ytbbhjceelghadaa", sum := "8a4f87af36b6c961c14854f4291463a796f9ec982212696b8d68af29be22063c", func := "stratum/stratumlaw08.SumSwaps", spec := "sumSwaps", unfollowed := true, recurses := true, apart := false }
def SumSwapsSaid : Prop := sumSwapsRow.holds Try.pinned (OpenSpec.ofChange sumSwapsSpec)

/-- ITS FALSE NEIGHBOUR: 'it returns false'. Refute it at one input. -/
def sumSwapsWrong : ChangeSpec := { name := "sumSwaps", fn := fun _ => fun
  | [d1, d2] => { results := [.lit (.bool false)], args := [d1, d2] }
  | _ => none }
def SumSwapsWrongFalsely : Prop := sumSwapsRow.holds Try.pinned (OpenSpec.ofChange sumSwapsWrong)

/-- 'stratumlaw09.FrameLong': WHATEVER THE INPUT: true; the input reads as it did. -/
def frameLongSpec : ChangeSpec := { name := "frameLong", fn := fun _ => fun
  | [d] => { results := [.lit (.bool true)], args := [d] }
  | _ => none }
def frameLongRow : OpenClaim := { program := "ytbbhjceelghadaa", sum := "8a4f87af36b6c961c14854f4291463a796f9ec982212696b8d68af29be22063c", func := "stratum/stratumlaw09.FrameLong", spec := "frameLong", unfollowed := true, recurses := true, apart := false }
def FrameLongSaid : Prop := frameLongRow.holds Try.pinned (OpenSpec.ofChange frameLongSpec)

/-- ITS FALSE NEIGHBOUR: 'it returns false'. Refute it at one input. -/
def frameLongWrong : ChangeSpec := { name := "frameLong", fn := fun _ => fun
  | [d] => { results := [.lit (.bool false)], args := [d] }
  | _ => none }
def FrameLongWrongFalsely : Prop := frameLongRow.holds Try.pinned (OpenSpec.ofChange frameLongWrong)

/-- 'stratumlaw09.FrameWraps': WHATEVER THE INPUT: true; the input reads as it did. -/
def frameWrapsSpec : ChangeSpec := { name := "frameWraps", fn := fun _ => fun
  | [d] => { results := [.lit (.bool true)], args := [d] }
  | _ => none }
def frameWrapsRow : OpenClaim := { program := "ytbbhjceelghadaa", sum := "8a4f87af36b6c961c14854f4291463a796f9ec982212696b8d68af29be22063c", func := "stratum/stratumlaw09.FrameWraps", spec := "frameWraps", unfollowed := true, recurses := true, apart := false }
def FrameWrapsSaid : Prop := frameWrapsRow.holds Try.pinned (OpenSpec.ofChange frameWrapsSpec)

/-- ITS FALSE NEIGHBOUR: 'it returns false'. Refute it at one input. -/
def frameWrapsWrong : ChangeSpec := { name := "frameWraps", fn := fun _ => fun
  | [d] => { results := [.lit (.bool false)], args := [d] }
  | _ => none }
def FrameWrapsWrongFalsely : Prop := frameWrapsRow.holds Try.pinned (OpenSpec.ofChange frameWrapsWrong)

/-- 'stratumlaw09.FrameScans': WHATEVER THE INPUT: true; the input reads as it did. -/
def frameScansSpec : ChangeSpec := { name := "frameScans", fn := fun _ => fun
  | [d1, d2] => { results := [.lit (.bool true)], args := [d1, d2] }
  | _ => none }
def frameScansRow : OpenClaim := { program := "ytbbhjceelghadaa", sum := "8a4f87af36b6c961c14854f4291463a796f9ec982212696b8d68af29be22063c", func := "stratum/stratumlaw09.FrameScans", spec := "frameScans", unfollowed := true, recurses := true, apart := false }
def FrameScansSaid : Prop := frameScansRow.holds Try.pinned (OpenSpec.ofChange frameScansSpec)

/-- ITS FALSE NEIGHBOUR: 'it returns false'. Refute it at one input. -/
def frameScansWrong : ChangeSpec := { name := "frameScans", fn := fun _ => fun
  | [d1, d2] => { results := [.lit (.bool false)], args := [d1, d2] }
  | _ => none }
def FrameScansWrongFalsely : Prop := frameScansRow.holds Try.pinned (OpenSpec.ofChange frameScansWrong)

/-- 'stratumlaw09.FrameCuts': WHATEVER THE INPUT: true; the input reads as it did. -/
def frameCutsSpec : ChangeSpec := { name := "frameCuts", fn := fun _ => fun
  | [d1, d2] => { results := [.lit (.bool true)], args := [d1, d2] }
  | _ => none }
def frameCutsRow : OpenClaim := { program := "ytbbhjceelghadaa", sum := "8a4f87af36b6c961c14854f4291463a796f9ec982212696b8d68af29be22063c", func := "stratum/stratumlaw09.FrameCuts", spec := "frameCuts", unfollowed := true, recurses := true, apart := false }
def FrameCutsSaid : Prop := frameCutsRow.holds Try.pinned (OpenSpec.ofChange frameCutsSpec)

/-- ITS FALSE NEIGHBOUR: 'it returns false'. Refute it at one input. -/
def frameCutsWrong : ChangeSpec := { name := "frameCuts", fn := fun _ => fun
  | [d1, d2] => { results := [.lit (.bool false)], args := [d1, d2] }
  | _ => none }
def FrameCutsWrongFalsely : Prop := frameCutsRow.holds Try.pinned (OpenSpec.ofChange frameCutsWrong)

/-- 'stratumlaw09.FrameBends': WHATEVER THE INPUT: true; the input reads as it did. -/
def frameBendsSpec : ChangeSpec := { name := "frameBends", fn := fun _ => fun
  | [d1, d2, d3] => { results := [.lit (.bool true)], args := [d1, d2, d3] }
  | _ => none }
def frameBendsRow : OpenClaim := { program := "ytbbhjceelghadaa", sum := "8a4f87af36b6c961c14854f4291463a796f9ec982212696b8d68af29be22063c", func := "stratum/stratumlaw09.FrameBends", spec := "frameBends", unfollowed := true, recurses := true, apart := false }
def FrameBendsSaid : Prop := frameBendsRow.holds Try.pinned (OpenSpec.ofChange frameBendsSpec)

/-- ITS FALSE NEIGHBOUR: 'it returns false'. Refute it at one input. -/
def frameBendsWrong : ChangeSpec := { name := "frameBends", fn := fun _ => fun
  | [d1, d2, d3] => { results := [.lit (.bool false)], args := [d1, d2, d3] }
  | _ => none }
def FrameBendsWrongFalsely : Prop := frameBendsRow.holds Try.pinned (OpenSpec.ofChange frameBendsWrong)

/-- 'stratumlaw09.FrameTwo': WHATEVER THE INPUT: true; the input reads as it did. -/
def frameTwoSpec : ChangeSpec := { name := "frameTwo", fn := fun _ => fun
  | [d1, d2] => { results := [.lit (.bool true)], args := [d1, d2] }
  | _ => none }
def frameTwoRow : OpenClaim := { program := "ytbbhjceelghadaa", sum := "8a4f87af36b6c961c14854f4291463a796f9ec982212696b8d68af29be22063c", func := "stratum/stratumlaw09.FrameTwo", spec := "frameTwo", unfollowed := true, recurses := true, apart := false }
def FrameTwoSaid : Prop := frameTwoRow.holds Try.pinned (OpenSpec.ofChange frameTwoSpec)

/-- ITS FALSE NEIGHBOUR: 'it returns false'. Refute it at one input. -/
def frameTwoWrong : ChangeSpec := { name := "frameTwo", fn := fun _ => fun
  | [d1, d2] => { results := [.lit (.bool false)], args := [d1, d2] }
  | _ => none }
def FrameTwoWrongFalsely : Prop := frameTwoRow.holds Try.pinned (OpenSpec.ofChange frameTwoWrong)

/- THE SECOND FORM. 'bulk': how many values and letters a reading holds, each counted each time it is reached (what is shared counts as often as it is met; a slice's spare places count too). A statement '..UptoSaid' is the law's where the arguments, and the package variables that the reading takes, are together of bulk at most 1048576: NARROWER than '..Said'. Prove '..Said' where nothing that the law and all that it calls make is longer than what came in: it says more and counts as full. Else prove '..UptoSaid'. A law counts once. -/
mutual
def uptoBulk {H : Type} : DataW H → Nat
  | .lit (.string bytes) => bytes.length + 1
  | .lit _ => 1
  | .nil => 1
  | .ptr d => uptoBulk d + 1
  | .slice elems spare => uptoBulkAll elems + uptoBulkAll spare + 1
  | .agg parts => uptoBulkAll parts + 1
  | .iface _ d => uptoBulk d + 1
  | .map entries => uptoBulkEntries entries + 1
  | .held _ => 1
def uptoBulkAll {H : Type} : List (DataW H) → Nat
  | [] => 0
  | d :: r => uptoBulk d + uptoBulkAll r
def uptoBulkEntries {H : Type} : List (Lit × DataW H) → Nat
  | [] => 0
  | x :: r => uptoBulkEntry x + uptoBulkEntries r
def uptoBulkEntry {H : Type} : Lit × DataW H → Nat
  | (.string bytes, d) => bytes.length + uptoBulk d + 1
  | (_, d) => uptoBulk d + 1
 end
def uptoSmall : (H : Type) → List (DataW H) → Bool := fun _ ds => decide (uptoBulkAll ds ≤ 1048576)
def OpenSpec.upto (s : _root_.Go.ChangeSpec) : _root_.Go.OpenSpec := { _root_.Go.OpenSpec.ofChange s with cond := some uptoSmall }

/-- 'stratumlaw08.SumLong', WHERE WHAT IT READS IS OF BULK AT MOST 1048576: true; the input reads as it did. -/
def sumLongUptoRow : OpenClaim := { program := "ytbbhjceelghadaa", sum := "8a4f87af36b6c961c14854f4291463a796f9ec982212696b8d68af29be22063c", func := "stratum/stratumlaw08.SumLong", spec := "sumLong", unfollowed := true, recurses := true, apart := false, narrowed := true }
def SumLongUptoSaid : Prop := sumLongUptoRow.holds Try.pinned (OpenSpec.upto sumLongSpec)

/-- 'stratumlaw08.SumStays', WHERE WHAT IT READS IS OF BULK AT MOST 1048576: true; the input reads as it did. -/
def sumStaysUptoRow : OpenClaim := { program := "ytbbhjceelghadaa", sum := "8a4f87af36b6c961c14854f4291463a796f9ec982212696b8d68af29be22063c", func := "stratum/stratumlaw08.SumStays", spec := "sumStays", unfollowed := true, recurses := true, apart := false, narrowed := true }
def SumStaysUptoSaid : Prop := sumStaysUptoRow.holds Try.pinned (OpenSpec.upto sumStaysSpec)

/-- 'stratumlaw08.SumSums', WHERE WHAT IT READS IS OF BULK AT MOST 1048576: true; the input reads as it did. -/
def sumSumsUptoRow : OpenClaim := { program := "ytbbhjceelghadaa", sum := "8a4f87af36b6c961c14854f4291463a796f9ec982212696b8d68af29be22063c", func := "stratum/stratumlaw08.SumSums", spec := "sumSums", unfollowed := true, recurses := true, apart := false, narrowed := true }
def SumSumsUptoSaid : Prop := sumSumsUptoRow.holds Try.pinned (OpenSpec.upto sumSumsSpec)

/-- 'stratumlaw08.SumParts', WHERE WHAT IT READS IS OF BULK AT MOST 1048576: true; the input reads as it did. -/
def sumPartsUptoRow : OpenClaim := { program := "ytbbhjceelghadaa", sum := "8a4f87af36b6c961c14854f4291463a796f9ec982212696b8d68af29be22063c", func := "stratum/stratumlaw08.SumParts", spec := "sumParts", unfollowed := true, recurses := true, apart := false, narrowed := true }
def SumPartsUptoSaid : Prop := sumPartsUptoRow.holds Try.pinned (OpenSpec.upto sumPartsSpec)

/-- 'stratumlaw08.SumBytes', WHERE WHAT IT READS IS OF BULK AT MOST 1048576: true; the input reads as it did. -/
def sumBytesUptoRow : OpenClaim := { program := "ytbbhjceelghadaa", sum := "8a4f87af36b6c961c14854f4291463a796f9ec982212696b8d68af29be22063c", func := "stratum/stratumlaw08.SumBytes", spec := "sumBytes", unfollowed := true, recurses := true, apart := false, narrowed := true }
def SumBytesUptoSaid : Prop := sumBytesUptoRow.holds Try.pinned (OpenSpec.upto sumBytesSpec)

/-- 'stratumlaw08.SumSwaps', WHERE WHAT IT READS IS OF BULK AT MOST 1048576: true; the input reads as it did. -/
def sumSwapsUptoRow : OpenClaim := { program := "ytbbhjceelghadaa", sum := "8a4f87af36b6c961c14854f4291463a796f9ec982212696b8d68af29be22063c", func := "stratum/stratumlaw08.SumSwaps", spec := "sumSwaps", unfollowed := true, recurses := true, apart := false, narrowed := true }
def SumSwapsUptoSaid : Prop := sumSwapsUptoRow.holds Try.pinned (OpenSpec.upto sumSwapsSpec)

/-- 'stratumlaw09.FrameLong', WHERE WHAT IT READS IS OF BULK AT MOST 1048576: true; the input reads as it did. -/
def frameLongUptoRow : OpenClaim := { program := "ytbbhjceelghadaa", sum := "8a4f87af36b6c961c14854f4291463a796f9ec982212696b8d68af29be22063c", func := "stratum/stratumlaw09.FrameLong", spec := "frameLong", unfollowed := true, recurses := true, apart := false, narrowed := true }
def FrameLongUptoSaid : Prop := frameLongUptoRow.holds Try.pinned (OpenSpec.upto frameLongSpec)

/-- 'stratumlaw09.FrameWraps', WHERE WHAT IT READS IS OF BULK AT MOST 1048576: true; the input reads as it did. -/
def frameWrapsUptoRow : OpenClaim := { program := "ytbbhjceelghadaa", sum := "8a4f87af36b6c961c14854f4291463a796f9ec982212696b8d68af29be22063c", func := "stratum/stratumlaw09.FrameWraps", spec := "frameWraps", unfollowed := true, recurses := true, apart := false, narrowed := true }
def FrameWrapsUptoSaid : Prop := frameWrapsUptoRow.holds Try.pinned (OpenSpec.upto frameWrapsSpec)

/-- 'stratumlaw09.FrameScans', WHERE WHAT IT READS IS OF BULK AT MOST 1048576: true; the input reads as it did. -/
def frameScansUptoRow : OpenClaim := { program := "ytbbhjceelghadaa", sum := "8a4f87af36b6c961c14854f4291463a796f9ec982212696b8d68af29be22063c", func := "stratum/stratumlaw09.FrameScans", spec := "frameScans", unfollowed := true, recurses := true, apart := false, narrowed := true }
def FrameScansUptoSaid : Prop := frameScansUptoRow.holds Try.pinned (OpenSpec.upto frameScansSpec)

/-- 'stratumlaw09.FrameCuts', WHERE WHAT IT READS IS OF BULK AT MOST 1048576: true; the input reads as it did. -/
def frameCutsUptoRow : OpenClaim := { program := "ytbbhjceelghadaa", sum := "8a4f87af36b6c961c14854f4291463a796f9ec982212696b8d68af29be22063c", func := "stratum/stratumlaw09.FrameCuts", spec := "frameCuts", unfollowed := true, recurses := true, apart := false, narrowed := true }
def FrameCutsUptoSaid : Prop := frameCutsUptoRow.holds Try.pinned (OpenSpec.upto frameCutsSpec)

/-- 'stratumlaw09.FrameBends', WHERE WHAT IT READS IS OF BULK AT MOST 1048576: true; the input reads as it did. -/
def frameBendsUptoRow : OpenClaim := { program := "ytbbhjceelghadaa", sum := "8a4f87af36b6c961c14854f4291463a796f9ec982212696b8d68af29be22063c", func := "stratum/stratumlaw09.FrameBends", spec := "frameBends", unfollowed := true, recurses := true, apart := false, narrowed := true }
def FrameBendsUptoSaid : Prop := frameBendsUptoRow.holds Try.pinned (OpenSpec.upto frameBendsSpec)

/-- 'stratumlaw09.FrameTwo', WHERE WHAT IT READS IS OF BULK AT MOST 1048576: true; the input reads as it did. -/
def frameTwoUptoRow : OpenClaim := { program := "ytbbhjceelghadaa", sum := "8a4f87af36b6c961c14854f4291463a796f9ec982212696b8d68af29be22063c", func := "stratum/stratumlaw09.FrameTwo", spec := "frameTwo", unfollowed := true, recurses := true, apart := false, narrowed := true }
def FrameTwoUptoSaid : Prop := frameTwoUptoRow.holds Try.pinned (OpenSpec.upto frameTwoSpec)

end Rows
end Go.Proofs.Ytbbhjceelghadaa
