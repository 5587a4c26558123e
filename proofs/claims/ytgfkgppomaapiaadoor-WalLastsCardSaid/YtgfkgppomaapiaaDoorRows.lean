/-
  NARROWER THAN 'FOR EVERY INPUT', by the rows' own cells (each row's printed sentence says how): CodeEncodes: laid · CodeMakes: laid · CodeDecodes: laid · MsgEncodes: laid · MsgDecodes: laid · MsgBack: laid · MsgOnly: laid · MsgApart: laid · MsgKinds: laid · WalRoom: laid · WalFronts: laid · WalLasts: laid.
  DERIVED. THE GIVEN ROWS OF THIS SEAT. 12 by the template 'for every input the law returns true; each argument reads behind the call as it read before'; 0 by the template 'total and deterministic' (their statements: YtgfkgppomaapiaaDoorTotals.lean).
  GIVEN WITH THE SEED: the statements are not yours to turn. If you find one false, say at which input.
  Laid BY PROGRAM, IN A SANDBOX (cutbox-rows.mjs): the forced cells as the released guide's own fill.sh prints them over the translation 49b1f230e4a2d95d… (all of the seat's roots in one cut). By AI agents, Wed Nov 11 2026. No macro, syntax, notation, axiom, sorry.
-/
import Derived.Test.YtgfkgppomaapiaaDoorChecked
import GoSem.Claim
import GoSem.ClaimJoined
import GoSem.ClaimMapViews
import Derived.JoinedTies
import Derived.KernelRfl
namespace Go.Proofs.YtgfkgppomaapiaaDoor
/- THE CELL 'sum', in the pinned program and in every row, IS THE sha256 OF THE DUMP (.gsa) THAT YtgfkgppomaapiaaDoorProg.lean LOADS. Nothing in Lean hashes anything: it is a label: what it is worth is what the hold of that sum in a sandbox is worth. -/
noncomputable def Tryd.pinned : Pinned := { name := "ytgfkgppomaapiaadoor", sum := "49b1f230e4a2d95daeb2009abfc4ca6080d3217afe388b0ecc82fc610d4b3aac", checked := Tryd.checked }
namespace Rows
def none {H : Type} : Left H := { results := [], args := [] }

/- WHAT THE LISTED PACKAGE-LEVEL VARIABLES READ AS WHEN THE CALL BEGINS. Each datum BY PROGRAM (the guide's laid-datum.mjs) off the statement by which the dump's own 'gosem.cut.vars' lays the variable. In a bare row this is a premise. The card (YtgfkgppomaapiaaDoorCards.lean) ties it to the program's text. -/
def laid_bytes_ErrTooLarge {H : Type} : DataW H := .iface "*errors.errorString" (.ptr (.agg [.lit (.string [98, 121, 116, 101, 115, 46, 66, 117, 102, 102, 101, 114, 58, 32, 116, 111, 111, 32, 108, 97, 114, 103, 101])]))

/-- 'stratumlaw07.CodeEncodes': WHATEVER THE INPUT: true; the input reads as it did. -/
def codeEncodesSpec : ChangeSpec := { name := "codeEncodes", fn := fun _ => fun
  | [d] => { results := [.lit (.bool true)], args := [d] }
  | _ => none }
def codeEncodesRow : OpenClaim := { program := "ytgfkgppomaapiaadoor", sum := "49b1f230e4a2d95daeb2009abfc4ca6080d3217afe388b0ecc82fc610d4b3aac", func := "stratum/stratumlaw07.CodeEncodes", spec := "codeEncodes", unfollowed := true, recurses := true, named := ["bytes.ErrTooLarge"], apart := false, laid := [("bytes.ErrTooLarge", laid_bytes_ErrTooLarge)] }
def CodeEncodesSaid : Prop := codeEncodesRow.holds Tryd.pinned (OpenSpec.ofChange codeEncodesSpec)

/-- ITS FALSE NEIGHBOUR: 'it returns false'. Refute it at one input. -/
def codeEncodesWrong : ChangeSpec := { name := "codeEncodes", fn := fun _ => fun
  | [d] => { results := [.lit (.bool false)], args := [d] }
  | _ => none }
def CodeEncodesWrongFalsely : Prop := codeEncodesRow.holds Tryd.pinned (OpenSpec.ofChange codeEncodesWrong)

/-- 'stratumlaw07.CodeMakes': WHATEVER THE INPUT: true; the input reads as it did. -/
def codeMakesSpec : ChangeSpec := { name := "codeMakes", fn := fun _ => fun
  | [d1, d2, d3, d4, d5] => { results := [.lit (.bool true)], args := [d1, d2, d3, d4, d5] }
  | _ => none }
def codeMakesRow : OpenClaim := { program := "ytgfkgppomaapiaadoor", sum := "49b1f230e4a2d95daeb2009abfc4ca6080d3217afe388b0ecc82fc610d4b3aac", func := "stratum/stratumlaw07.CodeMakes", spec := "codeMakes", unfollowed := true, recurses := true, named := ["bytes.ErrTooLarge"], apart := false, laid := [("bytes.ErrTooLarge", laid_bytes_ErrTooLarge)] }
def CodeMakesSaid : Prop := codeMakesRow.holds Tryd.pinned (OpenSpec.ofChange codeMakesSpec)

/-- ITS FALSE NEIGHBOUR: 'it returns false'. Refute it at one input. -/
def codeMakesWrong : ChangeSpec := { name := "codeMakes", fn := fun _ => fun
  | [d1, d2, d3, d4, d5] => { results := [.lit (.bool false)], args := [d1, d2, d3, d4, d5] }
  | _ => none }
def CodeMakesWrongFalsely : Prop := codeMakesRow.holds Tryd.pinned (OpenSpec.ofChange codeMakesWrong)

/-- 'stratumlaw07.CodeDecodes': WHATEVER THE INPUT: true; the input reads as it did. -/
def codeDecodesSpec : ChangeSpec := { name := "codeDecodes", fn := fun _ => fun
  | [d] => { results := [.lit (.bool true)], args := [d] }
  | _ => none }
def codeDecodesRow : OpenClaim := { program := "ytgfkgppomaapiaadoor", sum := "49b1f230e4a2d95daeb2009abfc4ca6080d3217afe388b0ecc82fc610d4b3aac", func := "stratum/stratumlaw07.CodeDecodes", spec := "codeDecodes", unfollowed := true, recurses := true, named := ["bytes.ErrTooLarge"], apart := false, laid := [("bytes.ErrTooLarge", laid_bytes_ErrTooLarge)] }
def CodeDecodesSaid : Prop := codeDecodesRow.holds Tryd.pinned (OpenSpec.ofChange codeDecodesSpec)

/-- ITS FALSE NEIGHBOUR: 'it returns false'. Refute it at one input. -/
def codeDecodesWrong : ChangeSpec := { name := "codeDecodes", fn := fun _ => fun
  | [d] => { results := [.lit (.bool false)], args := [d] }
  | _ => none }
def CodeDecodesWrongFalsely : Prop := codeDecodesRow.holds Tryd.pinned (OpenSpec.ofChange codeDecodesWrong)

/-- 'stratumlaw16.MsgEncodes': WHATEVER THE INPUT: true; the input reads as it did. -/
def msgEncodesSpec : ChangeSpec := { name := "msgEncodes", fn := fun _ => fun
  | [d1, d2, d3] => { results := [.lit (.bool true)], args := [d1, d2, d3] }
  | _ => none }
def msgEncodesRow : OpenClaim := { program := "ytgfkgppomaapiaadoor", sum := "49b1f230e4a2d95daeb2009abfc4ca6080d3217afe388b0ecc82fc610d4b3aac", func := "stratum/stratumlaw16.MsgEncodes", spec := "msgEncodes", unfollowed := true, recurses := true, named := ["bytes.ErrTooLarge"], apart := false, laid := [("bytes.ErrTooLarge", laid_bytes_ErrTooLarge)] }
def MsgEncodesSaid : Prop := msgEncodesRow.holds Tryd.pinned (OpenSpec.ofChange msgEncodesSpec)

/-- ITS FALSE NEIGHBOUR: 'it returns false'. Refute it at one input. -/
def msgEncodesWrong : ChangeSpec := { name := "msgEncodes", fn := fun _ => fun
  | [d1, d2, d3] => { results := [.lit (.bool false)], args := [d1, d2, d3] }
  | _ => none }
def MsgEncodesWrongFalsely : Prop := msgEncodesRow.holds Tryd.pinned (OpenSpec.ofChange msgEncodesWrong)

/-- 'stratumlaw16.MsgDecodes': WHATEVER THE INPUT: true; the input reads as it did. -/
def msgDecodesSpec : ChangeSpec := { name := "msgDecodes", fn := fun _ => fun
  | [d] => { results := [.lit (.bool true)], args := [d] }
  | _ => none }
def msgDecodesRow : OpenClaim := { program := "ytgfkgppomaapiaadoor", sum := "49b1f230e4a2d95daeb2009abfc4ca6080d3217afe388b0ecc82fc610d4b3aac", func := "stratum/stratumlaw16.MsgDecodes", spec := "msgDecodes", unfollowed := true, recurses := true, named := ["bytes.ErrTooLarge"], apart := false, laid := [("bytes.ErrTooLarge", laid_bytes_ErrTooLarge)] }
def MsgDecodesSaid : Prop := msgDecodesRow.holds Tryd.pinned (OpenSpec.ofChange msgDecodesSpec)

/-- ITS FALSE NEIGHBOUR: 'it returns false'. Refute it at one input. -/
def msgDecodesWrong : ChangeSpec := { name := "msgDecodes", fn := fun _ => fun
  | [d] => { results := [.lit (.bool false)], args := [d] }
  | _ => none }
def MsgDecodesWrongFalsely : Prop := msgDecodesRow.holds Tryd.pinned (OpenSpec.ofChange msgDecodesWrong)

/-- 'stratumlaw16.MsgBack': WHATEVER THE INPUT: true; the input reads as it did. -/
def msgBackSpec : ChangeSpec := { name := "msgBack", fn := fun _ => fun
  | [d1, d2, d3] => { results := [.lit (.bool true)], args := [d1, d2, d3] }
  | _ => none }
def msgBackRow : OpenClaim := { program := "ytgfkgppomaapiaadoor", sum := "49b1f230e4a2d95daeb2009abfc4ca6080d3217afe388b0ecc82fc610d4b3aac", func := "stratum/stratumlaw16.MsgBack", spec := "msgBack", unfollowed := true, recurses := true, named := ["bytes.ErrTooLarge"], apart := false, laid := [("bytes.ErrTooLarge", laid_bytes_ErrTooLarge)] }
def MsgBackSaid : Prop := msgBackRow.holds Tryd.pinned (OpenSpec.ofChange msgBackSpec)

/-- ITS FALSE NEIGHBOUR: 'it returns false'. Refute it at one input. -/
def msgBackWrong : ChangeSpec := { name := "msgBack", fn := fun _ => fun
  | [d1, d2, d3] => { results := [.lit (.bool false)], args := [d1, d2, d3] }
  | _ => none }
def MsgBackWrongFalsely : Prop := msgBackRow.holds Tryd.pinned (OpenSpec.ofChange msgBackWrong)

/-- 'stratumlaw16.MsgOnly': WHATEVER THE INPUT: true; the input reads as it did. -/
def msgOnlySpec : ChangeSpec := { name := "msgOnly", fn := fun _ => fun
  | [d] => { results := [.lit (.bool true)], args := [d] }
  | _ => none }
def msgOnlyRow : OpenClaim := { program := "ytgfkgppomaapiaadoor", sum := "49b1f230e4a2d95daeb2009abfc4ca6080d3217afe388b0ecc82fc610d4b3aac", func := "stratum/stratumlaw16.MsgOnly", spec := "msgOnly", unfollowed := true, recurses := true, named := ["bytes.ErrTooLarge"], apart := false, laid := [("bytes.ErrTooLarge", laid_bytes_ErrTooLarge)] }
def MsgOnlySaid : Prop := msgOnlyRow.holds Tryd.pinned (OpenSpec.ofChange msgOnlySpec)

/-- ITS FALSE NEIGHBOUR: 'it returns false'. Refute it at one input. -/
def msgOnlyWrong : ChangeSpec := { name := "msgOnly", fn := fun _ => fun
  | [d] => { results := [.lit (.bool false)], args := [d] }
  | _ => none }
def MsgOnlyWrongFalsely : Prop := msgOnlyRow.holds Tryd.pinned (OpenSpec.ofChange msgOnlyWrong)

/-- 'stratumlaw16.MsgApart': WHATEVER THE INPUT: true; the input reads as it did. -/
def msgApartSpec : ChangeSpec := { name := "msgApart", fn := fun _ => fun
  | [d1, d2, d3, d4, d5, d6] => { results := [.lit (.bool true)], args := [d1, d2, d3, d4, d5, d6] }
  | _ => none }
def msgApartRow : OpenClaim := { program := "ytgfkgppomaapiaadoor", sum := "49b1f230e4a2d95daeb2009abfc4ca6080d3217afe388b0ecc82fc610d4b3aac", func := "stratum/stratumlaw16.MsgApart", spec := "msgApart", unfollowed := true, recurses := true, named := ["bytes.ErrTooLarge"], apart := false, laid := [("bytes.ErrTooLarge", laid_bytes_ErrTooLarge)] }
def MsgApartSaid : Prop := msgApartRow.holds Tryd.pinned (OpenSpec.ofChange msgApartSpec)

/-- ITS FALSE NEIGHBOUR: 'it returns false'. Refute it at one input. -/
def msgApartWrong : ChangeSpec := { name := "msgApart", fn := fun _ => fun
  | [d1, d2, d3, d4, d5, d6] => { results := [.lit (.bool false)], args := [d1, d2, d3, d4, d5, d6] }
  | _ => none }
def MsgApartWrongFalsely : Prop := msgApartRow.holds Tryd.pinned (OpenSpec.ofChange msgApartWrong)

/-- 'stratumlaw16.MsgKinds': WHATEVER THE INPUT: true; the input reads as it did. -/
def msgKindsSpec : ChangeSpec := { name := "msgKinds", fn := fun _ => fun
  | [d1, d2, d3] => { results := [.lit (.bool true)], args := [d1, d2, d3] }
  | _ => none }
def msgKindsRow : OpenClaim := { program := "ytgfkgppomaapiaadoor", sum := "49b1f230e4a2d95daeb2009abfc4ca6080d3217afe388b0ecc82fc610d4b3aac", func := "stratum/stratumlaw16.MsgKinds", spec := "msgKinds", unfollowed := true, recurses := true, named := ["bytes.ErrTooLarge"], apart := false, laid := [("bytes.ErrTooLarge", laid_bytes_ErrTooLarge)] }
def MsgKindsSaid : Prop := msgKindsRow.holds Tryd.pinned (OpenSpec.ofChange msgKindsSpec)

/-- ITS FALSE NEIGHBOUR: 'it returns false'. Refute it at one input. -/
def msgKindsWrong : ChangeSpec := { name := "msgKinds", fn := fun _ => fun
  | [d1, d2, d3] => { results := [.lit (.bool false)], args := [d1, d2, d3] }
  | _ => none }
def MsgKindsWrongFalsely : Prop := msgKindsRow.holds Tryd.pinned (OpenSpec.ofChange msgKindsWrong)

/-- 'stratumlaw11.WalRoom': WHATEVER THE INPUT: true; the input reads as it did. -/
def walRoomSpec : ChangeSpec := { name := "walRoom", fn := fun _ => fun
  | [d1, d2] => { results := [.lit (.bool true)], args := [d1, d2] }
  | _ => none }
def walRoomRow : OpenClaim := { program := "ytgfkgppomaapiaadoor", sum := "49b1f230e4a2d95daeb2009abfc4ca6080d3217afe388b0ecc82fc610d4b3aac", func := "stratum/stratumlaw11.WalRoom", spec := "walRoom", unfollowed := true, recurses := true, named := ["bytes.ErrTooLarge"], apart := false, laid := [("bytes.ErrTooLarge", laid_bytes_ErrTooLarge)] }
def WalRoomSaid : Prop := walRoomRow.holds Tryd.pinned (OpenSpec.ofChange walRoomSpec)

/-- ITS FALSE NEIGHBOUR: 'it returns false'. Refute it at one input. -/
def walRoomWrong : ChangeSpec := { name := "walRoom", fn := fun _ => fun
  | [d1, d2] => { results := [.lit (.bool false)], args := [d1, d2] }
  | _ => none }
def WalRoomWrongFalsely : Prop := walRoomRow.holds Tryd.pinned (OpenSpec.ofChange walRoomWrong)

/-- 'stratumlaw11.WalFronts': WHATEVER THE INPUT: true; the input reads as it did. -/
def walFrontsSpec : ChangeSpec := { name := "walFronts", fn := fun _ => fun
  | [d1, d2, d3] => { results := [.lit (.bool true)], args := [d1, d2, d3] }
  | _ => none }
def walFrontsRow : OpenClaim := { program := "ytgfkgppomaapiaadoor", sum := "49b1f230e4a2d95daeb2009abfc4ca6080d3217afe388b0ecc82fc610d4b3aac", func := "stratum/stratumlaw11.WalFronts", spec := "walFronts", unfollowed := true, recurses := true, named := ["bytes.ErrTooLarge"], apart := false, laid := [("bytes.ErrTooLarge", laid_bytes_ErrTooLarge)] }
def WalFrontsSaid : Prop := walFrontsRow.holds Tryd.pinned (OpenSpec.ofChange walFrontsSpec)

/-- ITS FALSE NEIGHBOUR: 'it returns false'. Refute it at one input. -/
def walFrontsWrong : ChangeSpec := { name := "walFronts", fn := fun _ => fun
  | [d1, d2, d3] => { results := [.lit (.bool false)], args := [d1, d2, d3] }
  | _ => none }
def WalFrontsWrongFalsely : Prop := walFrontsRow.holds Tryd.pinned (OpenSpec.ofChange walFrontsWrong)

/-- 'stratumlaw11.WalLasts': WHATEVER THE INPUT: true; the input reads as it did. -/
def walLastsSpec : ChangeSpec := { name := "walLasts", fn := fun _ => fun
  | [d1, d2, d3] => { results := [.lit (.bool true)], args := [d1, d2, d3] }
  | _ => none }
def walLastsRow : OpenClaim := { program := "ytgfkgppomaapiaadoor", sum := "49b1f230e4a2d95daeb2009abfc4ca6080d3217afe388b0ecc82fc610d4b3aac", func := "stratum/stratumlaw11.WalLasts", spec := "walLasts", unfollowed := true, recurses := true, named := ["bytes.ErrTooLarge"], apart := false, laid := [("bytes.ErrTooLarge", laid_bytes_ErrTooLarge)] }
def WalLastsSaid : Prop := walLastsRow.holds Tryd.pinned (OpenSpec.ofChange walLastsSpec)

/-- ITS FALSE NEIGHBOUR: 'it returns false'. Refute it at one input. -/
def walLastsWrong : ChangeSpec := { name := "walLasts", fn := fun _ => fun
  | [d1, d2, d3] => { results := [.lit (.bool false)], args := [d1, d2, d3] }
  | _ => none }
def WalLastsWrongFalsely : Prop := walLastsRow.holds Tryd.pinned (OpenSpec.ofChange walLastsWrong)

/- THE SECOND FORM. 'bulk': how many values and letters a reading holds, each counted each time it is reached (what is shared counts as often as it is met; a slice's spare places count too). A statement '..UptoSaid' is the law's where the arguments, and the package variables that the reading takes, are together of bulk at most 1048576: NARROWER than '..Said'. Prove '..Said' where nothing that the law and all that it calls make is longer than what came in: it says more and counts as full. Else prove '..UptoSaid'. A law counts once. -/
mutual
def uptoBulk {H : Type} : DataW H → Nat
  | .lit (.string bytes) => bytes.length + 1
  | .lit _ => 1
  | .nil => 1
  | .ptr d => uptoBulk d + 1
  | .slice elems spare => uptoBulkAll elems + uptoBulkAll spare + 1
  | .agg parts => uptoBulkAll parts + 1
  | .iface _ d => uptoBulk d + 1
  | .map entries => uptoBulkEntries entries + 1
  | .held _ => 1
def uptoBulkAll {H : Type} : List (DataW H) → Nat
  | [] => 0
  | d :: r => uptoBulk d + uptoBulkAll r
def uptoBulkEntries {H : Type} : List (Lit × DataW H) → Nat
  | [] => 0
  | x :: r => uptoBulkEntry x + uptoBulkEntries r
def uptoBulkEntry {H : Type} : Lit × DataW H → Nat
  | (.string bytes, d) => bytes.length + uptoBulk d + 1
  | (_, d) => uptoBulk d + 1
 end
def uptoSmall : (H : Type) → List (DataW H) → Bool := fun _ ds => decide (uptoBulkAll ds ≤ 1048576)
def OpenSpec.upto (s : _root_.Go.ChangeSpec) : _root_.Go.OpenSpec := { _root_.Go.OpenSpec.ofChange s with cond := some uptoSmall }

/-- 'stratumlaw07.CodeEncodes', WHERE WHAT IT READS IS OF BULK AT MOST 1048576: true; the input reads as it did. -/
def codeEncodesUptoRow : OpenClaim := { program := "ytgfkgppomaapiaadoor", sum := "49b1f230e4a2d95daeb2009abfc4ca6080d3217afe388b0ecc82fc610d4b3aac", func := "stratum/stratumlaw07.CodeEncodes", spec := "codeEncodes", unfollowed := true, recurses := true, named := ["bytes.ErrTooLarge"], apart := false, laid := [("bytes.ErrTooLarge", laid_bytes_ErrTooLarge)], narrowed := true }
def CodeEncodesUptoSaid : Prop := codeEncodesUptoRow.holds Tryd.pinned (OpenSpec.upto codeEncodesSpec)

/-- 'stratumlaw07.CodeMakes', WHERE WHAT IT READS IS OF BULK AT MOST 1048576: true; the input reads as it did. -/
def codeMakesUptoRow : OpenClaim := { program := "ytgfkgppomaapiaadoor", sum := "49b1f230e4a2d95daeb2009abfc4ca6080d3217afe388b0ecc82fc610d4b3aac", func := "stratum/stratumlaw07.CodeMakes", spec := "codeMakes", unfollowed := true, recurses := true, named := ["bytes.ErrTooLarge"], apart := false, laid := [("bytes.ErrTooLarge", laid_bytes_ErrTooLarge)], narrowed := true }
def CodeMakesUptoSaid : Prop := codeMakesUptoRow.holds Tryd.pinned (OpenSpec.upto codeMakesSpec)

/-- 'stratumlaw07.CodeDecodes', WHERE WHAT IT READS IS OF BULK AT MOST 1048576: true; the input reads as it did. -/
def codeDecodesUptoRow : OpenClaim := { program := "ytgfkgppomaapiaadoor", sum := "49b1f230e4a2d95daeb2009abfc4ca6080d3217afe388b0ecc82fc610d4b3aac", func := "stratum/stratumlaw07.CodeDecodes", spec := "codeDecodes", unfollowed := true, recurses := true, named := ["bytes.ErrTooLarge"], apart := false, laid := [("bytes.ErrTooLarge", laid_bytes_ErrTooLarge)], narrowed := true }
def CodeDecodesUptoSaid : Prop := codeDecodesUptoRow.holds Tryd.pinned (OpenSpec.upto codeDecodesSpec)

/-- 'stratumlaw16.MsgEncodes', WHERE WHAT IT READS IS OF BULK AT MOST 1048576: true; the input reads as it did. -/
def msgEncodesUptoRow : OpenClaim := { program := "ytgfkgppomaapiaadoor", sum := "49b1f230e4a2d95daeb2009abfc4ca6080d3217afe388b0ecc82fc610d4b3aac", func := "stratum/stratumlaw16.MsgEncodes", spec := "msgEncodes", unfollowed := true, recurses := true, named := ["bytes.ErrTooLarge"], apart := false, laid := [("bytes.ErrTooLarge", laid_bytes_ErrTooLarge)], narrowed := true }
def MsgEncodesUptoSaid : Prop := msgEncodesUptoRow.holds Tryd.pinned (OpenSpec.upto msgEncodesSpec)

/-- 'stratumlaw16.MsgDecodes', WHERE WHAT IT READS IS OF BULK AT MOST 1048576: true; the input reads as it did. -/
def msgDecodesUptoRow : OpenClaim := { program := "ytgfkgppomaapiaadoor", sum := "49b1f230e4a2d95daeb2009abfc4ca6080d3217afe388b0ecc82fc610d4b3aac", func := "stratum/stratumlaw16.MsgDecodes", spec := "msgDecodes", unfollowed := true, recurses := true, named := ["bytes.ErrTooLarge"], apart := false, laid := [("bytes.ErrTooLarge", laid_bytes_ErrTooLarge)], narrowed := true }
def MsgDecodesUptoSaid : Prop := msgDecodesUptoRow.holds Tryd.pinned (OpenSpec.upto msgDecodesSpec)

/-- 'stratumlaw16.MsgBack', WHERE WHAT IT READS IS OF BULK AT MOST 1048576: true; the input reads as it did. -/
def msgBackUptoRow : OpenClaim := { program := "ytgfkgppomaapiaadoor", sum := "49b1f230e4a2d95daeb2009abfc4ca6080d3217afe388b0ecc82fc610d4b3aac", func := "stratum/stratumlaw16.MsgBack", spec := "msgBack", unfollowed := true, recurses := true, named := ["bytes.ErrTooLarge"], apart := false, laid := [("bytes.ErrTooLarge", laid_bytes_ErrTooLarge)], narrowed := true }
def MsgBackUptoSaid : Prop := msgBackUptoRow.holds Tryd.pinned (OpenSpec.upto msgBackSpec)

/-- 'stratumlaw16.MsgOnly', WHERE WHAT IT READS IS OF BULK AT MOST 1048576: true; the input reads as it did. -/
def msgOnlyUptoRow : OpenClaim := { program := "ytgfkgppomaapiaadoor", sum := "49b1f230e4a2d95daeb2009abfc4ca6080d3217afe388b0ecc82fc610d4b3aac", func := "stratum/stratumlaw16.MsgOnly", spec := "msgOnly", unfollowed := true, recurses := true, named := ["bytes.ErrTooLarge"], apart := false, laid := [("bytes.ErrTooLarge", laid_bytes_ErrTooLarge)], narrowed := true }
def MsgOnlyUptoSaid : Prop := msgOnlyUptoRow.holds Tryd.pinned (OpenSpec.upto msgOnlySpec)

/-- 'stratumlaw16.MsgApart', WHERE WHAT IT READS IS OF BULK AT MOST 1048576: true; the input reads as it did. -/
def msgApartUptoRow : OpenClaim := { program := "ytgfkgppomaapiaadoor", sum := "49b1f230e4a2d95daeb2009abfc4ca6080d3217afe388b0ecc82fc610d4b3aac", func := "stratum/stratumlaw16.MsgApart", spec := "msgApart", unfollowed := true, recurses := true, named := ["bytes.ErrTooLarge"], apart := false, laid := [("bytes.ErrTooLarge", laid_bytes_ErrTooLarge)], narrowed := true }
def MsgApartUptoSaid : Prop := msgApartUptoRow.holds Tryd.pinned (OpenSpec.upto msgApartSpec)

/-- 'stratumlaw16.MsgKinds', WHERE WHAT IT READS IS OF BULK AT MOST 1048576: true; the input reads as it did. -/
def msgKindsUptoRow : OpenClaim := { program := "ytgfkgppomaapiaadoor", sum := "49b1f230e4a2d95daeb2009abfc4ca6080d3217afe388b0ecc82fc610d4b3aac", func := "stratum/stratumlaw16.MsgKinds", spec := "msgKinds", unfollowed := true, recurses := true, named := ["bytes.ErrTooLarge"], apart := false, laid := [("bytes.ErrTooLarge", laid_bytes_ErrTooLarge)], narrowed := true }
def MsgKindsUptoSaid : Prop := msgKindsUptoRow.holds Tryd.pinned (OpenSpec.upto msgKindsSpec)

/-- 'stratumlaw11.WalRoom', WHERE WHAT IT READS IS OF BULK AT MOST 1048576: true; the input reads as it did. -/
def walRoomUptoRow : OpenClaim := { program := "ytgfkgppomaapiaadoor", sum := "49b1f230e4a2d95daeb2009abfc4ca6080d3217afe388b0ecc82fc610d4b3aac", func := "stratum/stratumlaw11.WalRoom", spec := "walRoom", unfollowed := true, recurses := true, named := ["bytes.ErrTooLarge"], apart := false, laid := [("bytes.ErrTooLarge", laid_bytes_ErrTooLarge)], narrowed := true }
def WalRoomUptoSaid : Prop := walRoomUptoRow.holds Tryd.pinned (OpenSpec.upto walRoomSpec)

/-- 'stratumlaw11.WalFronts', WHERE WHAT IT READS IS OF BULK AT MOST 1048576: true; the input reads as it did. -/
def walFrontsUptoRow : OpenClaim := { program := "ytgfkgppomaapiaadoor", sum := "49b1f230e4a2d95daeb2009abfc4ca6080d3217afe388b0ecc82fc610d4b3aac", func := "stratum/stratumlaw11.WalFronts", spec := "walFronts", unfollowed := true, recurses := true, named := ["bytes.ErrTooLarge"], apart := false, laid := [("bytes.ErrTooLarge", laid_bytes_ErrTooLarge)], narrowed := true }
def WalFrontsUptoSaid : Prop := walFrontsUptoRow.holds Tryd.pinned (OpenSpec.upto walFrontsSpec)

/-- 'stratumlaw11.WalLasts', WHERE WHAT IT READS IS OF BULK AT MOST 1048576: true; the input reads as it did. -/
def walLastsUptoRow : OpenClaim := { program := "ytgfkgppomaapiaadoor", sum := "49b1f230e4a2d95daeb2009abfc4ca6080d3217afe388b0ecc82fc610d4b3aac", func := "stratum/stratumlaw11.WalLasts", spec := "walLasts", unfollowed := true, recurses := true, named := ["bytes.ErrTooLarge"], apart := false, laid := [("bytes.ErrTooLarge", laid_bytes_ErrTooLarge)], narrowed := true }
def WalLastsUptoSaid : Prop := walLastsUptoRow.holds Tryd.pinned (OpenSpec.upto walLastsSpec)

end Rows
end Go.Proofs.YtgfkgppomaapiaaDoor
