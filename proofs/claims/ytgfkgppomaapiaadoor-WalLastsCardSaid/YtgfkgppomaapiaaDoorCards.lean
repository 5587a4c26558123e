/-
  DERIVED. GIVEN WITH THE SEED: THE CARDS: each row of YtgfkgppomaapiaaDoorRows.lean that lists a variable, with what it lists TIED to the program's text (the seventh form; the later family's looks); each row that meets fmt, with fmt's text TOLD by the authors' own Lean function (tested against real Go, not proved from fmt's source: count such statements apart). THE CARD IS WHAT COUNTS. Prove the row's statement (the work); the ties are given (YtgfkgppomaapiaaDoorTie.lean); close each card by the builder's one call (the guide's Derived/Test/ToyasCard.lean, 'card_holds'). Laid BY PROGRAM, IN A SANDBOX (cutbox-door.mjs). By AI agents, Wed Nov 11 2026. No macro, syntax, notation, axiom, sorry.
-/
import Derived.Test.YtgfkgppomaapiaaDoorRows
import GoSem.ClaimSeven
namespace Go.Proofs.YtgfkgppomaapiaaDoor
namespace Rows

/-- THE TIED CARD OF 'stratumlaw07.CodeEncodes'. -/
def codeEncodesCard : Claim7 := { stood := { row := codeEncodesRow, standIns := [], harness := (true, "fa672d925fa1f82b1f1467de1996dc2d12144e68369fc506090a29a02319ae8a"), looks := true }, kinds := [], alts := [], laidByText := true, laidKinds := [.sentinel], laidTests := true, laidLooks := .later }
def CodeEncodesCardSaid : Prop := Claim7.holds Tryd.pinned (.plain (OpenSpec.ofChange codeEncodesSpec)) codeEncodesCard

/-- THE TIED CARD OF 'stratumlaw07.CodeMakes'. -/
def codeMakesCard : Claim7 := { stood := { row := codeMakesRow, standIns := [], harness := (true, "fa672d925fa1f82b1f1467de1996dc2d12144e68369fc506090a29a02319ae8a"), looks := true }, kinds := [], alts := [], laidByText := true, laidKinds := [.sentinel], laidTests := true, laidLooks := .later }
def CodeMakesCardSaid : Prop := Claim7.holds Tryd.pinned (.plain (OpenSpec.ofChange codeMakesSpec)) codeMakesCard

/-- THE TIED CARD OF 'stratumlaw07.CodeDecodes'. -/
def codeDecodesCard : Claim7 := { stood := { row := codeDecodesRow, standIns := [], harness := (true, "fa672d925fa1f82b1f1467de1996dc2d12144e68369fc506090a29a02319ae8a"), looks := true }, kinds := [], alts := [], laidByText := true, laidKinds := [.sentinel], laidTests := true, laidLooks := .later }
def CodeDecodesCardSaid : Prop := Claim7.holds Tryd.pinned (.plain (OpenSpec.ofChange codeDecodesSpec)) codeDecodesCard

/-- THE TIED CARD OF 'stratumlaw16.MsgEncodes'. -/
def msgEncodesCard : Claim7 := { stood := { row := msgEncodesRow, standIns := [], harness := (true, "fa672d925fa1f82b1f1467de1996dc2d12144e68369fc506090a29a02319ae8a"), looks := true }, kinds := [], alts := [], laidByText := true, laidKinds := [.sentinel], laidTests := true, laidLooks := .later }
def MsgEncodesCardSaid : Prop := Claim7.holds Tryd.pinned (.plain (OpenSpec.ofChange msgEncodesSpec)) msgEncodesCard

/-- THE TIED CARD OF 'stratumlaw16.MsgDecodes'. -/
def msgDecodesCard : Claim7 := { stood := { row := msgDecodesRow, standIns := [], harness := (true, "fa672d925fa1f82b1f1467de1996dc2d12144e68369fc506090a29a02319ae8a"), looks := true }, kinds := [], alts := [], laidByText := true, laidKinds := [.sentinel], laidTests := true, laidLooks := .later }
def MsgDecodesCardSaid : Prop := Claim7.holds Tryd.pinned (.plain (OpenSpec.ofChange msgDecodesSpec)) msgDecodesCard

/-- THE TIED CARD OF 'stratumlaw16.MsgBack'. -/
def msgBackCard : Claim7 := { stood := { row := msgBackRow, standIns := [], harness := (true, "fa672d925fa1f82b1f1467de1996dc2d12144e68369fc506090a29a02319ae8a"), looks := true }, kinds := [], alts := [], laidByText := true, laidKinds := [.sentinel], laidTests := true, laidLooks := .later }
def MsgBackCardSaid : Prop := Claim7.holds Tryd.pinned (.plain (OpenSpec.ofChange msgBackSpec)) msgBackCard

/-- THE TIED CARD OF 'stratumlaw16.MsgOnly'. -/
def msgOnlyCard : Claim7 := { stood := { row := msgOnlyRow, standIns := [], harness := (true, "fa672d925fa1f82b1f1467de1996dc2d12144e68369fc506090a29a02319ae8a"), looks := true }, kinds := [], alts := [], laidByText := true, laidKinds := [.sentinel], laidTests := true, laidLooks := .later }
def MsgOnlyCardSaid : Prop := Claim7.holds Tryd.pinned (.plain (OpenSpec.ofChange msgOnlySpec)) msgOnlyCard

/-- THE TIED CARD OF 'stratumlaw16.MsgApart'. -/
def msgApartCard : Claim7 := { stood := { row := msgApartRow, standIns := [], harness := (true, "fa672d925fa1f82b1f1467de1996dc2d12144e68369fc506090a29a02319ae8a"), looks := true }, kinds := [], alts := [], laidByText := true, laidKinds := [.sentinel], laidTests := true, laidLooks := .later }
def MsgApartCardSaid : Prop := Claim7.holds Tryd.pinned (.plain (OpenSpec.ofChange msgApartSpec)) msgApartCard

/-- THE TIED CARD OF 'stratumlaw16.MsgKinds'. -/
def msgKindsCard : Claim7 := { stood := { row := msgKindsRow, standIns := [], harness := (true, "fa672d925fa1f82b1f1467de1996dc2d12144e68369fc506090a29a02319ae8a"), looks := true }, kinds := [], alts := [], laidByText := true, laidKinds := [.sentinel], laidTests := true, laidLooks := .later }
def MsgKindsCardSaid : Prop := Claim7.holds Tryd.pinned (.plain (OpenSpec.ofChange msgKindsSpec)) msgKindsCard

/-- THE TIED CARD OF 'stratumlaw11.WalRoom'. -/
def walRoomCard : Claim7 := { stood := { row := walRoomRow, standIns := [], harness := (true, "fa672d925fa1f82b1f1467de1996dc2d12144e68369fc506090a29a02319ae8a"), looks := true }, kinds := [], alts := [], laidByText := true, laidKinds := [.sentinel], laidTests := true, laidLooks := .later }
def WalRoomCardSaid : Prop := Claim7.holds Tryd.pinned (.plain (OpenSpec.ofChange walRoomSpec)) walRoomCard

/-- THE TIED CARD OF 'stratumlaw11.WalFronts'. -/
def walFrontsCard : Claim7 := { stood := { row := walFrontsRow, standIns := [], harness := (true, "fa672d925fa1f82b1f1467de1996dc2d12144e68369fc506090a29a02319ae8a"), looks := true }, kinds := [], alts := [], laidByText := true, laidKinds := [.sentinel], laidTests := true, laidLooks := .later }
def WalFrontsCardSaid : Prop := Claim7.holds Tryd.pinned (.plain (OpenSpec.ofChange walFrontsSpec)) walFrontsCard

/-- THE TIED CARD OF 'stratumlaw11.WalLasts'. -/
def walLastsCard : Claim7 := { stood := { row := walLastsRow, standIns := [], harness := (true, "fa672d925fa1f82b1f1467de1996dc2d12144e68369fc506090a29a02319ae8a"), looks := true }, kinds := [], alts := [], laidByText := true, laidKinds := [.sentinel], laidTests := true, laidLooks := .later }
def WalLastsCardSaid : Prop := Claim7.holds Tryd.pinned (.plain (OpenSpec.ofChange walLastsSpec)) walLastsCard

/-- THE SECOND FORM's CARD OF 'stratumlaw07.CodeEncodes'. -/
def codeEncodesUptoCard : Claim7 := { stood := { row := codeEncodesUptoRow, standIns := [], harness := (true, "fa672d925fa1f82b1f1467de1996dc2d12144e68369fc506090a29a02319ae8a"), looks := true }, kinds := [], alts := [], laidByText := true, laidKinds := [.sentinel], laidTests := true, laidLooks := .later }
def CodeEncodesUptoCardSaid : Prop := Claim7.holds Tryd.pinned (.plain (OpenSpec.upto codeEncodesSpec)) codeEncodesUptoCard

/-- THE SECOND FORM's CARD OF 'stratumlaw07.CodeMakes'. -/
def codeMakesUptoCard : Claim7 := { stood := { row := codeMakesUptoRow, standIns := [], harness := (true, "fa672d925fa1f82b1f1467de1996dc2d12144e68369fc506090a29a02319ae8a"), looks := true }, kinds := [], alts := [], laidByText := true, laidKinds := [.sentinel], laidTests := true, laidLooks := .later }
def CodeMakesUptoCardSaid : Prop := Claim7.holds Tryd.pinned (.plain (OpenSpec.upto codeMakesSpec)) codeMakesUptoCard

/-- THE SECOND FORM's CARD OF 'stratumlaw07.CodeDecodes'. -/
def codeDecodesUptoCard : Claim7 := { stood := { row := codeDecodesUptoRow, standIns := [], harness := (true, "fa672d925fa1f82b1f1467de1996dc2d12144e68369fc506090a29a02319ae8a"), looks := true }, kinds := [], alts := [], laidByText := true, laidKinds := [.sentinel], laidTests := true, laidLooks := .later }
def CodeDecodesUptoCardSaid : Prop := Claim7.holds Tryd.pinned (.plain (OpenSpec.upto codeDecodesSpec)) codeDecodesUptoCard

/-- THE SECOND FORM's CARD OF 'stratumlaw16.MsgEncodes'. -/
def msgEncodesUptoCard : Claim7 := { stood := { row := msgEncodesUptoRow, standIns := [], harness := (true, "fa672d925fa1f82b1f1467de1996dc2d12144e68369fc506090a29a02319ae8a"), looks := true }, kinds := [], alts := [], laidByText := true, laidKinds := [.sentinel], laidTests := true, laidLooks := .later }
def MsgEncodesUptoCardSaid : Prop := Claim7.holds Tryd.pinned (.plain (OpenSpec.upto msgEncodesSpec)) msgEncodesUptoCard

/-- THE SECOND FORM's CARD OF 'stratumlaw16.MsgDecodes'. -/
def msgDecodesUptoCard : Claim7 := { stood := { row := msgDecodesUptoRow, standIns := [], harness := (true, "fa672d925fa1f82b1f1467de1996dc2d12144e68369fc506090a29a02319ae8a"), looks := true }, kinds := [], alts := [], laidByText := true, laidKinds := [.sentinel], laidTests := true, laidLooks := .later }
def MsgDecodesUptoCardSaid : Prop := Claim7.holds Tryd.pinned (.plain (OpenSpec.upto msgDecodesSpec)) msgDecodesUptoCard

/-- THE SECOND FORM's CARD OF 'stratumlaw16.MsgBack'. -/
def msgBackUptoCard : Claim7 := { stood := { row := msgBackUptoRow, standIns := [], harness := (true, "fa672d925fa1f82b1f1467de1996dc2d12144e68369fc506090a29a02319ae8a"), looks := true }, kinds := [], alts := [], laidByText := true, laidKinds := [.sentinel], laidTests := true, laidLooks := .later }
def MsgBackUptoCardSaid : Prop := Claim7.holds Tryd.pinned (.plain (OpenSpec.upto msgBackSpec)) msgBackUptoCard

/-- THE SECOND FORM's CARD OF 'stratumlaw16.MsgOnly'. -/
def msgOnlyUptoCard : Claim7 := { stood := { row := msgOnlyUptoRow, standIns := [], harness := (true, "fa672d925fa1f82b1f1467de1996dc2d12144e68369fc506090a29a02319ae8a"), looks := true }, kinds := [], alts := [], laidByText := true, laidKinds := [.sentinel], laidTests := true, laidLooks := .later }
def MsgOnlyUptoCardSaid : Prop := Claim7.holds Tryd.pinned (.plain (OpenSpec.upto msgOnlySpec)) msgOnlyUptoCard

/-- THE SECOND FORM's CARD OF 'stratumlaw16.MsgApart'. -/
def msgApartUptoCard : Claim7 := { stood := { row := msgApartUptoRow, standIns := [], harness := (true, "fa672d925fa1f82b1f1467de1996dc2d12144e68369fc506090a29a02319ae8a"), looks := true }, kinds := [], alts := [], laidByText := true, laidKinds := [.sentinel], laidTests := true, laidLooks := .later }
def MsgApartUptoCardSaid : Prop := Claim7.holds Tryd.pinned (.plain (OpenSpec.upto msgApartSpec)) msgApartUptoCard

/-- THE SECOND FORM's CARD OF 'stratumlaw16.MsgKinds'. -/
def msgKindsUptoCard : Claim7 := { stood := { row := msgKindsUptoRow, standIns := [], harness := (true, "fa672d925fa1f82b1f1467de1996dc2d12144e68369fc506090a29a02319ae8a"), looks := true }, kinds := [], alts := [], laidByText := true, laidKinds := [.sentinel], laidTests := true, laidLooks := .later }
def MsgKindsUptoCardSaid : Prop := Claim7.holds Tryd.pinned (.plain (OpenSpec.upto msgKindsSpec)) msgKindsUptoCard

/-- THE SECOND FORM's CARD OF 'stratumlaw11.WalRoom'. -/
def walRoomUptoCard : Claim7 := { stood := { row := walRoomUptoRow, standIns := [], harness := (true, "fa672d925fa1f82b1f1467de1996dc2d12144e68369fc506090a29a02319ae8a"), looks := true }, kinds := [], alts := [], laidByText := true, laidKinds := [.sentinel], laidTests := true, laidLooks := .later }
def WalRoomUptoCardSaid : Prop := Claim7.holds Tryd.pinned (.plain (OpenSpec.upto walRoomSpec)) walRoomUptoCard

/-- THE SECOND FORM's CARD OF 'stratumlaw11.WalFronts'. -/
def walFrontsUptoCard : Claim7 := { stood := { row := walFrontsUptoRow, standIns := [], harness := (true, "fa672d925fa1f82b1f1467de1996dc2d12144e68369fc506090a29a02319ae8a"), looks := true }, kinds := [], alts := [], laidByText := true, laidKinds := [.sentinel], laidTests := true, laidLooks := .later }
def WalFrontsUptoCardSaid : Prop := Claim7.holds Tryd.pinned (.plain (OpenSpec.upto walFrontsSpec)) walFrontsUptoCard

/-- THE SECOND FORM's CARD OF 'stratumlaw11.WalLasts'. -/
def walLastsUptoCard : Claim7 := { stood := { row := walLastsUptoRow, standIns := [], harness := (true, "fa672d925fa1f82b1f1467de1996dc2d12144e68369fc506090a29a02319ae8a"), looks := true }, kinds := [], alts := [], laidByText := true, laidKinds := [.sentinel], laidTests := true, laidLooks := .later }
def WalLastsUptoCardSaid : Prop := Claim7.holds Tryd.pinned (.plain (OpenSpec.upto walLastsSpec)) walLastsUptoCard
end Rows
end Go.Proofs.YtgfkgppomaapiaaDoor
