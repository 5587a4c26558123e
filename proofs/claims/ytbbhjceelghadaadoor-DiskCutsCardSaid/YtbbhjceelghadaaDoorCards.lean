/-
  DERIVED. GIVEN WITH THE SEED: THE CARDS: each row of YtbbhjceelghadaaDoorRows.lean that lists a variable, with what it lists TIED to the program's text (the seventh form; the later family's looks); each row that meets fmt, with fmt's text TOLD by the authors' own Lean function (tested against real Go, not proved from fmt's source: count such statements apart). THE CARD IS WHAT COUNTS. Prove the row's statement (the work); the ties are given (YtbbhjceelghadaaDoorTie.lean); close each card by the builder's one call (the guide's Derived/Test/ToyasCard.lean, 'card_holds'). Laid BY PROGRAM, IN A SANDBOX (cutbox-door.mjs). By AI agents, Wed Nov 11 2026. No macro, syntax, notation, axiom, sorry.
-/
import Derived.Test.YtbbhjceelghadaaDoorRows
import GoSem.ClaimSeven
namespace Go.Proofs.YtbbhjceelghadaaDoor
namespace Rows

/-- THE TIED CARD OF 'stratumlaw10.DiskLasts'. -/
def diskLastsCard : Claim7 := { stood := { row := diskLastsRow, standIns := [], harness := (true, "e2b871cb80d376d5ad911841bd9010a48b66507fb14a0af13b36f9c6414ed1b0"), looks := true }, kinds := [], alts := [], laidByText := true, laidKinds := [.sentinel], laidTests := true, laidLooks := .later }
def DiskLastsCardSaid : Prop := Claim7.holds Tryd.pinned (.plain (OpenSpec.ofChange diskLastsSpec)) diskLastsCard

/-- THE TIED CARD OF 'stratumlaw10.DiskRoom'. -/
def diskRoomCard : Claim7 := { stood := { row := diskRoomRow, standIns := [], harness := (true, "e2b871cb80d376d5ad911841bd9010a48b66507fb14a0af13b36f9c6414ed1b0"), looks := true }, kinds := [], alts := [], laidByText := true, laidKinds := [.sentinel], laidTests := true, laidLooks := .later }
def DiskRoomCardSaid : Prop := Claim7.holds Tryd.pinned (.plain (OpenSpec.ofChange diskRoomSpec)) diskRoomCard

/-- THE TIED CARD OF 'stratumlaw10.DiskCalls'. -/
def diskCallsCard : Claim7 := { stood := { row := diskCallsRow, standIns := [], harness := (true, "e2b871cb80d376d5ad911841bd9010a48b66507fb14a0af13b36f9c6414ed1b0"), looks := true }, kinds := [], alts := [], laidByText := true, laidKinds := [.sentinel], laidTests := true, laidLooks := .later }
def DiskCallsCardSaid : Prop := Claim7.holds Tryd.pinned (.plain (OpenSpec.ofChange diskCallsSpec)) diskCallsCard

/-- THE TIED CARD OF 'stratumlaw10.DiskCuts'. -/
def diskCutsCard : Claim7 := { stood := { row := diskCutsRow, standIns := [], harness := (true, "e2b871cb80d376d5ad911841bd9010a48b66507fb14a0af13b36f9c6414ed1b0"), looks := true }, kinds := [], alts := [], laidByText := true, laidKinds := [.sentinel], laidTests := true, laidLooks := .later }
def DiskCutsCardSaid : Prop := Claim7.holds Tryd.pinned (.plain (OpenSpec.ofChange diskCutsSpec)) diskCutsCard

/-- THE TIED CARD OF 'stratumlaw10.DiskDoes'. -/
def diskDoesCard : Claim7 := { stood := { row := diskDoesRow, standIns := [], harness := (true, "e2b871cb80d376d5ad911841bd9010a48b66507fb14a0af13b36f9c6414ed1b0"), looks := true }, kinds := [], alts := [], laidByText := true, laidKinds := [.sentinel], laidTests := true, laidLooks := .later }
def DiskDoesCardSaid : Prop := Claim7.holds Tryd.pinned (.plain (OpenSpec.ofChange diskDoesSpec)) diskDoesCard

/-- THE TIED CARD OF 'stratumlaw10.DiskHalts'. -/
def diskHaltsCard : Claim7 := { stood := { row := diskHaltsRow, standIns := [], harness := (true, "e2b871cb80d376d5ad911841bd9010a48b66507fb14a0af13b36f9c6414ed1b0"), looks := true }, kinds := [], alts := [], laidByText := true, laidKinds := [.sentinel], laidTests := true, laidLooks := .later }
def DiskHaltsCardSaid : Prop := Claim7.holds Tryd.pinned (.plain (OpenSpec.ofChange diskHaltsSpec)) diskHaltsCard

/-- THE TIED CARD OF 'stratumlaw07.CodeEncodes'. -/
def codeEncodesCard : Claim7 := { stood := { row := codeEncodesRow, standIns := [], harness := (true, "e2b871cb80d376d5ad911841bd9010a48b66507fb14a0af13b36f9c6414ed1b0"), looks := true }, kinds := [], alts := [], laidByText := true, laidKinds := [.sentinel], laidTests := true, laidLooks := .later }
def CodeEncodesCardSaid : Prop := Claim7.holds Tryd.pinned (.plain (OpenSpec.ofChange codeEncodesSpec)) codeEncodesCard

/-- THE TIED CARD OF 'stratumlaw07.CodeMakes'. -/
def codeMakesCard : Claim7 := { stood := { row := codeMakesRow, standIns := [], harness := (true, "e2b871cb80d376d5ad911841bd9010a48b66507fb14a0af13b36f9c6414ed1b0"), looks := true }, kinds := [], alts := [], laidByText := true, laidKinds := [.sentinel], laidTests := true, laidLooks := .later }
def CodeMakesCardSaid : Prop := Claim7.holds Tryd.pinned (.plain (OpenSpec.ofChange codeMakesSpec)) codeMakesCard

/-- THE TIED CARD OF 'stratumlaw07.CodeDecodes'. -/
def codeDecodesCard : Claim7 := { stood := { row := codeDecodesRow, standIns := [], harness := (true, "e2b871cb80d376d5ad911841bd9010a48b66507fb14a0af13b36f9c6414ed1b0"), looks := true }, kinds := [], alts := [], laidByText := true, laidKinds := [.sentinel], laidTests := true, laidLooks := .later }
def CodeDecodesCardSaid : Prop := Claim7.holds Tryd.pinned (.plain (OpenSpec.ofChange codeDecodesSpec)) codeDecodesCard

/-- THE TIED CARD OF 'stratumlaw07.CodeOnly'. -/
def codeOnlyCard : Claim7 := { stood := { row := codeOnlyRow, standIns := [], harness := (true, "e2b871cb80d376d5ad911841bd9010a48b66507fb14a0af13b36f9c6414ed1b0"), looks := true }, kinds := [], alts := [], laidByText := true, laidKinds := [.sentinel], laidTests := true, laidLooks := .later }
def CodeOnlyCardSaid : Prop := Claim7.holds Tryd.pinned (.plain (OpenSpec.ofChange codeOnlySpec)) codeOnlyCard

/-- THE TIED CARD OF 'stratumlaw07.CodeApart'. -/
def codeApartCard : Claim7 := { stood := { row := codeApartRow, standIns := [], harness := (true, "e2b871cb80d376d5ad911841bd9010a48b66507fb14a0af13b36f9c6414ed1b0"), looks := true }, kinds := [], alts := [], laidByText := true, laidKinds := [.sentinel], laidTests := true, laidLooks := .later }
def CodeApartCardSaid : Prop := Claim7.holds Tryd.pinned (.plain (OpenSpec.ofChange codeApartSpec)) codeApartCard

/-- THE TIED CARD OF 'stratumlaw07.CodeLong'. -/
def codeLongCard : Claim7 := { stood := { row := codeLongRow, standIns := [], harness := (true, "e2b871cb80d376d5ad911841bd9010a48b66507fb14a0af13b36f9c6414ed1b0"), looks := true }, kinds := [], alts := [], laidByText := true, laidKinds := [.sentinel], laidTests := true, laidLooks := .later }
def CodeLongCardSaid : Prop := Claim7.holds Tryd.pinned (.plain (OpenSpec.ofChange codeLongSpec)) codeLongCard

/-- THE TIED CARD OF 'stratumlaw16.MsgEncodes'. -/
def msgEncodesCard : Claim7 := { stood := { row := msgEncodesRow, standIns := [], harness := (true, "e2b871cb80d376d5ad911841bd9010a48b66507fb14a0af13b36f9c6414ed1b0"), looks := true }, kinds := [], alts := [], laidByText := true, laidKinds := [.sentinel], laidTests := true, laidLooks := .later }
def MsgEncodesCardSaid : Prop := Claim7.holds Tryd.pinned (.plain (OpenSpec.ofChange msgEncodesSpec)) msgEncodesCard

/-- THE TIED CARD OF 'stratumlaw16.MsgDecodes'. -/
def msgDecodesCard : Claim7 := { stood := { row := msgDecodesRow, standIns := [], harness := (true, "e2b871cb80d376d5ad911841bd9010a48b66507fb14a0af13b36f9c6414ed1b0"), looks := true }, kinds := [], alts := [], laidByText := true, laidKinds := [.sentinel], laidTests := true, laidLooks := .later }
def MsgDecodesCardSaid : Prop := Claim7.holds Tryd.pinned (.plain (OpenSpec.ofChange msgDecodesSpec)) msgDecodesCard

/-- THE TIED CARD OF 'stratumlaw16.MsgBack'. -/
def msgBackCard : Claim7 := { stood := { row := msgBackRow, standIns := [], harness := (true, "e2b871cb80d376d5ad911841bd9010a48b66507fb14a0af13b36f9c6414ed1b0"), looks := true }, kinds := [], alts := [], laidByText := true, laidKinds := [.sentinel], laidTests := true, laidLooks := .later }
def MsgBackCardSaid : Prop := Claim7.holds Tryd.pinned (.plain (OpenSpec.ofChange msgBackSpec)) msgBackCard

/-- THE TIED CARD OF 'stratumlaw16.MsgOnly'. -/
def msgOnlyCard : Claim7 := { stood := { row := msgOnlyRow, standIns := [], harness := (true, "e2b871cb80d376d5ad911841bd9010a48b66507fb14a0af13b36f9c6414ed1b0"), looks := true }, kinds := [], alts := [], laidByText := true, laidKinds := [.sentinel], laidTests := true, laidLooks := .later }
def MsgOnlyCardSaid : Prop := Claim7.holds Tryd.pinned (.plain (OpenSpec.ofChange msgOnlySpec)) msgOnlyCard

/-- THE TIED CARD OF 'stratumlaw16.MsgApart'. -/
def msgApartCard : Claim7 := { stood := { row := msgApartRow, standIns := [], harness := (true, "e2b871cb80d376d5ad911841bd9010a48b66507fb14a0af13b36f9c6414ed1b0"), looks := true }, kinds := [], alts := [], laidByText := true, laidKinds := [.sentinel], laidTests := true, laidLooks := .later }
def MsgApartCardSaid : Prop := Claim7.holds Tryd.pinned (.plain (OpenSpec.ofChange msgApartSpec)) msgApartCard

/-- THE TIED CARD OF 'stratumlaw16.MsgKinds'. -/
def msgKindsCard : Claim7 := { stood := { row := msgKindsRow, standIns := [], harness := (true, "e2b871cb80d376d5ad911841bd9010a48b66507fb14a0af13b36f9c6414ed1b0"), looks := true }, kinds := [], alts := [], laidByText := true, laidKinds := [.sentinel], laidTests := true, laidLooks := .later }
def MsgKindsCardSaid : Prop := Claim7.holds Tryd.pinned (.plain (OpenSpec.ofChange msgKindsSpec)) msgKindsCard

/-- THE TIED CARD OF 'stratumlaw11.WalRoom'. -/
def walRoomCard : Claim7 := { stood := { row := walRoomRow, standIns := [], harness := (true, "e2b871cb80d376d5ad911841bd9010a48b66507fb14a0af13b36f9c6414ed1b0"), looks := true }, kinds := [], alts := [], laidByText := true, laidKinds := [.sentinel], laidTests := true, laidLooks := .later }
def WalRoomCardSaid : Prop := Claim7.holds Tryd.pinned (.plain (OpenSpec.ofChange walRoomSpec)) walRoomCard

/-- THE TIED CARD OF 'stratumlaw11.WalFronts'. -/
def walFrontsCard : Claim7 := { stood := { row := walFrontsRow, standIns := [], harness := (true, "e2b871cb80d376d5ad911841bd9010a48b66507fb14a0af13b36f9c6414ed1b0"), looks := true }, kinds := [], alts := [], laidByText := true, laidKinds := [.sentinel], laidTests := true, laidLooks := .later }
def WalFrontsCardSaid : Prop := Claim7.holds Tryd.pinned (.plain (OpenSpec.ofChange walFrontsSpec)) walFrontsCard

/-- THE TIED CARD OF 'stratumlaw11.WalLasts'. -/
def walLastsCard : Claim7 := { stood := { row := walLastsRow, standIns := [], harness := (true, "e2b871cb80d376d5ad911841bd9010a48b66507fb14a0af13b36f9c6414ed1b0"), looks := true }, kinds := [], alts := [], laidByText := true, laidKinds := [.sentinel], laidTests := true, laidLooks := .later }
def WalLastsCardSaid : Prop := Claim7.holds Tryd.pinned (.plain (OpenSpec.ofChange walLastsSpec)) walLastsCard

/-- THE SECOND FORM's CARD OF 'stratumlaw10.DiskLasts'. -/
def diskLastsUptoCard : Claim7 := { stood := { row := diskLastsUptoRow, standIns := [], harness := (true, "e2b871cb80d376d5ad911841bd9010a48b66507fb14a0af13b36f9c6414ed1b0"), looks := true }, kinds := [], alts := [], laidByText := true, laidKinds := [.sentinel], laidTests := true, laidLooks := .later }
def DiskLastsUptoCardSaid : Prop := Claim7.holds Tryd.pinned (.plain (OpenSpec.upto diskLastsSpec)) diskLastsUptoCard

/-- THE SECOND FORM's CARD OF 'stratumlaw10.DiskRoom'. -/
def diskRoomUptoCard : Claim7 := { stood := { row := diskRoomUptoRow, standIns := [], harness := (true, "e2b871cb80d376d5ad911841bd9010a48b66507fb14a0af13b36f9c6414ed1b0"), looks := true }, kinds := [], alts := [], laidByText := true, laidKinds := [.sentinel], laidTests := true, laidLooks := .later }
def DiskRoomUptoCardSaid : Prop := Claim7.holds Tryd.pinned (.plain (OpenSpec.upto diskRoomSpec)) diskRoomUptoCard

/-- THE SECOND FORM's CARD OF 'stratumlaw10.DiskCalls'. -/
def diskCallsUptoCard : Claim7 := { stood := { row := diskCallsUptoRow, standIns := [], harness := (true, "e2b871cb80d376d5ad911841bd9010a48b66507fb14a0af13b36f9c6414ed1b0"), looks := true }, kinds := [], alts := [], laidByText := true, laidKinds := [.sentinel], laidTests := true, laidLooks := .later }
def DiskCallsUptoCardSaid : Prop := Claim7.holds Tryd.pinned (.plain (OpenSpec.upto diskCallsSpec)) diskCallsUptoCard

/-- THE SECOND FORM's CARD OF 'stratumlaw10.DiskCuts'. -/
def diskCutsUptoCard : Claim7 := { stood := { row := diskCutsUptoRow, standIns := [], harness := (true, "e2b871cb80d376d5ad911841bd9010a48b66507fb14a0af13b36f9c6414ed1b0"), looks := true }, kinds := [], alts := [], laidByText := true, laidKinds := [.sentinel], laidTests := true, laidLooks := .later }
def DiskCutsUptoCardSaid : Prop := Claim7.holds Tryd.pinned (.plain (OpenSpec.upto diskCutsSpec)) diskCutsUptoCard

/-- THE SECOND FORM's CARD OF 'stratumlaw10.DiskDoes'. -/
def diskDoesUptoCard : Claim7 := { stood := { row := diskDoesUptoRow, standIns := [], harness := (true, "e2b871cb80d376d5ad911841bd9010a48b66507fb14a0af13b36f9c6414ed1b0"), looks := true }, kinds := [], alts := [], laidByText := true, laidKinds := [.sentinel], laidTests := true, laidLooks := .later }
def DiskDoesUptoCardSaid : Prop := Claim7.holds Tryd.pinned (.plain (OpenSpec.upto diskDoesSpec)) diskDoesUptoCard

/-- THE SECOND FORM's CARD OF 'stratumlaw10.DiskHalts'. -/
def diskHaltsUptoCard : Claim7 := { stood := { row := diskHaltsUptoRow, standIns := [], harness := (true, "e2b871cb80d376d5ad911841bd9010a48b66507fb14a0af13b36f9c6414ed1b0"), looks := true }, kinds := [], alts := [], laidByText := true, laidKinds := [.sentinel], laidTests := true, laidLooks := .later }
def DiskHaltsUptoCardSaid : Prop := Claim7.holds Tryd.pinned (.plain (OpenSpec.upto diskHaltsSpec)) diskHaltsUptoCard

/-- THE SECOND FORM's CARD OF 'stratumlaw07.CodeEncodes'. -/
def codeEncodesUptoCard : Claim7 := { stood := { row := codeEncodesUptoRow, standIns := [], harness := (true, "e2b871cb80d376d5ad911841bd9010a48b66507fb14a0af13b36f9c6414ed1b0"), looks := true }, kinds := [], alts := [], laidByText := true, laidKinds := [.sentinel], laidTests := true, laidLooks := .later }
def CodeEncodesUptoCardSaid : Prop := Claim7.holds Tryd.pinned (.plain (OpenSpec.upto codeEncodesSpec)) codeEncodesUptoCard

/-- THE SECOND FORM's CARD OF 'stratumlaw07.CodeMakes'. -/
def codeMakesUptoCard : Claim7 := { stood := { row := codeMakesUptoRow, standIns := [], harness := (true, "e2b871cb80d376d5ad911841bd9010a48b66507fb14a0af13b36f9c6414ed1b0"), looks := true }, kinds := [], alts := [], laidByText := true, laidKinds := [.sentinel], laidTests := true, laidLooks := .later }
def CodeMakesUptoCardSaid : Prop := Claim7.holds Tryd.pinned (.plain (OpenSpec.upto codeMakesSpec)) codeMakesUptoCard

/-- THE SECOND FORM's CARD OF 'stratumlaw07.CodeDecodes'. -/
def codeDecodesUptoCard : Claim7 := { stood := { row := codeDecodesUptoRow, standIns := [], harness := (true, "e2b871cb80d376d5ad911841bd9010a48b66507fb14a0af13b36f9c6414ed1b0"), looks := true }, kinds := [], alts := [], laidByText := true, laidKinds := [.sentinel], laidTests := true, laidLooks := .later }
def CodeDecodesUptoCardSaid : Prop := Claim7.holds Tryd.pinned (.plain (OpenSpec.upto codeDecodesSpec)) codeDecodesUptoCard

/-- THE SECOND FORM's CARD OF 'stratumlaw07.CodeOnly'. -/
def codeOnlyUptoCard : Claim7 := { stood := { row := codeOnlyUptoRow, standIns := [], harness := (true, "e2b871cb80d376d5ad911841bd9010a48b66507fb14a0af13b36f9c6414ed1b0"), looks := true }, kinds := [], alts := [], laidByText := true, laidKinds := [.sentinel], laidTests := true, laidLooks := .later }
def CodeOnlyUptoCardSaid : Prop := Claim7.holds Tryd.pinned (.plain (OpenSpec.upto codeOnlySpec)) codeOnlyUptoCard

/-- THE SECOND FORM's CARD OF 'stratumlaw07.CodeApart'. -/
def codeApartUptoCard : Claim7 := { stood := { row := codeApartUptoRow, standIns := [], harness := (true, "e2b871cb80d376d5ad911841bd9010a48b66507fb14a0af13b36f9c6414ed1b0"), looks := true }, kinds := [], alts := [], laidByText := true, laidKinds := [.sentinel], laidTests := true, laidLooks := .later }
def CodeApartUptoCardSaid : Prop := Claim7.holds Tryd.pinned (.plain (OpenSpec.upto codeApartSpec)) codeApartUptoCard

/-- THE SECOND FORM's CARD OF 'stratumlaw07.CodeLong'. -/
def codeLongUptoCard : Claim7 := { stood := { row := codeLongUptoRow, standIns := [], harness := (true, "e2b871cb80d376d5ad911841bd9010a48b66507fb14a0af13b36f9c6414ed1b0"), looks := true }, kinds := [], alts := [], laidByText := true, laidKinds := [.sentinel], laidTests := true, laidLooks := .later }
def CodeLongUptoCardSaid : Prop := Claim7.holds Tryd.pinned (.plain (OpenSpec.upto codeLongSpec)) codeLongUptoCard

/-- THE SECOND FORM's CARD OF 'stratumlaw16.MsgEncodes'. -/
def msgEncodesUptoCard : Claim7 := { stood := { row := msgEncodesUptoRow, standIns := [], harness := (true, "e2b871cb80d376d5ad911841bd9010a48b66507fb14a0af13b36f9c6414ed1b0"), looks := true }, kinds := [], alts := [], laidByText := true, laidKinds := [.sentinel], laidTests := true, laidLooks := .later }
def MsgEncodesUptoCardSaid : Prop := Claim7.holds Tryd.pinned (.plain (OpenSpec.upto msgEncodesSpec)) msgEncodesUptoCard

/-- THE SECOND FORM's CARD OF 'stratumlaw16.MsgDecodes'. -/
def msgDecodesUptoCard : Claim7 := { stood := { row := msgDecodesUptoRow, standIns := [], harness := (true, "e2b871cb80d376d5ad911841bd9010a48b66507fb14a0af13b36f9c6414ed1b0"), looks := true }, kinds := [], alts := [], laidByText := true, laidKinds := [.sentinel], laidTests := true, laidLooks := .later }
def MsgDecodesUptoCardSaid : Prop := Claim7.holds Tryd.pinned (.plain (OpenSpec.upto msgDecodesSpec)) msgDecodesUptoCard

/-- THE SECOND FORM's CARD OF 'stratumlaw16.MsgBack'. -/
def msgBackUptoCard : Claim7 := { stood := { row := msgBackUptoRow, standIns := [], harness := (true, "e2b871cb80d376d5ad911841bd9010a48b66507fb14a0af13b36f9c6414ed1b0"), looks := true }, kinds := [], alts := [], laidByText := true, laidKinds := [.sentinel], laidTests := true, laidLooks := .later }
def MsgBackUptoCardSaid : Prop := Claim7.holds Tryd.pinned (.plain (OpenSpec.upto msgBackSpec)) msgBackUptoCard

/-- THE SECOND FORM's CARD OF 'stratumlaw16.MsgOnly'. -/
def msgOnlyUptoCard : Claim7 := { stood := { row := msgOnlyUptoRow, standIns := [], harness := (true, "e2b871cb80d376d5ad911841bd9010a48b66507fb14a0af13b36f9c6414ed1b0"), looks := true }, kinds := [], alts := [], laidByText := true, laidKinds := [.sentinel], laidTests := true, laidLooks := .later }
def MsgOnlyUptoCardSaid : Prop := Claim7.holds Tryd.pinned (.plain (OpenSpec.upto msgOnlySpec)) msgOnlyUptoCard

/-- THE SECOND FORM's CARD OF 'stratumlaw16.MsgApart'. -/
def msgApartUptoCard : Claim7 := { stood := { row := msgApartUptoRow, standIns := [], harness := (true, "e2b871cb80d376d5ad911841bd9010a48b66507fb14a0af13b36f9c6414ed1b0"), looks := true }, kinds := [], alts := [], laidByText := true, laidKinds := [.sentinel], laidTests := true, laidLooks := .later }
def MsgApartUptoCardSaid : Prop := Claim7.holds Tryd.pinned (.plain (OpenSpec.upto msgApartSpec)) msgApartUptoCard

/-- THE SECOND FORM's CARD OF 'stratumlaw16.MsgKinds'. -/
def msgKindsUptoCard : Claim7 := { stood := { row := msgKindsUptoRow, standIns := [], harness := (true, "e2b871cb80d376d5ad911841bd9010a48b66507fb14a0af13b36f9c6414ed1b0"), looks := true }, kinds := [], alts := [], laidByText := true, laidKinds := [.sentinel], laidTests := true, laidLooks := .later }
def MsgKindsUptoCardSaid : Prop := Claim7.holds Tryd.pinned (.plain (OpenSpec.upto msgKindsSpec)) msgKindsUptoCard

/-- THE SECOND FORM's CARD OF 'stratumlaw11.WalRoom'. -/
def walRoomUptoCard : Claim7 := { stood := { row := walRoomUptoRow, standIns := [], harness := (true, "e2b871cb80d376d5ad911841bd9010a48b66507fb14a0af13b36f9c6414ed1b0"), looks := true }, kinds := [], alts := [], laidByText := true, laidKinds := [.sentinel], laidTests := true, laidLooks := .later }
def WalRoomUptoCardSaid : Prop := Claim7.holds Tryd.pinned (.plain (OpenSpec.upto walRoomSpec)) walRoomUptoCard

/-- THE SECOND FORM's CARD OF 'stratumlaw11.WalFronts'. -/
def walFrontsUptoCard : Claim7 := { stood := { row := walFrontsUptoRow, standIns := [], harness := (true, "e2b871cb80d376d5ad911841bd9010a48b66507fb14a0af13b36f9c6414ed1b0"), looks := true }, kinds := [], alts := [], laidByText := true, laidKinds := [.sentinel], laidTests := true, laidLooks := .later }
def WalFrontsUptoCardSaid : Prop := Claim7.holds Tryd.pinned (.plain (OpenSpec.upto walFrontsSpec)) walFrontsUptoCard

/-- THE SECOND FORM's CARD OF 'stratumlaw11.WalLasts'. -/
def walLastsUptoCard : Claim7 := { stood := { row := walLastsUptoRow, standIns := [], harness := (true, "e2b871cb80d376d5ad911841bd9010a48b66507fb14a0af13b36f9c6414ed1b0"), looks := true }, kinds := [], alts := [], laidByText := true, laidKinds := [.sentinel], laidTests := true, laidLooks := .later }
def WalLastsUptoCardSaid : Prop := Claim7.holds Tryd.pinned (.plain (OpenSpec.upto walLastsSpec)) walLastsUptoCard
end Rows
end Go.Proofs.YtbbhjceelghadaaDoor
