/-
  DERIVED. GIVEN WITH THE SEED: THE CARDS: each row of YtgfkgppomaapiaaGreatDoorRows.lean that lists a variable, with what it lists TIED to the program's text (the seventh form; the later family's looks); each row that meets fmt, with fmt's text TOLD by the authors' own Lean function (tested against real Go, not proved from fmt's source: count such statements apart). THE CARD IS WHAT COUNTS. Prove the row's statement (the work); the ties are given (YtgfkgppomaapiaaGreatDoorTie.lean); close each card by the builder's one call (the guide's Derived/Test/ToyasCard.lean, 'card_holds'). Laid BY PROGRAM, IN A SANDBOX (cutbox-door.mjs). By AI agents, Wed Nov 11 2026. No macro, syntax, notation, axiom, sorry.
-/
import Derived.Test.YtgfkgppomaapiaaGreatDoorRows
import GoSem.ClaimSeven
namespace Go.Proofs.YtgfkgppomaapiaaGreatDoor
namespace Rows

/-- THE TIED CARD OF 'stratumlaw11.WalOpens'. -/
def walOpensCard : Claim7 := { stood := { row := walOpensRow, standIns := [], harness := (true, "30f2f287bb75d5f4011473c21ca03f2489bb774e39b654cc49033bb5c1ae7284"), looks := true }, kinds := [], alts := [], laidByText := true, laidKinds := [.sentinel], laidTests := true, laidLooks := .later }
def WalOpensCardSaid : Prop := Claim7.holds Tryz.pinned (.plain (OpenSpec.ofChange walOpensSpec)) walOpensCard

/-- THE TIED CARD OF 'stratumlaw11.WalDoes'. -/
def walDoesCard : Claim7 := { stood := { row := walDoesRow, standIns := [], harness := (true, "30f2f287bb75d5f4011473c21ca03f2489bb774e39b654cc49033bb5c1ae7284"), looks := true }, kinds := [], alts := [], laidByText := true, laidKinds := [.sentinel], laidTests := true, laidLooks := .later }
def WalDoesCardSaid : Prop := Claim7.holds Tryz.pinned (.plain (OpenSpec.ofChange walDoesSpec)) walDoesCard

/-- THE SECOND FORM's CARD OF 'stratumlaw11.WalOpens'. -/
def walOpensUptoCard : Claim7 := { stood := { row := walOpensUptoRow, standIns := [], harness := (true, "30f2f287bb75d5f4011473c21ca03f2489bb774e39b654cc49033bb5c1ae7284"), looks := true }, kinds := [], alts := [], laidByText := true, laidKinds := [.sentinel], laidTests := true, laidLooks := .later }
def WalOpensUptoCardSaid : Prop := Claim7.holds Tryz.pinned (.plain (OpenSpec.upto walOpensSpec)) walOpensUptoCard

/-- THE SECOND FORM's CARD OF 'stratumlaw11.WalDoes'. -/
def walDoesUptoCard : Claim7 := { stood := { row := walDoesUptoRow, standIns := [], harness := (true, "30f2f287bb75d5f4011473c21ca03f2489bb774e39b654cc49033bb5c1ae7284"), looks := true }, kinds := [], alts := [], laidByText := true, laidKinds := [.sentinel], laidTests := true, laidLooks := .later }
def WalDoesUptoCardSaid : Prop := Claim7.holds Tryz.pinned (.plain (OpenSpec.upto walDoesSpec)) walDoesUptoCard
end Rows
end Go.Proofs.YtgfkgppomaapiaaGreatDoor
