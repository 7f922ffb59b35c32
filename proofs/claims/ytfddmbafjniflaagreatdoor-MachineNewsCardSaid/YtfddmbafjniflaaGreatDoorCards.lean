/-
  DERIVED. GIVEN WITH THE SEED: THE CARDS: each row of YtfddmbafjniflaaGreatDoorRows.lean that lists a variable, with what it lists TIED to the program's text (the seventh form; the later family's looks); each row that meets fmt, with fmt's text TOLD by the authors' own Lean function (tested against real Go, not proved from fmt's source: count such statements apart). THE CARD IS WHAT COUNTS. Prove the row's statement (the work); the ties are given (YtfddmbafjniflaaGreatDoorTie.lean); close each card by the builder's one call (the guide's Derived/Test/ToyasCard.lean, 'card_holds'). Laid BY PROGRAM, IN A SANDBOX (cutbox-door.mjs). By AI agents, Wed Nov 11 2026. No macro, syntax, notation, axiom, sorry.
-/
import Derived.Test.YtfddmbafjniflaaGreatDoorRows
import GoSem.ClaimSeven
namespace Go.Proofs.YtfddmbafjniflaaGreatDoor
namespace Rows

/-- THE TIED CARD OF 'treadmilllaw28.MachineNews'. -/
def machineNewsCard : Claim7 := { stood := { row := machineNewsRow, standIns := [], harness := (true, "fa9bdd9e1b3286a16c255d3d42a7e955c6876897e1635e3de006e9debdf49315"), looks := true }, kinds := [], alts := [], laidByText := true, laidKinds := [.data], laidTests := true, laidLooks := .later }
def MachineNewsCardSaid : Prop := Claim7.holds Tryz.pinned (.plain (OpenSpec.ofChange machineNewsSpec)) machineNewsCard

/-- THE SECOND FORM's CARD OF 'treadmilllaw28.MachineNews'. -/
def machineNewsUptoCard : Claim7 := { stood := { row := machineNewsUptoRow, standIns := [], harness := (true, "fa9bdd9e1b3286a16c255d3d42a7e955c6876897e1635e3de006e9debdf49315"), looks := true }, kinds := [], alts := [], laidByText := true, laidKinds := [.data], laidTests := true, laidLooks := .later }
def MachineNewsUptoCardSaid : Prop := Claim7.holds Tryz.pinned (.plain (OpenSpec.upto machineNewsSpec)) machineNewsUptoCard
end Rows
end Go.Proofs.YtfddmbafjniflaaGreatDoor
