/-
  DERIVED. GIVEN WITH THE SEED: THE CARDS: each row of YtifajfjiloajfaaGreatDoorRows.lean that lists a variable, with what it lists TIED to the program's text (the seventh form; the later family's looks); each row that meets fmt, with fmt's text TOLD by the authors' own Lean function (tested against real Go, not proved from fmt's source: count such statements apart). THE CARD IS WHAT COUNTS. Prove the row's statement (the work); the ties are given (YtifajfjiloajfaaGreatDoorTie.lean); close each card by the builder's one call (the guide's Derived/Test/ToyasCard.lean, 'card_holds'). Laid BY PROGRAM, IN A SANDBOX (cutbox-door.mjs). By AI agents, Wed Nov 11 2026. No macro, syntax, notation, axiom, sorry.
-/
import Derived.Test.YtifajfjiloajfaaGreatDoorRows
import GoSem.ClaimSeven
namespace Go.Proofs.YtifajfjiloajfaaGreatDoor
namespace Rows

/-- THE TIED CARD OF 'keepsaketop.TopBus'. -/
def topBusCard : Claim7 := { stood := { row := topBusRow, standIns := [], harness := (true, "3e446597476afc26f7f89edef5a77fcca287e6e6aad990cf8e274abdc1c1b7a4"), looks := false }, kinds := [], alts := [], laidByText := true, laidKinds := [.data], laidTests := true, laidLooks := .later }
def TopBusCardSaid : Prop := Claim7.holds Tryz.pinned (.plain (OpenSpec.ofChange topBusSpec)) topBusCard

/-- THE SECOND FORM's CARD OF 'keepsaketop.TopBus'. -/
def topBusUptoCard : Claim7 := { stood := { row := topBusUptoRow, standIns := [], harness := (true, "3e446597476afc26f7f89edef5a77fcca287e6e6aad990cf8e274abdc1c1b7a4"), looks := false }, kinds := [], alts := [], laidByText := true, laidKinds := [.data], laidTests := true, laidLooks := .later }
def TopBusUptoCardSaid : Prop := Claim7.holds Tryz.pinned (.plain (OpenSpec.upto topBusSpec)) topBusUptoCard
end Rows
end Go.Proofs.YtifajfjiloajfaaGreatDoor
