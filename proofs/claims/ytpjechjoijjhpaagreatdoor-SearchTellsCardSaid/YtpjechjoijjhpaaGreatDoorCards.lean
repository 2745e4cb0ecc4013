/-
  DERIVED. GIVEN WITH THE SEED: THE CARDS: each row of YtpjechjoijjhpaaGreatDoorRows.lean that lists a variable, with what it lists TIED to the program's text (the seventh form; the later family's looks); each row that meets fmt, with fmt's text TOLD by the authors' own Lean function (tested against real Go, not proved from fmt's source: count such statements apart). THE CARD IS WHAT COUNTS. Prove the row's statement (the work); the ties are given (YtpjechjoijjhpaaGreatDoorTie.lean); close each card by the builder's one call (the guide's Derived/Test/ToyasCard.lean, 'card_holds'). Laid BY PROGRAM, IN A SANDBOX (cutbox-door.mjs). By AI agents, Wed Nov 11 2026. No macro, syntax, notation, axiom, sorry.
-/
import Derived.Test.YtpjechjoijjhpaaGreatDoorRows
import GoSem.ClaimSeven
namespace Go.Proofs.YtpjechjoijjhpaaGreatDoor
namespace Rows

/-- THE TIED CARD OF 'inquestlaw31.SearchTells'. -/
def searchTellsCard : Claim7 := { stood := { row := searchTellsRow, standIns := [], harness := (true, "1047271e990000cdc4c056f37fbca1a70ac2c207e3fa6a550f952cb85e9ad440"), looks := false }, kinds := [], alts := [], laidByText := true, laidKinds := [.data], laidTests := true, laidLooks := .later }
def SearchTellsCardSaid : Prop := Claim7.holds Tryz.pinned (.plain (OpenSpec.ofChange searchTellsSpec)) searchTellsCard

/-- THE SECOND FORM's CARD OF 'inquestlaw31.SearchTells'. -/
def searchTellsUptoCard : Claim7 := { stood := { row := searchTellsUptoRow, standIns := [], harness := (true, "1047271e990000cdc4c056f37fbca1a70ac2c207e3fa6a550f952cb85e9ad440"), looks := false }, kinds := [], alts := [], laidByText := true, laidKinds := [.data], laidTests := true, laidLooks := .later }
def SearchTellsUptoCardSaid : Prop := Claim7.holds Tryz.pinned (.plain (OpenSpec.upto searchTellsSpec)) searchTellsUptoCard
end Rows
end Go.Proofs.YtpjechjoijjhpaaGreatDoor
