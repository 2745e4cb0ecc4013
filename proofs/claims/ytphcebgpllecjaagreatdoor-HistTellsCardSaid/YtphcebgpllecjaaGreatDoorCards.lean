/-
  DERIVED. GIVEN WITH THE SEED: THE CARDS: each row of YtphcebgpllecjaaGreatDoorRows.lean that lists a variable, with what it lists TIED to the program's text (the seventh form; the later family's looks); each row that meets fmt, with fmt's text TOLD by the authors' own Lean function (tested against real Go, not proved from fmt's source: count such statements apart). THE CARD IS WHAT COUNTS. Prove the row's statement (the work); the ties are given (YtphcebgpllecjaaGreatDoorTie.lean); close each card by the builder's one call (the guide's Derived/Test/ToyasCard.lean, 'card_holds'). Laid BY PROGRAM, IN A SANDBOX (cutbox-door.mjs). By AI agents, Wed Nov 11 2026. No macro, syntax, notation, axiom, sorry.
-/
import Derived.Test.YtphcebgpllecjaaGreatDoorRows
import GoSem.ClaimSeven
namespace Go.Proofs.YtphcebgpllecjaaGreatDoor
namespace Rows

/-- THE TIED CARD OF 'inquestlaw08.HistTells'. -/
def histTellsCard : Claim7 := { stood := { row := histTellsRow, standIns := [], harness := (true, "8abeda030da7a96d80ee37ad2b734cb0dcf4cb027b7a34844469a74b1aa5a66c"), looks := true }, kinds := [], alts := [], laidByText := true, laidKinds := [.data, .data, .data, .data, .data, .pinned], laidTests := true, laidLooks := .later }
def HistTellsCardSaid : Prop := Claim7.holds Tryz.pinned (.plain (OpenSpec.ofChange histTellsSpec)) histTellsCard

/-- THE SECOND FORM's CARD OF 'inquestlaw08.HistTells'. -/
def histTellsUptoCard : Claim7 := { stood := { row := histTellsUptoRow, standIns := [], harness := (true, "8abeda030da7a96d80ee37ad2b734cb0dcf4cb027b7a34844469a74b1aa5a66c"), looks := true }, kinds := [], alts := [], laidByText := true, laidKinds := [.data, .data, .data, .data, .data, .pinned], laidTests := true, laidLooks := .later }
def HistTellsUptoCardSaid : Prop := Claim7.holds Tryz.pinned (.plain (OpenSpec.upto histTellsSpec)) histTellsUptoCard
end Rows
end Go.Proofs.YtphcebgpllecjaaGreatDoor
