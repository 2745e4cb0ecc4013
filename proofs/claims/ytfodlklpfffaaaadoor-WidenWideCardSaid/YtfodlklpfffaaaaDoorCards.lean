/-
  DERIVED. GIVEN WITH THE SEED: THE CARDS: each row of YtfodlklpfffaaaaDoorRows.lean that lists a variable, with what it lists TIED to the program's text (the seventh form; the later family's looks); each row that meets fmt, with fmt's text TOLD by the authors' own Lean function (tested against real Go, not proved from fmt's source: count such statements apart). THE CARD IS WHAT COUNTS. Prove the row's statement (the work); the ties are given (YtfodlklpfffaaaaDoorTie.lean); close each card by the builder's one call (the guide's Derived/Test/ToyasCard.lean, 'card_holds'). Laid BY PROGRAM, IN A SANDBOX (cutbox-door.mjs). By AI agents, Wed Nov 11 2026. No macro, syntax, notation, axiom, sorry.
-/
import Derived.Test.YtfodlklpfffaaaaDoorRows
import GoSem.ClaimSeven
namespace Go.Proofs.YtfodlklpfffaaaaDoor
namespace Rows

/-- THE TIED CARD OF 'inquestlaw30.WidenWide'. -/
def widenWideCard : Claim7 := { stood := { row := widenWideRow, standIns := [], harness := (true, "b4927048a1eec3b77e7e7b0a63ba7e1ed3822bf607db04eb5688b404e87499e2"), looks := false }, kinds := [], alts := [], laidByText := true, laidKinds := [.data], laidTests := true, laidLooks := .later }
def WidenWideCardSaid : Prop := Claim7.holds Tryd.pinned (.plain (OpenSpec.ofChange widenWideSpec)) widenWideCard

/-- THE SECOND FORM's CARD OF 'inquestlaw30.WidenWide'. -/
def widenWideUptoCard : Claim7 := { stood := { row := widenWideUptoRow, standIns := [], harness := (true, "b4927048a1eec3b77e7e7b0a63ba7e1ed3822bf607db04eb5688b404e87499e2"), looks := false }, kinds := [], alts := [], laidByText := true, laidKinds := [.data], laidTests := true, laidLooks := .later }
def WidenWideUptoCardSaid : Prop := Claim7.holds Tryd.pinned (.plain (OpenSpec.upto widenWideSpec)) widenWideUptoCard
end Rows
end Go.Proofs.YtfodlklpfffaaaaDoor
