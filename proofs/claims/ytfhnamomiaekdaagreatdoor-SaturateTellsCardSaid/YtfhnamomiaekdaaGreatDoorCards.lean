/-
  DERIVED. GIVEN WITH THE SEED: THE CARDS: each row of YtfhnamomiaekdaaGreatDoorRows.lean that lists a variable, with what it lists TIED to the program's text (the seventh form; the later family's looks); each row that meets fmt, with fmt's text TOLD by the authors' own Lean function (tested against real Go, not proved from fmt's source: count such statements apart). THE CARD IS WHAT COUNTS. Prove the row's statement (the work); the ties are given (YtfhnamomiaekdaaGreatDoorTie.lean); close each card by the builder's one call (the guide's Derived/Test/ToyasCard.lean, 'card_holds'). Laid BY PROGRAM, IN A SANDBOX (cutbox-door.mjs). By AI agents, Wed Nov 11 2026. No macro, syntax, notation, axiom, sorry.
-/
import Derived.Test.YtfhnamomiaekdaaGreatDoorRows
import GoSem.ClaimSeven
namespace Go.Proofs.YtfhnamomiaekdaaGreatDoor
namespace Rows

/-- THE TIED CARD OF 'inquestlaw29.SaturateTells'. -/
def saturateTellsCard : Claim7 := { stood := { row := saturateTellsRow, standIns := [], harness := (true, "99b8dfe929b337ca48f36e4d9671b0f705fcd0e1df1d3ebf520cca97b86ba660"), looks := false }, kinds := [], alts := [], laidByText := true, laidKinds := [.data], laidTests := true, laidLooks := .later }
def SaturateTellsCardSaid : Prop := Claim7.holds Tryz.pinned (.plain (OpenSpec.ofChange saturateTellsSpec)) saturateTellsCard

/-- THE TIED CARD OF 'inquestlaw31.SearchTells'. -/
def searchTellsCard : Claim7 := { stood := { row := searchTellsRow, standIns := [], harness := (true, "99b8dfe929b337ca48f36e4d9671b0f705fcd0e1df1d3ebf520cca97b86ba660"), looks := false }, kinds := [], alts := [], laidByText := true, laidKinds := [.data], laidTests := true, laidLooks := .later }
def SearchTellsCardSaid : Prop := Claim7.holds Tryz.pinned (.plain (OpenSpec.ofChange searchTellsSpec)) searchTellsCard

/-- THE TIED CARD OF 'inquestlaw21.SiGraph'. -/
def siGraphCard : Claim7 := { stood := { row := siGraphRow, standIns := [], harness := (true, "99b8dfe929b337ca48f36e4d9671b0f705fcd0e1df1d3ebf520cca97b86ba660"), looks := false }, kinds := [], alts := [], laidByText := true, laidKinds := [.data], laidTests := true, laidLooks := .later }
def SiGraphCardSaid : Prop := Claim7.holds Tryz.pinned (.plain (OpenSpec.ofChange siGraphSpec)) siGraphCard

/-- THE TIED CARD OF 'inquestlaw30.WidenProves'. -/
def widenProvesCard : Claim7 := { stood := { row := widenProvesRow, standIns := [], harness := (true, "99b8dfe929b337ca48f36e4d9671b0f705fcd0e1df1d3ebf520cca97b86ba660"), looks := false }, kinds := [], alts := [], laidByText := true, laidKinds := [.data], laidTests := true, laidLooks := .later }
def WidenProvesCardSaid : Prop := Claim7.holds Tryz.pinned (.plain (OpenSpec.ofChange widenProvesSpec)) widenProvesCard

/-- THE TIED CARD OF 'inquestlaw28.ScreenProves'. -/
def screenProvesCard : Claim7 := { stood := { row := screenProvesRow, standIns := [], harness := (true, "99b8dfe929b337ca48f36e4d9671b0f705fcd0e1df1d3ebf520cca97b86ba660"), looks := false }, kinds := [], alts := [], laidByText := true, laidKinds := [.data], laidTests := true, laidLooks := .later }
def ScreenProvesCardSaid : Prop := Claim7.holds Tryz.pinned (.plain (OpenSpec.ofChange screenProvesSpec)) screenProvesCard

/-- THE TIED CARD OF 'inquestlaw29.SaturateProves'. -/
def saturateProvesCard : Claim7 := { stood := { row := saturateProvesRow, standIns := [], harness := (true, "99b8dfe929b337ca48f36e4d9671b0f705fcd0e1df1d3ebf520cca97b86ba660"), looks := false }, kinds := [], alts := [], laidByText := true, laidKinds := [.data], laidTests := true, laidLooks := .later }
def SaturateProvesCardSaid : Prop := Claim7.holds Tryz.pinned (.plain (OpenSpec.ofChange saturateProvesSpec)) saturateProvesCard

/-- THE TIED CARD OF 'inquestlaw31.SearchProves'. -/
def searchProvesCard : Claim7 := { stood := { row := searchProvesRow, standIns := [], harness := (true, "99b8dfe929b337ca48f36e4d9671b0f705fcd0e1df1d3ebf520cca97b86ba660"), looks := false }, kinds := [], alts := [], laidByText := true, laidKinds := [.data], laidTests := true, laidLooks := .later }
def SearchProvesCardSaid : Prop := Claim7.holds Tryz.pinned (.plain (OpenSpec.ofChange searchProvesSpec)) searchProvesCard

/-- THE SECOND FORM's CARD OF 'inquestlaw29.SaturateTells'. -/
def saturateTellsUptoCard : Claim7 := { stood := { row := saturateTellsUptoRow, standIns := [], harness := (true, "99b8dfe929b337ca48f36e4d9671b0f705fcd0e1df1d3ebf520cca97b86ba660"), looks := false }, kinds := [], alts := [], laidByText := true, laidKinds := [.data], laidTests := true, laidLooks := .later }
def SaturateTellsUptoCardSaid : Prop := Claim7.holds Tryz.pinned (.plain (OpenSpec.upto saturateTellsSpec)) saturateTellsUptoCard

/-- THE SECOND FORM's CARD OF 'inquestlaw31.SearchTells'. -/
def searchTellsUptoCard : Claim7 := { stood := { row := searchTellsUptoRow, standIns := [], harness := (true, "99b8dfe929b337ca48f36e4d9671b0f705fcd0e1df1d3ebf520cca97b86ba660"), looks := false }, kinds := [], alts := [], laidByText := true, laidKinds := [.data], laidTests := true, laidLooks := .later }
def SearchTellsUptoCardSaid : Prop := Claim7.holds Tryz.pinned (.plain (OpenSpec.upto searchTellsSpec)) searchTellsUptoCard

/-- THE SECOND FORM's CARD OF 'inquestlaw21.SiGraph'. -/
def siGraphUptoCard : Claim7 := { stood := { row := siGraphUptoRow, standIns := [], harness := (true, "99b8dfe929b337ca48f36e4d9671b0f705fcd0e1df1d3ebf520cca97b86ba660"), looks := false }, kinds := [], alts := [], laidByText := true, laidKinds := [.data], laidTests := true, laidLooks := .later }
def SiGraphUptoCardSaid : Prop := Claim7.holds Tryz.pinned (.plain (OpenSpec.upto siGraphSpec)) siGraphUptoCard

/-- THE SECOND FORM's CARD OF 'inquestlaw30.WidenProves'. -/
def widenProvesUptoCard : Claim7 := { stood := { row := widenProvesUptoRow, standIns := [], harness := (true, "99b8dfe929b337ca48f36e4d9671b0f705fcd0e1df1d3ebf520cca97b86ba660"), looks := false }, kinds := [], alts := [], laidByText := true, laidKinds := [.data], laidTests := true, laidLooks := .later }
def WidenProvesUptoCardSaid : Prop := Claim7.holds Tryz.pinned (.plain (OpenSpec.upto widenProvesSpec)) widenProvesUptoCard

/-- THE SECOND FORM's CARD OF 'inquestlaw28.ScreenProves'. -/
def screenProvesUptoCard : Claim7 := { stood := { row := screenProvesUptoRow, standIns := [], harness := (true, "99b8dfe929b337ca48f36e4d9671b0f705fcd0e1df1d3ebf520cca97b86ba660"), looks := false }, kinds := [], alts := [], laidByText := true, laidKinds := [.data], laidTests := true, laidLooks := .later }
def ScreenProvesUptoCardSaid : Prop := Claim7.holds Tryz.pinned (.plain (OpenSpec.upto screenProvesSpec)) screenProvesUptoCard

/-- THE SECOND FORM's CARD OF 'inquestlaw29.SaturateProves'. -/
def saturateProvesUptoCard : Claim7 := { stood := { row := saturateProvesUptoRow, standIns := [], harness := (true, "99b8dfe929b337ca48f36e4d9671b0f705fcd0e1df1d3ebf520cca97b86ba660"), looks := false }, kinds := [], alts := [], laidByText := true, laidKinds := [.data], laidTests := true, laidLooks := .later }
def SaturateProvesUptoCardSaid : Prop := Claim7.holds Tryz.pinned (.plain (OpenSpec.upto saturateProvesSpec)) saturateProvesUptoCard

/-- THE SECOND FORM's CARD OF 'inquestlaw31.SearchProves'. -/
def searchProvesUptoCard : Claim7 := { stood := { row := searchProvesUptoRow, standIns := [], harness := (true, "99b8dfe929b337ca48f36e4d9671b0f705fcd0e1df1d3ebf520cca97b86ba660"), looks := false }, kinds := [], alts := [], laidByText := true, laidKinds := [.data], laidTests := true, laidLooks := .later }
def SearchProvesUptoCardSaid : Prop := Claim7.holds Tryz.pinned (.plain (OpenSpec.upto searchProvesSpec)) searchProvesUptoCard
end Rows
end Go.Proofs.YtfhnamomiaekdaaGreatDoor
