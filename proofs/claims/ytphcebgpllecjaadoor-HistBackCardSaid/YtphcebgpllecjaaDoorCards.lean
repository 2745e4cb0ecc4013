/-
  DERIVED. GIVEN WITH THE SEED: THE CARDS: each row of YtphcebgpllecjaaDoorRows.lean that lists a variable, with what it lists TIED to the program's text (the seventh form; the later family's looks); each row that meets fmt, with fmt's text TOLD by the authors' own Lean function (tested against real Go, not proved from fmt's source: count such statements apart). THE CARD IS WHAT COUNTS. Prove the row's statement (the work); the ties are given (YtphcebgpllecjaaDoorTie.lean); close each card by the builder's one call (the guide's Derived/Test/ToyasCard.lean, 'card_holds'). Laid BY PROGRAM, IN A SANDBOX (cutbox-door.mjs). By AI agents, Wed Nov 11 2026. No macro, syntax, notation, axiom, sorry.
-/
import Derived.Test.YtphcebgpllecjaaDoorRows
import GoSem.ClaimSeven
namespace Go.Proofs.YtphcebgpllecjaaDoor
namespace Rows

/-- THE TIED CARD OF 'inquestlaw08.HistBack'. -/
def histBackCard : Claim7 := { stood := { row := histBackRow, standIns := [], harness := (true, "933f6c9056a38844fa0b79a43b83a0353e02b1256637b1455fcfd22ee878c74d"), looks := true }, kinds := [], alts := [], laidByText := true, laidKinds := [.data, .data, .data, .data, .data, .pinned], laidTests := true, laidLooks := .later }
def HistBackCardSaid : Prop := Claim7.holds Tryd.pinned (.plain (OpenSpec.ofChange histBackSpec)) histBackCard

/-- THE TIED CARD OF 'inquestlaw08.HistOnly'. -/
def histOnlyCard : Claim7 := { stood := { row := histOnlyRow, standIns := [], harness := (true, "933f6c9056a38844fa0b79a43b83a0353e02b1256637b1455fcfd22ee878c74d"), looks := true }, kinds := [], alts := [], laidByText := true, laidKinds := [.data, .data, .data, .data, .data, .pinned], laidTests := true, laidLooks := .later }
def HistOnlyCardSaid : Prop := Claim7.holds Tryd.pinned (.plain (OpenSpec.ofChange histOnlySpec)) histOnlyCard

/-- THE TIED CARD OF 'inquestlaw08.HistSteps'. -/
def histStepsCard : Claim7 := { stood := { row := histStepsRow, standIns := [], harness := (true, "933f6c9056a38844fa0b79a43b83a0353e02b1256637b1455fcfd22ee878c74d"), looks := true }, kinds := [], alts := [], laidByText := true, laidKinds := [.data, .data, .data, .data, .data, .pinned], laidTests := true, laidLooks := .later }
def HistStepsCardSaid : Prop := Claim7.holds Tryd.pinned (.plain (OpenSpec.ofChange histStepsSpec)) histStepsCard

/-- THE TIED CARD OF 'inquestlaw08.HistLess'. -/
def histLessCard : Claim7 := { stood := { row := histLessRow, standIns := [], harness := (true, "933f6c9056a38844fa0b79a43b83a0353e02b1256637b1455fcfd22ee878c74d"), looks := true }, kinds := [], alts := [], laidByText := true, laidKinds := [.data, .data, .data, .data, .data, .pinned], laidTests := true, laidLooks := .later }
def HistLessCardSaid : Prop := Claim7.holds Tryd.pinned (.plain (OpenSpec.ofChange histLessSpec)) histLessCard

/-- THE SECOND FORM's CARD OF 'inquestlaw08.HistBack'. -/
def histBackUptoCard : Claim7 := { stood := { row := histBackUptoRow, standIns := [], harness := (true, "933f6c9056a38844fa0b79a43b83a0353e02b1256637b1455fcfd22ee878c74d"), looks := true }, kinds := [], alts := [], laidByText := true, laidKinds := [.data, .data, .data, .data, .data, .pinned], laidTests := true, laidLooks := .later }
def HistBackUptoCardSaid : Prop := Claim7.holds Tryd.pinned (.plain (OpenSpec.upto histBackSpec)) histBackUptoCard

/-- THE SECOND FORM's CARD OF 'inquestlaw08.HistOnly'. -/
def histOnlyUptoCard : Claim7 := { stood := { row := histOnlyUptoRow, standIns := [], harness := (true, "933f6c9056a38844fa0b79a43b83a0353e02b1256637b1455fcfd22ee878c74d"), looks := true }, kinds := [], alts := [], laidByText := true, laidKinds := [.data, .data, .data, .data, .data, .pinned], laidTests := true, laidLooks := .later }
def HistOnlyUptoCardSaid : Prop := Claim7.holds Tryd.pinned (.plain (OpenSpec.upto histOnlySpec)) histOnlyUptoCard

/-- THE SECOND FORM's CARD OF 'inquestlaw08.HistSteps'. -/
def histStepsUptoCard : Claim7 := { stood := { row := histStepsUptoRow, standIns := [], harness := (true, "933f6c9056a38844fa0b79a43b83a0353e02b1256637b1455fcfd22ee878c74d"), looks := true }, kinds := [], alts := [], laidByText := true, laidKinds := [.data, .data, .data, .data, .data, .pinned], laidTests := true, laidLooks := .later }
def HistStepsUptoCardSaid : Prop := Claim7.holds Tryd.pinned (.plain (OpenSpec.upto histStepsSpec)) histStepsUptoCard

/-- THE SECOND FORM's CARD OF 'inquestlaw08.HistLess'. -/
def histLessUptoCard : Claim7 := { stood := { row := histLessUptoRow, standIns := [], harness := (true, "933f6c9056a38844fa0b79a43b83a0353e02b1256637b1455fcfd22ee878c74d"), looks := true }, kinds := [], alts := [], laidByText := true, laidKinds := [.data, .data, .data, .data, .data, .pinned], laidTests := true, laidLooks := .later }
def HistLessUptoCardSaid : Prop := Claim7.holds Tryd.pinned (.plain (OpenSpec.upto histLessSpec)) histLessUptoCard
end Rows
end Go.Proofs.YtphcebgpllecjaaDoor
