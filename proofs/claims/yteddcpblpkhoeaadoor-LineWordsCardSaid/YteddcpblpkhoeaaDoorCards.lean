/-
  DERIVED. GIVEN WITH THE SEED: THE CARDS: each row of YteddcpblpkhoeaaDoorRows.lean that lists a variable, with what it lists TIED to the program's text (the seventh form; the later family's looks); each row that meets fmt, with fmt's text TOLD by the authors' own Lean function (tested against real Go, not proved from fmt's source: count such statements apart). THE CARD IS WHAT COUNTS. Prove the row's statement (the work); the ties are given (YteddcpblpkhoeaaDoorTie.lean); close each card by the builder's one call (the guide's Derived/Test/ToyasCard.lean, 'card_holds'). Laid BY PROGRAM, IN A SANDBOX (cutbox-door.mjs). By AI agents, Wed Nov 11 2026. No macro, syntax, notation, axiom, sorry.
-/
import Derived.Test.YteddcpblpkhoeaaDoorRows
import GoSem.ClaimSeven
namespace Go.Proofs.YteddcpblpkhoeaaDoor
namespace Rows

/-- THE TIED CARD OF 'inquestlaw02.LineTells'. -/
def lineTellsCard : Claim7 := { stood := { row := lineTellsRow, standIns := [], harness := (true, "a0e58ab874400d6c429865e33b5ea0151cc1460e1ffb8de999e880d7d25f3722"), looks := false }, kinds := [], alts := [], laidByText := true, laidKinds := [.data, .pinned], laidTests := true, laidLooks := .later }
def LineTellsCardSaid : Prop := Claim7.holds Tryd.pinned (.plain (OpenSpec.ofChange lineTellsSpec)) lineTellsCard

/-- THE TIED CARD OF 'inquestlaw02.LineBack'. -/
def lineBackCard : Claim7 := { stood := { row := lineBackRow, standIns := [], harness := (true, "a0e58ab874400d6c429865e33b5ea0151cc1460e1ffb8de999e880d7d25f3722"), looks := false }, kinds := [], alts := [], laidByText := true, laidKinds := [.data, .pinned], laidTests := true, laidLooks := .later }
def LineBackCardSaid : Prop := Claim7.holds Tryd.pinned (.plain (OpenSpec.ofChange lineBackSpec)) lineBackCard

/-- THE TIED CARD OF 'inquestlaw02.LineBoth'. -/
def lineBothCard : Claim7 := { stood := { row := lineBothRow, standIns := [], harness := (true, "a0e58ab874400d6c429865e33b5ea0151cc1460e1ffb8de999e880d7d25f3722"), looks := false }, kinds := [], alts := [], laidByText := true, laidKinds := [.data, .pinned], laidTests := true, laidLooks := .later }
def LineBothCardSaid : Prop := Claim7.holds Tryd.pinned (.plain (OpenSpec.ofChange lineBothSpec)) lineBothCard

/-- THE TIED CARD OF 'inquestlaw02.LineWords'. -/
def lineWordsCard : Claim7 := { stood := { row := lineWordsRow, standIns := [], harness := (true, "a0e58ab874400d6c429865e33b5ea0151cc1460e1ffb8de999e880d7d25f3722"), looks := false }, kinds := [], alts := [], laidByText := true, laidKinds := [.data, .pinned], laidTests := true, laidLooks := .later }
def LineWordsCardSaid : Prop := Claim7.holds Tryd.pinned (.plain (OpenSpec.ofChange lineWordsSpec)) lineWordsCard

/-- THE SECOND FORM's CARD OF 'inquestlaw02.LineTells'. -/
def lineTellsUptoCard : Claim7 := { stood := { row := lineTellsUptoRow, standIns := [], harness := (true, "a0e58ab874400d6c429865e33b5ea0151cc1460e1ffb8de999e880d7d25f3722"), looks := false }, kinds := [], alts := [], laidByText := true, laidKinds := [.data, .pinned], laidTests := true, laidLooks := .later }
def LineTellsUptoCardSaid : Prop := Claim7.holds Tryd.pinned (.plain (OpenSpec.upto lineTellsSpec)) lineTellsUptoCard

/-- THE SECOND FORM's CARD OF 'inquestlaw02.LineBack'. -/
def lineBackUptoCard : Claim7 := { stood := { row := lineBackUptoRow, standIns := [], harness := (true, "a0e58ab874400d6c429865e33b5ea0151cc1460e1ffb8de999e880d7d25f3722"), looks := false }, kinds := [], alts := [], laidByText := true, laidKinds := [.data, .pinned], laidTests := true, laidLooks := .later }
def LineBackUptoCardSaid : Prop := Claim7.holds Tryd.pinned (.plain (OpenSpec.upto lineBackSpec)) lineBackUptoCard

/-- THE SECOND FORM's CARD OF 'inquestlaw02.LineBoth'. -/
def lineBothUptoCard : Claim7 := { stood := { row := lineBothUptoRow, standIns := [], harness := (true, "a0e58ab874400d6c429865e33b5ea0151cc1460e1ffb8de999e880d7d25f3722"), looks := false }, kinds := [], alts := [], laidByText := true, laidKinds := [.data, .pinned], laidTests := true, laidLooks := .later }
def LineBothUptoCardSaid : Prop := Claim7.holds Tryd.pinned (.plain (OpenSpec.upto lineBothSpec)) lineBothUptoCard

/-- THE SECOND FORM's CARD OF 'inquestlaw02.LineWords'. -/
def lineWordsUptoCard : Claim7 := { stood := { row := lineWordsUptoRow, standIns := [], harness := (true, "a0e58ab874400d6c429865e33b5ea0151cc1460e1ffb8de999e880d7d25f3722"), looks := false }, kinds := [], alts := [], laidByText := true, laidKinds := [.data, .pinned], laidTests := true, laidLooks := .later }
def LineWordsUptoCardSaid : Prop := Claim7.holds Tryd.pinned (.plain (OpenSpec.upto lineWordsSpec)) lineWordsUptoCard
end Rows
end Go.Proofs.YteddcpblpkhoeaaDoor
