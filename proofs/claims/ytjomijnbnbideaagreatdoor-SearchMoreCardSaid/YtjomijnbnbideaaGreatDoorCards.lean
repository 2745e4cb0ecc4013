/-
  DERIVED. GIVEN WITH THE SEED: THE CARDS: each row of YtjomijnbnbideaaGreatDoorRows.lean that lists a variable, with what it lists TIED to the program's text (the seventh form; the later family's looks); each row that meets fmt, with fmt's text TOLD by the authors' own Lean function (tested against real Go, not proved from fmt's source: count such statements apart). THE CARD IS WHAT COUNTS. Prove the row's statement (the work); the ties are given (YtjomijnbnbideaaGreatDoorTie.lean); close each card by the builder's one call (the guide's Derived/Test/ToyasCard.lean, 'card_holds'). Laid BY PROGRAM, IN A SANDBOX (cutbox-door.mjs). By AI agents, Wed Nov 11 2026. No macro, syntax, notation, axiom, sorry.
-/
import Derived.Test.YtjomijnbnbideaaGreatDoorRows
import GoSem.ClaimSeven
namespace Go.Proofs.YtjomijnbnbideaaGreatDoor
namespace Rows

/-- THE TIED CARD OF 'inquestlaw30.WidenEnds'. -/
def widenEndsCard : Claim7 := { stood := { row := widenEndsRow, standIns := [], harness := (true, "b0efe9e99674400e280ea1a23a13eec5d1b686fa42771ae2dadb0efcfea19ec7"), looks := false }, kinds := [], alts := [], laidByText := true, laidKinds := [.data], laidTests := true, laidLooks := .later }
def WidenEndsCardSaid : Prop := Claim7.holds Tryz.pinned (.plain (OpenSpec.ofChange widenEndsSpec)) widenEndsCard

/-- THE TIED CARD OF 'inquestlaw28.ScreenTells'. -/
def screenTellsCard : Claim7 := { stood := { row := screenTellsRow, standIns := [], harness := (true, "b0efe9e99674400e280ea1a23a13eec5d1b686fa42771ae2dadb0efcfea19ec7"), looks := false }, kinds := [], alts := [], laidByText := true, laidKinds := [.data], laidTests := true, laidLooks := .later }
def ScreenTellsCardSaid : Prop := Claim7.holds Tryz.pinned (.plain (OpenSpec.ofChange screenTellsSpec)) screenTellsCard

/-- THE TIED CARD OF 'inquestlaw28.ScreenAll'. -/
def screenAllCard : Claim7 := { stood := { row := screenAllRow, standIns := [], harness := (true, "b0efe9e99674400e280ea1a23a13eec5d1b686fa42771ae2dadb0efcfea19ec7"), looks := false }, kinds := [], alts := [], laidByText := true, laidKinds := [.data], laidTests := true, laidLooks := .later }
def ScreenAllCardSaid : Prop := Claim7.holds Tryz.pinned (.plain (OpenSpec.ofChange screenAllSpec)) screenAllCard

/-- THE TIED CARD OF 'inquestlaw28.ScreenTrue'. -/
def screenTrueCard : Claim7 := { stood := { row := screenTrueRow, standIns := [], harness := (true, "b0efe9e99674400e280ea1a23a13eec5d1b686fa42771ae2dadb0efcfea19ec7"), looks := false }, kinds := [], alts := [], laidByText := true, laidKinds := [.data], laidTests := true, laidLooks := .later }
def ScreenTrueCardSaid : Prop := Claim7.holds Tryz.pinned (.plain (OpenSpec.ofChange screenTrueSpec)) screenTrueCard

/-- THE TIED CARD OF 'inquestlaw28.ScreenSays'. -/
def screenSaysCard : Claim7 := { stood := { row := screenSaysRow, standIns := [], harness := (true, "b0efe9e99674400e280ea1a23a13eec5d1b686fa42771ae2dadb0efcfea19ec7"), looks := false }, kinds := [], alts := [], laidByText := true, laidKinds := [.data], laidTests := true, laidLooks := .later }
def ScreenSaysCardSaid : Prop := Claim7.holds Tryz.pinned (.plain (OpenSpec.ofChange screenSaysSpec)) screenSaysCard

/-- THE TIED CARD OF 'inquestlaw29.SaturateTells'. -/
def saturateTellsCard : Claim7 := { stood := { row := saturateTellsRow, standIns := [], harness := (true, "b0efe9e99674400e280ea1a23a13eec5d1b686fa42771ae2dadb0efcfea19ec7"), looks := false }, kinds := [], alts := [], laidByText := true, laidKinds := [.data], laidTests := true, laidLooks := .later }
def SaturateTellsCardSaid : Prop := Claim7.holds Tryz.pinned (.plain (OpenSpec.ofChange saturateTellsSpec)) saturateTellsCard

/-- THE TIED CARD OF 'inquestlaw29.SaturateEnds'. -/
def saturateEndsCard : Claim7 := { stood := { row := saturateEndsRow, standIns := [], harness := (true, "b0efe9e99674400e280ea1a23a13eec5d1b686fa42771ae2dadb0efcfea19ec7"), looks := false }, kinds := [], alts := [], laidByText := true, laidKinds := [.data], laidTests := true, laidLooks := .later }
def SaturateEndsCardSaid : Prop := Claim7.holds Tryz.pinned (.plain (OpenSpec.ofChange saturateEndsSpec)) saturateEndsCard

/-- THE TIED CARD OF 'inquestlaw29.SaturateTrue'. -/
def saturateTrueCard : Claim7 := { stood := { row := saturateTrueRow, standIns := [], harness := (true, "b0efe9e99674400e280ea1a23a13eec5d1b686fa42771ae2dadb0efcfea19ec7"), looks := false }, kinds := [], alts := [], laidByText := true, laidKinds := [.data], laidTests := true, laidLooks := .later }
def SaturateTrueCardSaid : Prop := Claim7.holds Tryz.pinned (.plain (OpenSpec.ofChange saturateTrueSpec)) saturateTrueCard

/-- THE TIED CARD OF 'inquestlaw31.SearchTells'. -/
def searchTellsCard : Claim7 := { stood := { row := searchTellsRow, standIns := [], harness := (true, "b0efe9e99674400e280ea1a23a13eec5d1b686fa42771ae2dadb0efcfea19ec7"), looks := false }, kinds := [], alts := [], laidByText := true, laidKinds := [.data], laidTests := true, laidLooks := .later }
def SearchTellsCardSaid : Prop := Claim7.holds Tryz.pinned (.plain (OpenSpec.ofChange searchTellsSpec)) searchTellsCard

/-- THE TIED CARD OF 'inquestlaw31.SearchEnds'. -/
def searchEndsCard : Claim7 := { stood := { row := searchEndsRow, standIns := [], harness := (true, "b0efe9e99674400e280ea1a23a13eec5d1b686fa42771ae2dadb0efcfea19ec7"), looks := false }, kinds := [], alts := [], laidByText := true, laidKinds := [.data], laidTests := true, laidLooks := .later }
def SearchEndsCardSaid : Prop := Claim7.holds Tryz.pinned (.plain (OpenSpec.ofChange searchEndsSpec)) searchEndsCard

/-- THE TIED CARD OF 'inquestlaw31.SearchMore'. -/
def searchMoreCard : Claim7 := { stood := { row := searchMoreRow, standIns := [], harness := (true, "b0efe9e99674400e280ea1a23a13eec5d1b686fa42771ae2dadb0efcfea19ec7"), looks := false }, kinds := [], alts := [], laidByText := true, laidKinds := [.data], laidTests := true, laidLooks := .later }
def SearchMoreCardSaid : Prop := Claim7.holds Tryz.pinned (.plain (OpenSpec.ofChange searchMoreSpec)) searchMoreCard

/-- THE SECOND FORM's CARD OF 'inquestlaw30.WidenEnds'. -/
def widenEndsUptoCard : Claim7 := { stood := { row := widenEndsUptoRow, standIns := [], harness := (true, "b0efe9e99674400e280ea1a23a13eec5d1b686fa42771ae2dadb0efcfea19ec7"), looks := false }, kinds := [], alts := [], laidByText := true, laidKinds := [.data], laidTests := true, laidLooks := .later }
def WidenEndsUptoCardSaid : Prop := Claim7.holds Tryz.pinned (.plain (OpenSpec.upto widenEndsSpec)) widenEndsUptoCard

/-- THE SECOND FORM's CARD OF 'inquestlaw28.ScreenTells'. -/
def screenTellsUptoCard : Claim7 := { stood := { row := screenTellsUptoRow, standIns := [], harness := (true, "b0efe9e99674400e280ea1a23a13eec5d1b686fa42771ae2dadb0efcfea19ec7"), looks := false }, kinds := [], alts := [], laidByText := true, laidKinds := [.data], laidTests := true, laidLooks := .later }
def ScreenTellsUptoCardSaid : Prop := Claim7.holds Tryz.pinned (.plain (OpenSpec.upto screenTellsSpec)) screenTellsUptoCard

/-- THE SECOND FORM's CARD OF 'inquestlaw28.ScreenAll'. -/
def screenAllUptoCard : Claim7 := { stood := { row := screenAllUptoRow, standIns := [], harness := (true, "b0efe9e99674400e280ea1a23a13eec5d1b686fa42771ae2dadb0efcfea19ec7"), looks := false }, kinds := [], alts := [], laidByText := true, laidKinds := [.data], laidTests := true, laidLooks := .later }
def ScreenAllUptoCardSaid : Prop := Claim7.holds Tryz.pinned (.plain (OpenSpec.upto screenAllSpec)) screenAllUptoCard

/-- THE SECOND FORM's CARD OF 'inquestlaw28.ScreenTrue'. -/
def screenTrueUptoCard : Claim7 := { stood := { row := screenTrueUptoRow, standIns := [], harness := (true, "b0efe9e99674400e280ea1a23a13eec5d1b686fa42771ae2dadb0efcfea19ec7"), looks := false }, kinds := [], alts := [], laidByText := true, laidKinds := [.data], laidTests := true, laidLooks := .later }
def ScreenTrueUptoCardSaid : Prop := Claim7.holds Tryz.pinned (.plain (OpenSpec.upto screenTrueSpec)) screenTrueUptoCard

/-- THE SECOND FORM's CARD OF 'inquestlaw28.ScreenSays'. -/
def screenSaysUptoCard : Claim7 := { stood := { row := screenSaysUptoRow, standIns := [], harness := (true, "b0efe9e99674400e280ea1a23a13eec5d1b686fa42771ae2dadb0efcfea19ec7"), looks := false }, kinds := [], alts := [], laidByText := true, laidKinds := [.data], laidTests := true, laidLooks := .later }
def ScreenSaysUptoCardSaid : Prop := Claim7.holds Tryz.pinned (.plain (OpenSpec.upto screenSaysSpec)) screenSaysUptoCard

/-- THE SECOND FORM's CARD OF 'inquestlaw29.SaturateTells'. -/
def saturateTellsUptoCard : Claim7 := { stood := { row := saturateTellsUptoRow, standIns := [], harness := (true, "b0efe9e99674400e280ea1a23a13eec5d1b686fa42771ae2dadb0efcfea19ec7"), looks := false }, kinds := [], alts := [], laidByText := true, laidKinds := [.data], laidTests := true, laidLooks := .later }
def SaturateTellsUptoCardSaid : Prop := Claim7.holds Tryz.pinned (.plain (OpenSpec.upto saturateTellsSpec)) saturateTellsUptoCard

/-- THE SECOND FORM's CARD OF 'inquestlaw29.SaturateEnds'. -/
def saturateEndsUptoCard : Claim7 := { stood := { row := saturateEndsUptoRow, standIns := [], harness := (true, "b0efe9e99674400e280ea1a23a13eec5d1b686fa42771ae2dadb0efcfea19ec7"), looks := false }, kinds := [], alts := [], laidByText := true, laidKinds := [.data], laidTests := true, laidLooks := .later }
def SaturateEndsUptoCardSaid : Prop := Claim7.holds Tryz.pinned (.plain (OpenSpec.upto saturateEndsSpec)) saturateEndsUptoCard

/-- THE SECOND FORM's CARD OF 'inquestlaw29.SaturateTrue'. -/
def saturateTrueUptoCard : Claim7 := { stood := { row := saturateTrueUptoRow, standIns := [], harness := (true, "b0efe9e99674400e280ea1a23a13eec5d1b686fa42771ae2dadb0efcfea19ec7"), looks := false }, kinds := [], alts := [], laidByText := true, laidKinds := [.data], laidTests := true, laidLooks := .later }
def SaturateTrueUptoCardSaid : Prop := Claim7.holds Tryz.pinned (.plain (OpenSpec.upto saturateTrueSpec)) saturateTrueUptoCard

/-- THE SECOND FORM's CARD OF 'inquestlaw31.SearchTells'. -/
def searchTellsUptoCard : Claim7 := { stood := { row := searchTellsUptoRow, standIns := [], harness := (true, "b0efe9e99674400e280ea1a23a13eec5d1b686fa42771ae2dadb0efcfea19ec7"), looks := false }, kinds := [], alts := [], laidByText := true, laidKinds := [.data], laidTests := true, laidLooks := .later }
def SearchTellsUptoCardSaid : Prop := Claim7.holds Tryz.pinned (.plain (OpenSpec.upto searchTellsSpec)) searchTellsUptoCard

/-- THE SECOND FORM's CARD OF 'inquestlaw31.SearchEnds'. -/
def searchEndsUptoCard : Claim7 := { stood := { row := searchEndsUptoRow, standIns := [], harness := (true, "b0efe9e99674400e280ea1a23a13eec5d1b686fa42771ae2dadb0efcfea19ec7"), looks := false }, kinds := [], alts := [], laidByText := true, laidKinds := [.data], laidTests := true, laidLooks := .later }
def SearchEndsUptoCardSaid : Prop := Claim7.holds Tryz.pinned (.plain (OpenSpec.upto searchEndsSpec)) searchEndsUptoCard

/-- THE SECOND FORM's CARD OF 'inquestlaw31.SearchMore'. -/
def searchMoreUptoCard : Claim7 := { stood := { row := searchMoreUptoRow, standIns := [], harness := (true, "b0efe9e99674400e280ea1a23a13eec5d1b686fa42771ae2dadb0efcfea19ec7"), looks := false }, kinds := [], alts := [], laidByText := true, laidKinds := [.data], laidTests := true, laidLooks := .later }
def SearchMoreUptoCardSaid : Prop := Claim7.holds Tryz.pinned (.plain (OpenSpec.upto searchMoreSpec)) searchMoreUptoCard
end Rows
end Go.Proofs.YtjomijnbnbideaaGreatDoor
