/-
  DERIVED. GIVEN WITH THE SEED: THE CARDS: each row of YtfodlklpfffaaaaGreatDoorRows.lean that lists a variable, with what it lists TIED to the program's text (the seventh form; the later family's looks); each row that meets fmt, with fmt's text TOLD by the authors' own Lean function (tested against real Go, not proved from fmt's source: count such statements apart). THE CARD IS WHAT COUNTS. Prove the row's statement (the work); the ties are given (YtfodlklpfffaaaaGreatDoorTie.lean); close each card by the builder's one call (the guide's Derived/Test/ToyasCard.lean, 'card_holds'). Laid BY PROGRAM, IN A SANDBOX (cutbox-door.mjs). By AI agents, Wed Nov 11 2026. No macro, syntax, notation, axiom, sorry.
-/
import Derived.Test.YtfodlklpfffaaaaGreatDoorRows
import GoSem.ClaimSeven
namespace Go.Proofs.YtfodlklpfffaaaaGreatDoor
namespace Rows

/-- THE TIED CARD OF 'inquestlaw30.WidenTells'. -/
def widenTellsCard : Claim7 := { stood := { row := widenTellsRow, standIns := [], harness := (true, "9fc79444ea92fb8172a7ff4203c571861fdfe03f71f8610ce9c6faf13b23d5f2"), looks := false }, kinds := [], alts := [], laidByText := true, laidKinds := [.data], laidTests := true, laidLooks := .later }
def WidenTellsCardSaid : Prop := Claim7.holds Tryz.pinned (.plain (OpenSpec.ofChange widenTellsSpec)) widenTellsCard

/-- THE TIED CARD OF 'inquestlaw30.WidenEnds'. -/
def widenEndsCard : Claim7 := { stood := { row := widenEndsRow, standIns := [], harness := (true, "9fc79444ea92fb8172a7ff4203c571861fdfe03f71f8610ce9c6faf13b23d5f2"), looks := false }, kinds := [], alts := [], laidByText := true, laidKinds := [.data], laidTests := true, laidLooks := .later }
def WidenEndsCardSaid : Prop := Claim7.holds Tryz.pinned (.plain (OpenSpec.ofChange widenEndsSpec)) widenEndsCard

/-- THE SECOND FORM's CARD OF 'inquestlaw30.WidenTells'. -/
def widenTellsUptoCard : Claim7 := { stood := { row := widenTellsUptoRow, standIns := [], harness := (true, "9fc79444ea92fb8172a7ff4203c571861fdfe03f71f8610ce9c6faf13b23d5f2"), looks := false }, kinds := [], alts := [], laidByText := true, laidKinds := [.data], laidTests := true, laidLooks := .later }
def WidenTellsUptoCardSaid : Prop := Claim7.holds Tryz.pinned (.plain (OpenSpec.upto widenTellsSpec)) widenTellsUptoCard

/-- THE SECOND FORM's CARD OF 'inquestlaw30.WidenEnds'. -/
def widenEndsUptoCard : Claim7 := { stood := { row := widenEndsUptoRow, standIns := [], harness := (true, "9fc79444ea92fb8172a7ff4203c571861fdfe03f71f8610ce9c6faf13b23d5f2"), looks := false }, kinds := [], alts := [], laidByText := true, laidKinds := [.data], laidTests := true, laidLooks := .later }
def WidenEndsUptoCardSaid : Prop := Claim7.holds Tryz.pinned (.plain (OpenSpec.upto widenEndsSpec)) widenEndsUptoCard
end Rows
end Go.Proofs.YtfodlklpfffaaaaGreatDoor
