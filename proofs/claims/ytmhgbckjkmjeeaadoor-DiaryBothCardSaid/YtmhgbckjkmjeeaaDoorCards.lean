/-
  DERIVED. GIVEN WITH THE SEED: THE CARDS: each row of YtmhgbckjkmjeeaaDoorRows.lean that lists a variable, with what it lists TIED to the program's text (the seventh form; the later family's looks); each row that meets fmt, with fmt's text TOLD by the authors' own Lean function (tested against real Go, not proved from fmt's source: count such statements apart). THE CARD IS WHAT COUNTS. Prove the row's statement (the work); the ties are given (YtmhgbckjkmjeeaaDoorTie.lean); close each card by the builder's one call (the guide's Derived/Test/ToyasCard.lean, 'card_holds'). Laid BY PROGRAM, IN A SANDBOX (cutbox-door.mjs). By AI agents, Wed Nov 11 2026. No macro, syntax, notation, axiom, sorry.
-/
import Derived.Test.YtmhgbckjkmjeeaaDoorRows
import GoSem.ClaimSeven
namespace Go.Proofs.YtmhgbckjkmjeeaaDoor
namespace Rows

/-- THE TIED CARD OF 'inquestlaw03.EventTells'. -/
def eventTellsCard : Claim7 := { stood := { row := eventTellsRow, standIns := [], harness := (true, "753586d9165626b1dc3c9d6bb59272503f1f672ddf125406a7b228814f990d94"), looks := true }, kinds := [], alts := [], laidByText := true, laidKinds := [.data, .data, .data, .data, .data, .pinned], laidTests := true, laidLooks := .later }
def EventTellsCardSaid : Prop := Claim7.holds Tryd.pinned (.plain (OpenSpec.ofChange eventTellsSpec)) eventTellsCard

/-- THE TIED CARD OF 'inquestlaw03.EventBack'. -/
def eventBackCard : Claim7 := { stood := { row := eventBackRow, standIns := [], harness := (true, "753586d9165626b1dc3c9d6bb59272503f1f672ddf125406a7b228814f990d94"), looks := true }, kinds := [], alts := [], laidByText := true, laidKinds := [.data, .data, .data, .data, .data, .pinned], laidTests := true, laidLooks := .later }
def EventBackCardSaid : Prop := Claim7.holds Tryd.pinned (.plain (OpenSpec.ofChange eventBackSpec)) eventBackCard

/-- THE TIED CARD OF 'inquestlaw03.EventOwn'. -/
def eventOwnCard : Claim7 := { stood := { row := eventOwnRow, standIns := [], harness := (true, "753586d9165626b1dc3c9d6bb59272503f1f672ddf125406a7b228814f990d94"), looks := true }, kinds := [], alts := [], laidByText := true, laidKinds := [.data, .data, .data, .data, .data, .pinned], laidTests := true, laidLooks := .later }
def EventOwnCardSaid : Prop := Claim7.holds Tryd.pinned (.plain (OpenSpec.ofChange eventOwnSpec)) eventOwnCard

/-- THE TIED CARD OF 'inquestlaw03.EventWords'. -/
def eventWordsCard : Claim7 := { stood := { row := eventWordsRow, standIns := [], harness := (true, "753586d9165626b1dc3c9d6bb59272503f1f672ddf125406a7b228814f990d94"), looks := true }, kinds := [], alts := [], laidByText := true, laidKinds := [.data, .data, .data, .data, .data, .pinned], laidTests := true, laidLooks := .later }
def EventWordsCardSaid : Prop := Claim7.holds Tryd.pinned (.plain (OpenSpec.ofChange eventWordsSpec)) eventWordsCard

/-- THE TIED CARD OF 'inquestlaw04.DiaryTells'. -/
def diaryTellsCard : Claim7 := { stood := { row := diaryTellsRow, standIns := [], harness := (true, "753586d9165626b1dc3c9d6bb59272503f1f672ddf125406a7b228814f990d94"), looks := true }, kinds := [], alts := [], laidByText := true, laidKinds := [.data, .data, .data, .data, .data, .pinned], laidTests := true, laidLooks := .later }
def DiaryTellsCardSaid : Prop := Claim7.holds Tryd.pinned (.plain (OpenSpec.ofChange diaryTellsSpec)) diaryTellsCard

/-- THE TIED CARD OF 'inquestlaw04.DiaryBack'. -/
def diaryBackCard : Claim7 := { stood := { row := diaryBackRow, standIns := [], harness := (true, "753586d9165626b1dc3c9d6bb59272503f1f672ddf125406a7b228814f990d94"), looks := true }, kinds := [], alts := [], laidByText := true, laidKinds := [.data, .data, .data, .data, .data, .pinned], laidTests := true, laidLooks := .later }
def DiaryBackCardSaid : Prop := Claim7.holds Tryd.pinned (.plain (OpenSpec.ofChange diaryBackSpec)) diaryBackCard

/-- THE TIED CARD OF 'inquestlaw04.DiaryFirst'. -/
def diaryFirstCard : Claim7 := { stood := { row := diaryFirstRow, standIns := [], harness := (true, "753586d9165626b1dc3c9d6bb59272503f1f672ddf125406a7b228814f990d94"), looks := true }, kinds := [], alts := [], laidByText := true, laidKinds := [.data, .data, .data, .data, .data, .pinned], laidTests := true, laidLooks := .later }
def DiaryFirstCardSaid : Prop := Claim7.holds Tryd.pinned (.plain (OpenSpec.ofChange diaryFirstSpec)) diaryFirstCard

/-- THE TIED CARD OF 'inquestlaw04.DiaryBoth'. -/
def diaryBothCard : Claim7 := { stood := { row := diaryBothRow, standIns := [], harness := (true, "753586d9165626b1dc3c9d6bb59272503f1f672ddf125406a7b228814f990d94"), looks := true }, kinds := [], alts := [], laidByText := true, laidKinds := [.data, .data, .data, .data, .data, .pinned], laidTests := true, laidLooks := .later }
def DiaryBothCardSaid : Prop := Claim7.holds Tryd.pinned (.plain (OpenSpec.ofChange diaryBothSpec)) diaryBothCard

/-- THE SECOND FORM's CARD OF 'inquestlaw03.EventTells'. -/
def eventTellsUptoCard : Claim7 := { stood := { row := eventTellsUptoRow, standIns := [], harness := (true, "753586d9165626b1dc3c9d6bb59272503f1f672ddf125406a7b228814f990d94"), looks := true }, kinds := [], alts := [], laidByText := true, laidKinds := [.data, .data, .data, .data, .data, .pinned], laidTests := true, laidLooks := .later }
def EventTellsUptoCardSaid : Prop := Claim7.holds Tryd.pinned (.plain (OpenSpec.upto eventTellsSpec)) eventTellsUptoCard

/-- THE SECOND FORM's CARD OF 'inquestlaw03.EventBack'. -/
def eventBackUptoCard : Claim7 := { stood := { row := eventBackUptoRow, standIns := [], harness := (true, "753586d9165626b1dc3c9d6bb59272503f1f672ddf125406a7b228814f990d94"), looks := true }, kinds := [], alts := [], laidByText := true, laidKinds := [.data, .data, .data, .data, .data, .pinned], laidTests := true, laidLooks := .later }
def EventBackUptoCardSaid : Prop := Claim7.holds Tryd.pinned (.plain (OpenSpec.upto eventBackSpec)) eventBackUptoCard

/-- THE SECOND FORM's CARD OF 'inquestlaw03.EventOwn'. -/
def eventOwnUptoCard : Claim7 := { stood := { row := eventOwnUptoRow, standIns := [], harness := (true, "753586d9165626b1dc3c9d6bb59272503f1f672ddf125406a7b228814f990d94"), looks := true }, kinds := [], alts := [], laidByText := true, laidKinds := [.data, .data, .data, .data, .data, .pinned], laidTests := true, laidLooks := .later }
def EventOwnUptoCardSaid : Prop := Claim7.holds Tryd.pinned (.plain (OpenSpec.upto eventOwnSpec)) eventOwnUptoCard

/-- THE SECOND FORM's CARD OF 'inquestlaw03.EventWords'. -/
def eventWordsUptoCard : Claim7 := { stood := { row := eventWordsUptoRow, standIns := [], harness := (true, "753586d9165626b1dc3c9d6bb59272503f1f672ddf125406a7b228814f990d94"), looks := true }, kinds := [], alts := [], laidByText := true, laidKinds := [.data, .data, .data, .data, .data, .pinned], laidTests := true, laidLooks := .later }
def EventWordsUptoCardSaid : Prop := Claim7.holds Tryd.pinned (.plain (OpenSpec.upto eventWordsSpec)) eventWordsUptoCard

/-- THE SECOND FORM's CARD OF 'inquestlaw04.DiaryTells'. -/
def diaryTellsUptoCard : Claim7 := { stood := { row := diaryTellsUptoRow, standIns := [], harness := (true, "753586d9165626b1dc3c9d6bb59272503f1f672ddf125406a7b228814f990d94"), looks := true }, kinds := [], alts := [], laidByText := true, laidKinds := [.data, .data, .data, .data, .data, .pinned], laidTests := true, laidLooks := .later }
def DiaryTellsUptoCardSaid : Prop := Claim7.holds Tryd.pinned (.plain (OpenSpec.upto diaryTellsSpec)) diaryTellsUptoCard

/-- THE SECOND FORM's CARD OF 'inquestlaw04.DiaryBack'. -/
def diaryBackUptoCard : Claim7 := { stood := { row := diaryBackUptoRow, standIns := [], harness := (true, "753586d9165626b1dc3c9d6bb59272503f1f672ddf125406a7b228814f990d94"), looks := true }, kinds := [], alts := [], laidByText := true, laidKinds := [.data, .data, .data, .data, .data, .pinned], laidTests := true, laidLooks := .later }
def DiaryBackUptoCardSaid : Prop := Claim7.holds Tryd.pinned (.plain (OpenSpec.upto diaryBackSpec)) diaryBackUptoCard

/-- THE SECOND FORM's CARD OF 'inquestlaw04.DiaryFirst'. -/
def diaryFirstUptoCard : Claim7 := { stood := { row := diaryFirstUptoRow, standIns := [], harness := (true, "753586d9165626b1dc3c9d6bb59272503f1f672ddf125406a7b228814f990d94"), looks := true }, kinds := [], alts := [], laidByText := true, laidKinds := [.data, .data, .data, .data, .data, .pinned], laidTests := true, laidLooks := .later }
def DiaryFirstUptoCardSaid : Prop := Claim7.holds Tryd.pinned (.plain (OpenSpec.upto diaryFirstSpec)) diaryFirstUptoCard

/-- THE SECOND FORM's CARD OF 'inquestlaw04.DiaryBoth'. -/
def diaryBothUptoCard : Claim7 := { stood := { row := diaryBothUptoRow, standIns := [], harness := (true, "753586d9165626b1dc3c9d6bb59272503f1f672ddf125406a7b228814f990d94"), looks := true }, kinds := [], alts := [], laidByText := true, laidKinds := [.data, .data, .data, .data, .data, .pinned], laidTests := true, laidLooks := .later }
def DiaryBothUptoCardSaid : Prop := Claim7.holds Tryd.pinned (.plain (OpenSpec.upto diaryBothSpec)) diaryBothUptoCard
end Rows
end Go.Proofs.YtmhgbckjkmjeeaaDoor
