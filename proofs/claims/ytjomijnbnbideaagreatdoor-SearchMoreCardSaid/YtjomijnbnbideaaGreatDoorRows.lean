/-
  NARROWER THAN 'FOR EVERY INPUT', by the rows' own cells (each row's printed sentence says how): WidenEnds: laid · ScreenTells: laid · ScreenAll: laid · ScreenTrue: laid · ScreenSays: laid · SaturateTells: laid · SaturateEnds: laid · SaturateTrue: laid · SearchTells: laid · SearchEnds: laid · SearchMore: laid.
  DERIVED. THE GIVEN ROWS OF THIS SEAT. 11 by the template 'for every input the law returns true; each argument reads behind the call as it read before'; 0 by the template 'total and deterministic' (their statements: YtjomijnbnbideaaGreatDoorTotals.lean).
  GIVEN WITH THE SEED: the statements are not yours to turn. If you find one false, say at which input.
  Laid BY PROGRAM, IN A SANDBOX (cutbox-rows.mjs): the forced cells as the released guide's own fill.sh prints them over the translation 07b55a6e2711a7f7… (all of the seat's roots in one cut). By AI agents, Wed Nov 11 2026. No macro, syntax, notation, axiom, sorry.
-/
import Derived.Test.YtjomijnbnbideaaGreatDoorChecked
import GoSem.Claim
import GoSem.ClaimJoined
import GoSem.ClaimMapViews
import Derived.JoinedTies
import Derived.KernelRfl
namespace Go.Proofs.YtjomijnbnbideaaGreatDoor
/- THE CELL 'sum', in the pinned program and in every row, IS THE sha256 OF THE DUMP (.gsa) THAT YtjomijnbnbideaaGreatDoorProg.lean LOADS. Nothing in Lean hashes anything: it is a label: what it is worth is what the hold of that sum in a sandbox is worth. -/
noncomputable def Tryz.pinned : Pinned := { name := "ytjomijnbnbideaagreatdoor", sum := "07b55a6e2711a7f7d5fba1818c7c15054ee2374afb762f1601e0f9761d0abc1b", checked := Tryz.checked }
namespace Rows
def none {H : Type} : Left H := { results := [], args := [] }

/- WHAT THE LISTED PACKAGE-LEVEL VARIABLES READ AS WHEN THE CALL BEGINS. Each datum BY PROGRAM (the guide's laid-datum.mjs) off the statement by which the dump's own 'gosem.cut.vars' lays the variable. In a bare row this is a premise. The card (YtjomijnbnbideaaGreatDoorCards.lean) ties it to the program's text. -/
def laid_math_bits_deBruijn64tab {H : Type} : DataW H := .agg [.lit (.int .u8 0), .lit (.int .u8 1), .lit (.int .u8 56), .lit (.int .u8 2), .lit (.int .u8 57), .lit (.int .u8 49), .lit (.int .u8 28), .lit (.int .u8 3), .lit (.int .u8 61), .lit (.int .u8 58), .lit (.int .u8 42), .lit (.int .u8 50), .lit (.int .u8 38), .lit (.int .u8 29), .lit (.int .u8 17), .lit (.int .u8 4), .lit (.int .u8 62), .lit (.int .u8 47), .lit (.int .u8 59), .lit (.int .u8 36), .lit (.int .u8 45), .lit (.int .u8 43), .lit (.int .u8 51), .lit (.int .u8 22), .lit (.int .u8 53), .lit (.int .u8 39), .lit (.int .u8 33), .lit (.int .u8 30), .lit (.int .u8 24), .lit (.int .u8 18), .lit (.int .u8 12), .lit (.int .u8 5), .lit (.int .u8 63), .lit (.int .u8 55), .lit (.int .u8 48), .lit (.int .u8 27), .lit (.int .u8 60), .lit (.int .u8 41), .lit (.int .u8 37), .lit (.int .u8 16), .lit (.int .u8 46), .lit (.int .u8 35), .lit (.int .u8 44), .lit (.int .u8 21), .lit (.int .u8 52), .lit (.int .u8 32), .lit (.int .u8 23), .lit (.int .u8 11), .lit (.int .u8 54), .lit (.int .u8 26), .lit (.int .u8 40), .lit (.int .u8 15), .lit (.int .u8 34), .lit (.int .u8 20), .lit (.int .u8 31), .lit (.int .u8 10), .lit (.int .u8 25), .lit (.int .u8 14), .lit (.int .u8 19), .lit (.int .u8 9), .lit (.int .u8 13), .lit (.int .u8 8), .lit (.int .u8 7), .lit (.int .u8 6)]

/-- 'inquestlaw30.WidenEnds': WHATEVER THE INPUT: true; the input reads as it did. -/
def widenEndsSpec : ChangeSpec := { name := "widenEnds", fn := fun _ => fun
  | [d1, d2] => { results := [.lit (.bool true)], args := [d1, d2] }
  | _ => none }
def widenEndsRow : OpenClaim := { program := "ytjomijnbnbideaagreatdoor", sum := "07b55a6e2711a7f7d5fba1818c7c15054ee2374afb762f1601e0f9761d0abc1b", func := "inquest/inquestlaw30.WidenEnds", spec := "widenEnds", unfollowed := true, recurses := true, named := ["math/bits.deBruijn64tab"], plainKeys := false, apart := false, laid := [("math/bits.deBruijn64tab", laid_math_bits_deBruijn64tab)] }
def WidenEndsSaid : Prop := widenEndsRow.holds Tryz.pinned (OpenSpec.ofChange widenEndsSpec)

/-- ITS FALSE NEIGHBOUR: 'it returns false'. Refute it at one input. -/
def widenEndsWrong : ChangeSpec := { name := "widenEnds", fn := fun _ => fun
  | [d1, d2] => { results := [.lit (.bool false)], args := [d1, d2] }
  | _ => none }
def WidenEndsWrongFalsely : Prop := widenEndsRow.holds Tryz.pinned (OpenSpec.ofChange widenEndsWrong)

/-- 'inquestlaw28.ScreenTells': WHATEVER THE INPUT: true; the input reads as it did. -/
def screenTellsSpec : ChangeSpec := { name := "screenTells", fn := fun _ => fun
  | [d1, d2] => { results := [.lit (.bool true)], args := [d1, d2] }
  | _ => none }
def screenTellsRow : OpenClaim := { program := "ytjomijnbnbideaagreatdoor", sum := "07b55a6e2711a7f7d5fba1818c7c15054ee2374afb762f1601e0f9761d0abc1b", func := "inquest/inquestlaw28.ScreenTells", spec := "screenTells", unfollowed := true, recurses := true, named := ["math/bits.deBruijn64tab"], plainKeys := false, apart := false, laid := [("math/bits.deBruijn64tab", laid_math_bits_deBruijn64tab)] }
def ScreenTellsSaid : Prop := screenTellsRow.holds Tryz.pinned (OpenSpec.ofChange screenTellsSpec)

/-- ITS FALSE NEIGHBOUR: 'it returns false'. Refute it at one input. -/
def screenTellsWrong : ChangeSpec := { name := "screenTells", fn := fun _ => fun
  | [d1, d2] => { results := [.lit (.bool false)], args := [d1, d2] }
  | _ => none }
def ScreenTellsWrongFalsely : Prop := screenTellsRow.holds Tryz.pinned (OpenSpec.ofChange screenTellsWrong)

/-- 'inquestlaw28.ScreenAll': WHATEVER THE INPUT: true; the input reads as it did. -/
def screenAllSpec : ChangeSpec := { name := "screenAll", fn := fun _ => fun
  | [d1, d2, d3] => { results := [.lit (.bool true)], args := [d1, d2, d3] }
  | _ => none }
def screenAllRow : OpenClaim := { program := "ytjomijnbnbideaagreatdoor", sum := "07b55a6e2711a7f7d5fba1818c7c15054ee2374afb762f1601e0f9761d0abc1b", func := "inquest/inquestlaw28.ScreenAll", spec := "screenAll", unfollowed := true, recurses := true, named := ["math/bits.deBruijn64tab"], plainKeys := false, apart := false, laid := [("math/bits.deBruijn64tab", laid_math_bits_deBruijn64tab)] }
def ScreenAllSaid : Prop := screenAllRow.holds Tryz.pinned (OpenSpec.ofChange screenAllSpec)

/-- ITS FALSE NEIGHBOUR: 'it returns false'. Refute it at one input. -/
def screenAllWrong : ChangeSpec := { name := "screenAll", fn := fun _ => fun
  | [d1, d2, d3] => { results := [.lit (.bool false)], args := [d1, d2, d3] }
  | _ => none }
def ScreenAllWrongFalsely : Prop := screenAllRow.holds Tryz.pinned (OpenSpec.ofChange screenAllWrong)

/-- 'inquestlaw28.ScreenTrue': WHATEVER THE INPUT: true; the input reads as it did. -/
def screenTrueSpec : ChangeSpec := { name := "screenTrue", fn := fun _ => fun
  | [d1, d2] => { results := [.lit (.bool true)], args := [d1, d2] }
  | _ => none }
def screenTrueRow : OpenClaim := { program := "ytjomijnbnbideaagreatdoor", sum := "07b55a6e2711a7f7d5fba1818c7c15054ee2374afb762f1601e0f9761d0abc1b", func := "inquest/inquestlaw28.ScreenTrue", spec := "screenTrue", unfollowed := true, recurses := true, named := ["math/bits.deBruijn64tab"], plainKeys := false, apart := false, laid := [("math/bits.deBruijn64tab", laid_math_bits_deBruijn64tab)] }
def ScreenTrueSaid : Prop := screenTrueRow.holds Tryz.pinned (OpenSpec.ofChange screenTrueSpec)

/-- ITS FALSE NEIGHBOUR: 'it returns false'. Refute it at one input. -/
def screenTrueWrong : ChangeSpec := { name := "screenTrue", fn := fun _ => fun
  | [d1, d2] => { results := [.lit (.bool false)], args := [d1, d2] }
  | _ => none }
def ScreenTrueWrongFalsely : Prop := screenTrueRow.holds Tryz.pinned (OpenSpec.ofChange screenTrueWrong)

/-- 'inquestlaw28.ScreenSays': WHATEVER THE INPUT: true; the input reads as it did. -/
def screenSaysSpec : ChangeSpec := { name := "screenSays", fn := fun _ => fun
  | [d1, d2] => { results := [.lit (.bool true)], args := [d1, d2] }
  | _ => none }
def screenSaysRow : OpenClaim := { program := "ytjomijnbnbideaagreatdoor", sum := "07b55a6e2711a7f7d5fba1818c7c15054ee2374afb762f1601e0f9761d0abc1b", func := "inquest/inquestlaw28.ScreenSays", spec := "screenSays", unfollowed := true, recurses := true, named := ["math/bits.deBruijn64tab"], plainKeys := false, apart := false, laid := [("math/bits.deBruijn64tab", laid_math_bits_deBruijn64tab)] }
def ScreenSaysSaid : Prop := screenSaysRow.holds Tryz.pinned (OpenSpec.ofChange screenSaysSpec)

/-- ITS FALSE NEIGHBOUR: 'it returns false'. Refute it at one input. -/
def screenSaysWrong : ChangeSpec := { name := "screenSays", fn := fun _ => fun
  | [d1, d2] => { results := [.lit (.bool false)], args := [d1, d2] }
  | _ => none }
def ScreenSaysWrongFalsely : Prop := screenSaysRow.holds Tryz.pinned (OpenSpec.ofChange screenSaysWrong)

/-- 'inquestlaw29.SaturateTells': WHATEVER THE INPUT: true; the input reads as it did. -/
def saturateTellsSpec : ChangeSpec := { name := "saturateTells", fn := fun _ => fun
  | [d] => { results := [.lit (.bool true)], args := [d] }
  | _ => none }
def saturateTellsRow : OpenClaim := { program := "ytjomijnbnbideaagreatdoor", sum := "07b55a6e2711a7f7d5fba1818c7c15054ee2374afb762f1601e0f9761d0abc1b", func := "inquest/inquestlaw29.SaturateTells", spec := "saturateTells", unfollowed := true, recurses := true, named := ["math/bits.deBruijn64tab"], plainKeys := false, apart := false, laid := [("math/bits.deBruijn64tab", laid_math_bits_deBruijn64tab)] }
def SaturateTellsSaid : Prop := saturateTellsRow.holds Tryz.pinned (OpenSpec.ofChange saturateTellsSpec)

/-- ITS FALSE NEIGHBOUR: 'it returns false'. Refute it at one input. -/
def saturateTellsWrong : ChangeSpec := { name := "saturateTells", fn := fun _ => fun
  | [d] => { results := [.lit (.bool false)], args := [d] }
  | _ => none }
def SaturateTellsWrongFalsely : Prop := saturateTellsRow.holds Tryz.pinned (OpenSpec.ofChange saturateTellsWrong)

/-- 'inquestlaw29.SaturateEnds': WHATEVER THE INPUT: true; the input reads as it did. -/
def saturateEndsSpec : ChangeSpec := { name := "saturateEnds", fn := fun _ => fun
  | [d1, d2] => { results := [.lit (.bool true)], args := [d1, d2] }
  | _ => none }
def saturateEndsRow : OpenClaim := { program := "ytjomijnbnbideaagreatdoor", sum := "07b55a6e2711a7f7d5fba1818c7c15054ee2374afb762f1601e0f9761d0abc1b", func := "inquest/inquestlaw29.SaturateEnds", spec := "saturateEnds", unfollowed := true, recurses := true, named := ["math/bits.deBruijn64tab"], plainKeys := false, apart := false, laid := [("math/bits.deBruijn64tab", laid_math_bits_deBruijn64tab)] }
def SaturateEndsSaid : Prop := saturateEndsRow.holds Tryz.pinned (OpenSpec.ofChange saturateEndsSpec)

/-- ITS FALSE NEIGHBOUR: 'it returns false'. Refute it at one input. -/
def saturateEndsWrong : ChangeSpec := { name := "saturateEnds", fn := fun _ => fun
  | [d1, d2] => { results := [.lit (.bool false)], args := [d1, d2] }
  | _ => none }
def SaturateEndsWrongFalsely : Prop := saturateEndsRow.holds Tryz.pinned (OpenSpec.ofChange saturateEndsWrong)

/-- 'inquestlaw29.SaturateTrue': WHATEVER THE INPUT: true; the input reads as it did. -/
def saturateTrueSpec : ChangeSpec := { name := "saturateTrue", fn := fun _ => fun
  | [d1, d2] => { results := [.lit (.bool true)], args := [d1, d2] }
  | _ => none }
def saturateTrueRow : OpenClaim := { program := "ytjomijnbnbideaagreatdoor", sum := "07b55a6e2711a7f7d5fba1818c7c15054ee2374afb762f1601e0f9761d0abc1b", func := "inquest/inquestlaw29.SaturateTrue", spec := "saturateTrue", unfollowed := true, recurses := true, named := ["math/bits.deBruijn64tab"], plainKeys := false, apart := false, laid := [("math/bits.deBruijn64tab", laid_math_bits_deBruijn64tab)] }
def SaturateTrueSaid : Prop := saturateTrueRow.holds Tryz.pinned (OpenSpec.ofChange saturateTrueSpec)

/-- ITS FALSE NEIGHBOUR: 'it returns false'. Refute it at one input. -/
def saturateTrueWrong : ChangeSpec := { name := "saturateTrue", fn := fun _ => fun
  | [d1, d2] => { results := [.lit (.bool false)], args := [d1, d2] }
  | _ => none }
def SaturateTrueWrongFalsely : Prop := saturateTrueRow.holds Tryz.pinned (OpenSpec.ofChange saturateTrueWrong)

/-- 'inquestlaw31.SearchTells': WHATEVER THE INPUT: true; the input reads as it did. -/
def searchTellsSpec : ChangeSpec := { name := "searchTells", fn := fun _ => fun
  | [d] => { results := [.lit (.bool true)], args := [d] }
  | _ => none }
def searchTellsRow : OpenClaim := { program := "ytjomijnbnbideaagreatdoor", sum := "07b55a6e2711a7f7d5fba1818c7c15054ee2374afb762f1601e0f9761d0abc1b", func := "inquest/inquestlaw31.SearchTells", spec := "searchTells", unfollowed := true, recurses := true, named := ["math/bits.deBruijn64tab"], plainKeys := false, apart := false, laid := [("math/bits.deBruijn64tab", laid_math_bits_deBruijn64tab)] }
def SearchTellsSaid : Prop := searchTellsRow.holds Tryz.pinned (OpenSpec.ofChange searchTellsSpec)

/-- ITS FALSE NEIGHBOUR: 'it returns false'. Refute it at one input. -/
def searchTellsWrong : ChangeSpec := { name := "searchTells", fn := fun _ => fun
  | [d] => { results := [.lit (.bool false)], args := [d] }
  | _ => none }
def SearchTellsWrongFalsely : Prop := searchTellsRow.holds Tryz.pinned (OpenSpec.ofChange searchTellsWrong)

/-- 'inquestlaw31.SearchEnds': WHATEVER THE INPUT: true; the input reads as it did. -/
def searchEndsSpec : ChangeSpec := { name := "searchEnds", fn := fun _ => fun
  | [d1, d2, d3] => { results := [.lit (.bool true)], args := [d1, d2, d3] }
  | _ => none }
def searchEndsRow : OpenClaim := { program := "ytjomijnbnbideaagreatdoor", sum := "07b55a6e2711a7f7d5fba1818c7c15054ee2374afb762f1601e0f9761d0abc1b", func := "inquest/inquestlaw31.SearchEnds", spec := "searchEnds", unfollowed := true, recurses := true, named := ["math/bits.deBruijn64tab"], plainKeys := false, apart := false, laid := [("math/bits.deBruijn64tab", laid_math_bits_deBruijn64tab)] }
def SearchEndsSaid : Prop := searchEndsRow.holds Tryz.pinned (OpenSpec.ofChange searchEndsSpec)

/-- ITS FALSE NEIGHBOUR: 'it returns false'. Refute it at one input. -/
def searchEndsWrong : ChangeSpec := { name := "searchEnds", fn := fun _ => fun
  | [d1, d2, d3] => { results := [.lit (.bool false)], args := [d1, d2, d3] }
  | _ => none }
def SearchEndsWrongFalsely : Prop := searchEndsRow.holds Tryz.pinned (OpenSpec.ofChange searchEndsWrong)

/-- 'inquestlaw31.SearchMore': WHATEVER THE INPUT: true; the input reads as it did. -/
def searchMoreSpec : ChangeSpec := { name := "searchMore", fn := fun _ => fun
  | [d1, d2] => { results := [.lit (.bool true)], args := [d1, d2] }
  | _ => none }
def searchMoreRow : OpenClaim := { program := "ytjomijnbnbideaagreatdoor", sum := "07b55a6e2711a7f7d5fba1818c7c15054ee2374afb762f1601e0f9761d0abc1b", func := "inquest/inquestlaw31.SearchMore", spec := "searchMore", unfollowed := true, recurses := true, named := ["math/bits.deBruijn64tab"], plainKeys := false, apart := false, laid := [("math/bits.deBruijn64tab", laid_math_bits_deBruijn64tab)] }
def SearchMoreSaid : Prop := searchMoreRow.holds Tryz.pinned (OpenSpec.ofChange searchMoreSpec)

/-- ITS FALSE NEIGHBOUR: 'it returns false'. Refute it at one input. -/
def searchMoreWrong : ChangeSpec := { name := "searchMore", fn := fun _ => fun
  | [d1, d2] => { results := [.lit (.bool false)], args := [d1, d2] }
  | _ => none }
def SearchMoreWrongFalsely : Prop := searchMoreRow.holds Tryz.pinned (OpenSpec.ofChange searchMoreWrong)

/- THE SECOND FORM. 'bulk': how many values and letters a reading holds, each counted each time it is reached (what is shared counts as often as it is met; a slice's spare places count too). A statement '..UptoSaid' is the law's where the arguments, and the package variables that the reading takes, are together of bulk at most 1048576: NARROWER than '..Said'. Prove '..Said' where nothing that the law and all that it calls make is longer than what came in: it says more and counts as full. Else prove '..UptoSaid'. A law counts once. -/
mutual
def uptoBulk {H : Type} : DataW H → Nat
  | .lit (.string bytes) => bytes.length + 1
  | .lit _ => 1
  | .nil => 1
  | .ptr d => uptoBulk d + 1
  | .slice elems spare => uptoBulkAll elems + uptoBulkAll spare + 1
  | .agg parts => uptoBulkAll parts + 1
  | .iface _ d => uptoBulk d + 1
  | .map entries => uptoBulkEntries entries + 1
  | .held _ => 1
def uptoBulkAll {H : Type} : List (DataW H) → Nat
  | [] => 0
  | d :: r => uptoBulk d + uptoBulkAll r
def uptoBulkEntries {H : Type} : List (Lit × DataW H) → Nat
  | [] => 0
  | x :: r => uptoBulkEntry x + uptoBulkEntries r
def uptoBulkEntry {H : Type} : Lit × DataW H → Nat
  | (.string bytes, d) => bytes.length + uptoBulk d + 1
  | (_, d) => uptoBulk d + 1
 end
def uptoSmall : (H : Type) → List (DataW H) → Bool := fun _ ds => decide (uptoBulkAll ds ≤ 1048576)
def OpenSpec.upto (s : _root_.Go.ChangeSpec) : _root_.Go.OpenSpec := { _root_.Go.OpenSpec.ofChange s with cond := some uptoSmall }

/-- 'inquestlaw30.WidenEnds', WHERE WHAT IT READS IS OF BULK AT MOST 1048576: true; the input reads as it did. -/
def widenEndsUptoRow : OpenClaim := { program := "ytjomijnbnbideaagreatdoor", sum := "07b55a6e2711a7f7d5fba1818c7c15054ee2374afb762f1601e0f9761d0abc1b", func := "inquest/inquestlaw30.WidenEnds", spec := "widenEnds", unfollowed := true, recurses := true, named := ["math/bits.deBruijn64tab"], plainKeys := false, apart := false, laid := [("math/bits.deBruijn64tab", laid_math_bits_deBruijn64tab)], narrowed := true }
def WidenEndsUptoSaid : Prop := widenEndsUptoRow.holds Tryz.pinned (OpenSpec.upto widenEndsSpec)

/-- 'inquestlaw28.ScreenTells', WHERE WHAT IT READS IS OF BULK AT MOST 1048576: true; the input reads as it did. -/
def screenTellsUptoRow : OpenClaim := { program := "ytjomijnbnbideaagreatdoor", sum := "07b55a6e2711a7f7d5fba1818c7c15054ee2374afb762f1601e0f9761d0abc1b", func := "inquest/inquestlaw28.ScreenTells", spec := "screenTells", unfollowed := true, recurses := true, named := ["math/bits.deBruijn64tab"], plainKeys := false, apart := false, laid := [("math/bits.deBruijn64tab", laid_math_bits_deBruijn64tab)], narrowed := true }
def ScreenTellsUptoSaid : Prop := screenTellsUptoRow.holds Tryz.pinned (OpenSpec.upto screenTellsSpec)

/-- 'inquestlaw28.ScreenAll', WHERE WHAT IT READS IS OF BULK AT MOST 1048576: true; the input reads as it did. -/
def screenAllUptoRow : OpenClaim := { program := "ytjomijnbnbideaagreatdoor", sum := "07b55a6e2711a7f7d5fba1818c7c15054ee2374afb762f1601e0f9761d0abc1b", func := "inquest/inquestlaw28.ScreenAll", spec := "screenAll", unfollowed := true, recurses := true, named := ["math/bits.deBruijn64tab"], plainKeys := false, apart := false, laid := [("math/bits.deBruijn64tab", laid_math_bits_deBruijn64tab)], narrowed := true }
def ScreenAllUptoSaid : Prop := screenAllUptoRow.holds Tryz.pinned (OpenSpec.upto screenAllSpec)

/-- 'inquestlaw28.ScreenTrue', WHERE WHAT IT READS IS OF BULK AT MOST 1048576: true; the input reads as it did. -/
def screenTrueUptoRow : OpenClaim := { program := "ytjomijnbnbideaagreatdoor", sum := "07b55a6e2711a7f7d5fba1818c7c15054ee2374afb762f1601e0f9761d0abc1b", func := "inquest/inquestlaw28.ScreenTrue", spec := "screenTrue", unfollowed := true, recurses := true, named := ["math/bits.deBruijn64tab"], plainKeys := false, apart := false, laid := [("math/bits.deBruijn64tab", laid_math_bits_deBruijn64tab)], narrowed := true }
def ScreenTrueUptoSaid : Prop := screenTrueUptoRow.holds Tryz.pinned (OpenSpec.upto screenTrueSpec)

/-- 'inquestlaw28.ScreenSays', WHERE WHAT IT READS IS OF BULK AT MOST 1048576: true; the input reads as it did. -/
def screenSaysUptoRow : OpenClaim := { program := "ytjomijnbnbideaagreatdoor", sum := "07b55a6e2711a7f7d5fba1818c7c15054ee2374afb762f1601e0f9761d0abc1b", func := "inquest/inquestlaw28.ScreenSays", spec := "screenSays", unfollowed := true, recurses := true, named := ["math/bits.deBruijn64tab"], plainKeys := false, apart := false, laid := [("math/bits.deBruijn64tab", laid_math_bits_deBruijn64tab)], narrowed := true }
def ScreenSaysUptoSaid : Prop := screenSaysUptoRow.holds Tryz.pinned (OpenSpec.upto screenSaysSpec)

/-- 'inquestlaw29.SaturateTells', WHERE WHAT IT READS IS OF BULK AT MOST 1048576: true; the input reads as it did. -/
def saturateTellsUptoRow : OpenClaim := { program := "ytjomijnbnbideaagreatdoor", sum := "07b55a6e2711a7f7d5fba1818c7c15054ee2374afb762f1601e0f9761d0abc1b", func := "inquest/inquestlaw29.SaturateTells", spec := "saturateTells", unfollowed := true, recurses := true, named := ["math/bits.deBruijn64tab"], plainKeys := false, apart := false, laid := [("math/bits.deBruijn64tab", laid_math_bits_deBruijn64tab)], narrowed := true }
def SaturateTellsUptoSaid : Prop := saturateTellsUptoRow.holds Tryz.pinned (OpenSpec.upto saturateTellsSpec)

/-- 'inquestlaw29.SaturateEnds', WHERE WHAT IT READS IS OF BULK AT MOST 1048576: true; the input reads as it did. -/
def saturateEndsUptoRow : OpenClaim := { program := "ytjomijnbnbideaagreatdoor", sum := "07b55a6e2711a7f7d5fba1818c7c15054ee2374afb762f1601e0f9761d0abc1b", func := "inquest/inquestlaw29.SaturateEnds", spec := "saturateEnds", unfollowed := true, recurses := true, named := ["math/bits.deBruijn64tab"], plainKeys := false, apart := false, laid := [("math/bits.deBruijn64tab", laid_math_bits_deBruijn64tab)], narrowed := true }
def SaturateEndsUptoSaid : Prop := saturateEndsUptoRow.holds Tryz.pinned (OpenSpec.upto saturateEndsSpec)

/-- 'inquestlaw29.SaturateTrue', WHERE WHAT IT READS IS OF BULK AT MOST 1048576: true; the input reads as it did. -/
def saturateTrueUptoRow : OpenClaim := { program := "ytjomijnbnbideaagreatdoor", sum := "07b55a6e2711a7f7d5fba1818c7c15054ee2374afb762f1601e0f9761d0abc1b", func := "inquest/inquestlaw29.SaturateTrue", spec := "saturateTrue", unfollowed := true, recurses := true, named := ["math/bits.deBruijn64tab"], plainKeys := false, apart := false, laid := [("math/bits.deBruijn64tab", laid_math_bits_deBruijn64tab)], narrowed := true }
def SaturateTrueUptoSaid : Prop := saturateTrueUptoRow.holds Tryz.pinned (OpenSpec.upto saturateTrueSpec)

/-- 'inquestlaw31.SearchTells', WHERE WHAT IT READS IS OF BULK AT MOST 1048576: true; the input reads as it did. -/
def searchTellsUptoRow : OpenClaim := { program := "ytjomijnbnbideaagreatdoor", sum := "07b55a6e2711a7f7d5fba1818c7c15054ee2374afb762f1601e0f9761d0abc1b", func := "inquest/inquestlaw31.SearchTells", spec := "searchTells", unfollowed := true, recurses := true, named := ["math/bits.deBruijn64tab"], plainKeys := false, apart := false, laid := [("math/bits.deBruijn64tab", laid_math_bits_deBruijn64tab)], narrowed := true }
def SearchTellsUptoSaid : Prop := searchTellsUptoRow.holds Tryz.pinned (OpenSpec.upto searchTellsSpec)

/-- 'inquestlaw31.SearchEnds', WHERE WHAT IT READS IS OF BULK AT MOST 1048576: true; the input reads as it did. -/
def searchEndsUptoRow : OpenClaim := { program := "ytjomijnbnbideaagreatdoor", sum := "07b55a6e2711a7f7d5fba1818c7c15054ee2374afb762f1601e0f9761d0abc1b", func := "inquest/inquestlaw31.SearchEnds", spec := "searchEnds", unfollowed := true, recurses := true, named := ["math/bits.deBruijn64tab"], plainKeys := false, apart := false, laid := [("math/bits.deBruijn64tab", laid_math_bits_deBruijn64tab)], narrowed := true }
def SearchEndsUptoSaid : Prop := searchEndsUptoRow.holds Tryz.pinned (OpenSpec.upto searchEndsSpec)

/-- 'inquestlaw31.SearchMore', WHERE WHAT IT READS IS OF BULK AT MOST 1048576: true; the input reads as it did. -/
def searchMoreUptoRow : OpenClaim := { program := "ytjomijnbnbideaagreatdoor", sum := "07b55a6e2711a7f7d5fba1818c7c15054ee2374afb762f1601e0f9761d0abc1b", func := "inquest/inquestlaw31.SearchMore", spec := "searchMore", unfollowed := true, recurses := true, named := ["math/bits.deBruijn64tab"], plainKeys := false, apart := false, laid := [("math/bits.deBruijn64tab", laid_math_bits_deBruijn64tab)], narrowed := true }
def SearchMoreUptoSaid : Prop := searchMoreUptoRow.holds Tryz.pinned (OpenSpec.upto searchMoreSpec)

end Rows
end Go.Proofs.YtjomijnbnbideaaGreatDoor
