/-
  NARROWER THAN 'FOR EVERY INPUT', by the rows' own cells (each row's printed sentence says how): SaturateTells: laid · SearchTells: laid · SiGraph: laid · WidenProves: laid · ScreenProves: laid · SaturateProves: laid · SearchProves: laid.
  DERIVED. THE GIVEN ROWS OF THIS SEAT. 7 by the template 'for every input the law returns true; each argument reads behind the call as it read before'; 0 by the template 'total and deterministic' (their statements: YtfhnamomiaekdaaGreatDoorTotals.lean).
  GIVEN WITH THE SEED: the statements are not yours to turn. If you find one false, say at which input.
  Laid BY PROGRAM, IN A SANDBOX (cutbox-rows.mjs): the forced cells as the released guide's own fill.sh prints them over the translation be7b9e08bb0246da… (all of the seat's roots in one cut). By AI agents, Wed Nov 11 2026. No macro, syntax, notation, axiom, sorry.
-/
import Derived.Test.YtfhnamomiaekdaaGreatDoorChecked
import GoSem.Claim
import GoSem.ClaimJoined
import GoSem.ClaimMapViews
import Derived.JoinedTies
import Derived.KernelRfl
namespace Go.Proofs.YtfhnamomiaekdaaGreatDoor
/- THE CELL 'sum', in the pinned program and in every row, IS THE sha256 OF THE DUMP (.gsa) THAT YtfhnamomiaekdaaGreatDoorProg.lean LOADS. Nothing in Lean hashes anything: it is a label: what it is worth is what the hold of that sum in a sandbox is worth. -/
noncomputable def Tryz.pinned : Pinned := { name := "ytfhnamomiaekdaagreatdoor", sum := "be7b9e08bb0246da17e98dcc5250b6ce3423d5a81a7c9f216457d818e84bdbc5", checked := Tryz.checked }
namespace Rows
def none {H : Type} : Left H := { results := [], args := [] }

/- WHAT THE LISTED PACKAGE-LEVEL VARIABLES READ AS WHEN THE CALL BEGINS. Each datum BY PROGRAM (the guide's laid-datum.mjs) off the statement by which the dump's own 'gosem.cut.vars' lays the variable. In a bare row this is a premise. The card (YtfhnamomiaekdaaGreatDoorCards.lean) ties it to the program's text. -/
def laid_math_bits_deBruijn64tab {H : Type} : DataW H := .agg [.lit (.int .u8 0), .lit (.int .u8 1), .lit (.int .u8 56), .lit (.int .u8 2), .lit (.int .u8 57), .lit (.int .u8 49), .lit (.int .u8 28), .lit (.int .u8 3), .lit (.int .u8 61), .lit (.int .u8 58), .lit (.int .u8 42), .lit (.int .u8 50), .lit (.int .u8 38), .lit (.int .u8 29), .lit (.int .u8 17), .lit (.int .u8 4), .lit (.int .u8 62), .lit (.int .u8 47), .lit (.int .u8 59), .lit (.int .u8 36), .lit (.int .u8 45), .lit (.int .u8 43), .lit (.int .u8 51), .lit (.int .u8 22), .lit (.int .u8 53), .lit (.int .u8 39), .lit (.int .u8 33), .lit (.int .u8 30), .lit (.int .u8 24), .lit (.int .u8 18), .lit (.int .u8 12), .lit (.int .u8 5), .lit (.int .u8 63), .lit (.int .u8 55), .lit (.int .u8 48), .lit (.int .u8 27), .lit (.int .u8 60), .lit (.int .u8 41), .lit (.int .u8 37), .lit (.int .u8 16), .lit (.int .u8 46), .lit (.int .u8 35), .lit (.int .u8 44), .lit (.int .u8 21), .lit (.int .u8 52), .lit (.int .u8 32), .lit (.int .u8 23), .lit (.int .u8 11), .lit (.int .u8 54), .lit (.int .u8 26), .lit (.int .u8 40), .lit (.int .u8 15), .lit (.int .u8 34), .lit (.int .u8 20), .lit (.int .u8 31), .lit (.int .u8 10), .lit (.int .u8 25), .lit (.int .u8 14), .lit (.int .u8 19), .lit (.int .u8 9), .lit (.int .u8 13), .lit (.int .u8 8), .lit (.int .u8 7), .lit (.int .u8 6)]

/-- 'inquestlaw29.SaturateTells': WHATEVER THE INPUT: true; the input reads as it did. -/
def saturateTellsSpec : ChangeSpec := { name := "saturateTells", fn := fun _ => fun
  | [d] => { results := [.lit (.bool true)], args := [d] }
  | _ => none }
def saturateTellsRow : OpenClaim := { program := "ytfhnamomiaekdaagreatdoor", sum := "be7b9e08bb0246da17e98dcc5250b6ce3423d5a81a7c9f216457d818e84bdbc5", func := "inquest/inquestlaw29.SaturateTells", spec := "saturateTells", unfollowed := true, recurses := true, named := ["math/bits.deBruijn64tab"], plainKeys := false, apart := false, laid := [("math/bits.deBruijn64tab", laid_math_bits_deBruijn64tab)] }
def SaturateTellsSaid : Prop := saturateTellsRow.holds Tryz.pinned (OpenSpec.ofChange saturateTellsSpec)

/-- ITS FALSE NEIGHBOUR: 'it returns false'. Refute it at one input. -/
def saturateTellsWrong : ChangeSpec := { name := "saturateTells", fn := fun _ => fun
  | [d] => { results := [.lit (.bool false)], args := [d] }
  | _ => none }
def SaturateTellsWrongFalsely : Prop := saturateTellsRow.holds Tryz.pinned (OpenSpec.ofChange saturateTellsWrong)

/-- 'inquestlaw31.SearchTells': WHATEVER THE INPUT: true; the input reads as it did. -/
def searchTellsSpec : ChangeSpec := { name := "searchTells", fn := fun _ => fun
  | [d] => { results := [.lit (.bool true)], args := [d] }
  | _ => none }
def searchTellsRow : OpenClaim := { program := "ytfhnamomiaekdaagreatdoor", sum := "be7b9e08bb0246da17e98dcc5250b6ce3423d5a81a7c9f216457d818e84bdbc5", func := "inquest/inquestlaw31.SearchTells", spec := "searchTells", unfollowed := true, recurses := true, named := ["math/bits.deBruijn64tab"], plainKeys := false, apart := false, laid := [("math/bits.deBruijn64tab", laid_math_bits_deBruijn64tab)] }
def SearchTellsSaid : Prop := searchTellsRow.holds Tryz.pinned (OpenSpec.ofChange searchTellsSpec)

/-- ITS FALSE NEIGHBOUR: 'it returns false'. Refute it at one input. -/
def searchTellsWrong : ChangeSpec := { name := "searchTells", fn := fun _ => fun
  | [d] => { results := [.lit (.bool false)], args := [d] }
  | _ => none }
def SearchTellsWrongFalsely : Prop := searchTellsRow.holds Tryz.pinned (OpenSpec.ofChange searchTellsWrong)

/-- 'inquestlaw21.SiGraph': WHATEVER THE INPUT: true; the input reads as it did. -/
def siGraphSpec : ChangeSpec := { name := "siGraph", fn := fun _ => fun
  | [d1, d2] => { results := [.lit (.bool true)], args := [d1, d2] }
  | _ => none }
def siGraphRow : OpenClaim := { program := "ytfhnamomiaekdaagreatdoor", sum := "be7b9e08bb0246da17e98dcc5250b6ce3423d5a81a7c9f216457d818e84bdbc5", func := "inquest/inquestlaw21.SiGraph", spec := "siGraph", unfollowed := true, recurses := true, named := ["math/bits.deBruijn64tab"], plainKeys := false, apart := false, laid := [("math/bits.deBruijn64tab", laid_math_bits_deBruijn64tab)] }
def SiGraphSaid : Prop := siGraphRow.holds Tryz.pinned (OpenSpec.ofChange siGraphSpec)

/-- ITS FALSE NEIGHBOUR: 'it returns false'. Refute it at one input. -/
def siGraphWrong : ChangeSpec := { name := "siGraph", fn := fun _ => fun
  | [d1, d2] => { results := [.lit (.bool false)], args := [d1, d2] }
  | _ => none }
def SiGraphWrongFalsely : Prop := siGraphRow.holds Tryz.pinned (OpenSpec.ofChange siGraphWrong)

/-- 'inquestlaw30.WidenProves': WHATEVER THE INPUT: true; the input reads as it did. -/
def widenProvesSpec : ChangeSpec := { name := "widenProves", fn := fun _ => fun
  | [d1, d2, d3] => { results := [.lit (.bool true)], args := [d1, d2, d3] }
  | _ => none }
def widenProvesRow : OpenClaim := { program := "ytfhnamomiaekdaagreatdoor", sum := "be7b9e08bb0246da17e98dcc5250b6ce3423d5a81a7c9f216457d818e84bdbc5", func := "inquest/inquestlaw30.WidenProves", spec := "widenProves", unfollowed := true, recurses := true, named := ["math/bits.deBruijn64tab"], plainKeys := false, apart := false, laid := [("math/bits.deBruijn64tab", laid_math_bits_deBruijn64tab)] }
def WidenProvesSaid : Prop := widenProvesRow.holds Tryz.pinned (OpenSpec.ofChange widenProvesSpec)

/-- ITS FALSE NEIGHBOUR: 'it returns false'. Refute it at one input. -/
def widenProvesWrong : ChangeSpec := { name := "widenProves", fn := fun _ => fun
  | [d1, d2, d3] => { results := [.lit (.bool false)], args := [d1, d2, d3] }
  | _ => none }
def WidenProvesWrongFalsely : Prop := widenProvesRow.holds Tryz.pinned (OpenSpec.ofChange widenProvesWrong)

/-- 'inquestlaw28.ScreenProves': WHATEVER THE INPUT: true; the input reads as it did. -/
def screenProvesSpec : ChangeSpec := { name := "screenProves", fn := fun _ => fun
  | [d1, d2] => { results := [.lit (.bool true)], args := [d1, d2] }
  | _ => none }
def screenProvesRow : OpenClaim := { program := "ytfhnamomiaekdaagreatdoor", sum := "be7b9e08bb0246da17e98dcc5250b6ce3423d5a81a7c9f216457d818e84bdbc5", func := "inquest/inquestlaw28.ScreenProves", spec := "screenProves", unfollowed := true, recurses := true, named := ["math/bits.deBruijn64tab"], plainKeys := false, apart := false, laid := [("math/bits.deBruijn64tab", laid_math_bits_deBruijn64tab)] }
def ScreenProvesSaid : Prop := screenProvesRow.holds Tryz.pinned (OpenSpec.ofChange screenProvesSpec)

/-- ITS FALSE NEIGHBOUR: 'it returns false'. Refute it at one input. -/
def screenProvesWrong : ChangeSpec := { name := "screenProves", fn := fun _ => fun
  | [d1, d2] => { results := [.lit (.bool false)], args := [d1, d2] }
  | _ => none }
def ScreenProvesWrongFalsely : Prop := screenProvesRow.holds Tryz.pinned (OpenSpec.ofChange screenProvesWrong)

/-- 'inquestlaw29.SaturateProves': WHATEVER THE INPUT: true; the input reads as it did. -/
def saturateProvesSpec : ChangeSpec := { name := "saturateProves", fn := fun _ => fun
  | [d] => { results := [.lit (.bool true)], args := [d] }
  | _ => none }
def saturateProvesRow : OpenClaim := { program := "ytfhnamomiaekdaagreatdoor", sum := "be7b9e08bb0246da17e98dcc5250b6ce3423d5a81a7c9f216457d818e84bdbc5", func := "inquest/inquestlaw29.SaturateProves", spec := "saturateProves", unfollowed := true, recurses := true, named := ["math/bits.deBruijn64tab"], plainKeys := false, apart := false, laid := [("math/bits.deBruijn64tab", laid_math_bits_deBruijn64tab)] }
def SaturateProvesSaid : Prop := saturateProvesRow.holds Tryz.pinned (OpenSpec.ofChange saturateProvesSpec)

/-- ITS FALSE NEIGHBOUR: 'it returns false'. Refute it at one input. -/
def saturateProvesWrong : ChangeSpec := { name := "saturateProves", fn := fun _ => fun
  | [d] => { results := [.lit (.bool false)], args := [d] }
  | _ => none }
def SaturateProvesWrongFalsely : Prop := saturateProvesRow.holds Tryz.pinned (OpenSpec.ofChange saturateProvesWrong)

/-- 'inquestlaw31.SearchProves': WHATEVER THE INPUT: true; the input reads as it did. -/
def searchProvesSpec : ChangeSpec := { name := "searchProves", fn := fun _ => fun
  | [d] => { results := [.lit (.bool true)], args := [d] }
  | _ => none }
def searchProvesRow : OpenClaim := { program := "ytfhnamomiaekdaagreatdoor", sum := "be7b9e08bb0246da17e98dcc5250b6ce3423d5a81a7c9f216457d818e84bdbc5", func := "inquest/inquestlaw31.SearchProves", spec := "searchProves", unfollowed := true, recurses := true, named := ["math/bits.deBruijn64tab"], plainKeys := false, apart := false, laid := [("math/bits.deBruijn64tab", laid_math_bits_deBruijn64tab)] }
def SearchProvesSaid : Prop := searchProvesRow.holds Tryz.pinned (OpenSpec.ofChange searchProvesSpec)

/-- ITS FALSE NEIGHBOUR: 'it returns false'. Refute it at one input. -/
def searchProvesWrong : ChangeSpec := { name := "searchProves", fn := fun _ => fun
  | [d] => { results := [.lit (.bool false)], args := [d] }
  | _ => none }
def SearchProvesWrongFalsely : Prop := searchProvesRow.holds Tryz.pinned (OpenSpec.ofChange searchProvesWrong)

/- THE SECOND FORM. 'bulk': how many values and letters a reading holds, each counted each time it is reached (what is shared counts as often as it is met; a slice's spare places count too). A statement '..UptoSaid' is the law's where the arguments, and the package variables that the reading takes, are together of bulk at most 1048576: NARROWER than '..Said'. Prove '..Said' where nothing that the law and all that it calls make is longer than what came in: it says more and counts as full. Else prove '..UptoSaid'. A law counts once. -/
mutual
def uptoBulk {H : Type} : DataW H → Nat
  | .lit (.string bytes) => bytes.length + 1
  | .lit _ => 1
  | .nil => 1
  | .ptr d => uptoBulk d + 1
  | .slice elems spare => uptoBulkAll elems + uptoBulkAll spare + 1
  | .agg parts => uptoBulkAll parts + 1
  | .iface _ d => uptoBulk d + 1
  | .map entries => uptoBulkEntries entries + 1
  | .held _ => 1
def uptoBulkAll {H : Type} : List (DataW H) → Nat
  | [] => 0
  | d :: r => uptoBulk d + uptoBulkAll r
def uptoBulkEntries {H : Type} : List (Lit × DataW H) → Nat
  | [] => 0
  | x :: r => uptoBulkEntry x + uptoBulkEntries r
def uptoBulkEntry {H : Type} : Lit × DataW H → Nat
  | (.string bytes, d) => bytes.length + uptoBulk d + 1
  | (_, d) => uptoBulk d + 1
 end
def uptoSmall : (H : Type) → List (DataW H) → Bool := fun _ ds => decide (uptoBulkAll ds ≤ 1048576)
def OpenSpec.upto (s : _root_.Go.ChangeSpec) : _root_.Go.OpenSpec := { _root_.Go.OpenSpec.ofChange s with cond := some uptoSmall }

/-- 'inquestlaw29.SaturateTells', WHERE WHAT IT READS IS OF BULK AT MOST 1048576: true; the input reads as it did. -/
def saturateTellsUptoRow : OpenClaim := { program := "ytfhnamomiaekdaagreatdoor", sum := "be7b9e08bb0246da17e98dcc5250b6ce3423d5a81a7c9f216457d818e84bdbc5", func := "inquest/inquestlaw29.SaturateTells", spec := "saturateTells", unfollowed := true, recurses := true, named := ["math/bits.deBruijn64tab"], plainKeys := false, apart := false, laid := [("math/bits.deBruijn64tab", laid_math_bits_deBruijn64tab)], narrowed := true }
def SaturateTellsUptoSaid : Prop := saturateTellsUptoRow.holds Tryz.pinned (OpenSpec.upto saturateTellsSpec)

/-- 'inquestlaw31.SearchTells', WHERE WHAT IT READS IS OF BULK AT MOST 1048576: true; the input reads as it did. -/
def searchTellsUptoRow : OpenClaim := { program := "ytfhnamomiaekdaagreatdoor", sum := "be7b9e08bb0246da17e98dcc5250b6ce3423d5a81a7c9f216457d818e84bdbc5", func := "inquest/inquestlaw31.SearchTells", spec := "searchTells", unfollowed := true, recurses := true, named := ["math/bits.deBruijn64tab"], plainKeys := false, apart := false, laid := [("math/bits.deBruijn64tab", laid_math_bits_deBruijn64tab)], narrowed := true }
def SearchTellsUptoSaid : Prop := searchTellsUptoRow.holds Tryz.pinned (OpenSpec.upto searchTellsSpec)

/-- 'inquestlaw21.SiGraph', WHERE WHAT IT READS IS OF BULK AT MOST 1048576: true; the input reads as it did. -/
def siGraphUptoRow : OpenClaim := { program := "ytfhnamomiaekdaagreatdoor", sum := "be7b9e08bb0246da17e98dcc5250b6ce3423d5a81a7c9f216457d818e84bdbc5", func := "inquest/inquestlaw21.SiGraph", spec := "siGraph", unfollowed := true, recurses := true, named := ["math/bits.deBruijn64tab"], plainKeys := false, apart := false, laid := [("math/bits.deBruijn64tab", laid_math_bits_deBruijn64tab)], narrowed := true }
def SiGraphUptoSaid : Prop := siGraphUptoRow.holds Tryz.pinned (OpenSpec.upto siGraphSpec)

/-- 'inquestlaw30.WidenProves', WHERE WHAT IT READS IS OF BULK AT MOST 1048576: true; the input reads as it did. -/
def widenProvesUptoRow : OpenClaim := { program := "ytfhnamomiaekdaagreatdoor", sum := "be7b9e08bb0246da17e98dcc5250b6ce3423d5a81a7c9f216457d818e84bdbc5", func := "inquest/inquestlaw30.WidenProves", spec := "widenProves", unfollowed := true, recurses := true, named := ["math/bits.deBruijn64tab"], plainKeys := false, apart := false, laid := [("math/bits.deBruijn64tab", laid_math_bits_deBruijn64tab)], narrowed := true }
def WidenProvesUptoSaid : Prop := widenProvesUptoRow.holds Tryz.pinned (OpenSpec.upto widenProvesSpec)

/-- 'inquestlaw28.ScreenProves', WHERE WHAT IT READS IS OF BULK AT MOST 1048576: true; the input reads as it did. -/
def screenProvesUptoRow : OpenClaim := { program := "ytfhnamomiaekdaagreatdoor", sum := "be7b9e08bb0246da17e98dcc5250b6ce3423d5a81a7c9f216457d818e84bdbc5", func := "inquest/inquestlaw28.ScreenProves", spec := "screenProves", unfollowed := true, recurses := true, named := ["math/bits.deBruijn64tab"], plainKeys := false, apart := false, laid := [("math/bits.deBruijn64tab", laid_math_bits_deBruijn64tab)], narrowed := true }
def ScreenProvesUptoSaid : Prop := screenProvesUptoRow.holds Tryz.pinned (OpenSpec.upto screenProvesSpec)

/-- 'inquestlaw29.SaturateProves', WHERE WHAT IT READS IS OF BULK AT MOST 1048576: true; the input reads as it did. -/
def saturateProvesUptoRow : OpenClaim := { program := "ytfhnamomiaekdaagreatdoor", sum := "be7b9e08bb0246da17e98dcc5250b6ce3423d5a81a7c9f216457d818e84bdbc5", func := "inquest/inquestlaw29.SaturateProves", spec := "saturateProves", unfollowed := true, recurses := true, named := ["math/bits.deBruijn64tab"], plainKeys := false, apart := false, laid := [("math/bits.deBruijn64tab", laid_math_bits_deBruijn64tab)], narrowed := true }
def SaturateProvesUptoSaid : Prop := saturateProvesUptoRow.holds Tryz.pinned (OpenSpec.upto saturateProvesSpec)

/-- 'inquestlaw31.SearchProves', WHERE WHAT IT READS IS OF BULK AT MOST 1048576: true; the input reads as it did. -/
def searchProvesUptoRow : OpenClaim := { program := "ytfhnamomiaekdaagreatdoor", sum := "be7b9e08bb0246da17e98dcc5250b6ce3423d5a81a7c9f216457d818e84bdbc5", func := "inquest/inquestlaw31.SearchProves", spec := "searchProves", unfollowed := true, recurses := true, named := ["math/bits.deBruijn64tab"], plainKeys := false, apart := false, laid := [("math/bits.deBruijn64tab", laid_math_bits_deBruijn64tab)], narrowed := true }
def SearchProvesUptoSaid : Prop := searchProvesUptoRow.holds Tryz.pinned (OpenSpec.upto searchProvesSpec)

end Rows
end Go.Proofs.YtfhnamomiaekdaaGreatDoor
