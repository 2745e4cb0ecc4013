/-
  No cell of these rows narrows 'for every input' (looked for: loops, veiled, ifaces, maps, wideKeys, modest, calm, conditions, laid).
  DERIVED. THE GIVEN ROWS OF THIS SEAT. 3 by the template 'for every input the law returns true; each argument reads behind the call as it read before'; 0 by the template 'total and deterministic' (their statements: YtfhnamomiaekdaaGreatTotals.lean).
  GIVEN WITH THE SEED: the statements are not yours to turn. If you find one false, say at which input.
  Laid BY PROGRAM, IN A SANDBOX (cutbox-rows.mjs): the forced cells as the released guide's own fill.sh prints them over the translation a3da036565058863… (all of the seat's roots in one cut). By AI agents, Wed Nov 11 2026. No macro, syntax, notation, axiom, sorry.
-/
import Derived.Test.YtfhnamomiaekdaaGreatChecked
import GoSem.Claim
import GoSem.ClaimJoined
import GoSem.ClaimMapViews
import Derived.JoinedTies
import Derived.KernelRfl
namespace Go.Proofs.YtfhnamomiaekdaaGreat
/- THE CELL 'sum', in the pinned program and in every row, IS THE sha256 OF THE DUMP (.gsa) THAT YtfhnamomiaekdaaGreatProg.lean LOADS. Nothing in Lean hashes anything: it is a label: what it is worth is what the hold of that sum in a sandbox is worth. -/
noncomputable def Tryz.pinned : Pinned := { name := "ytfhnamomiaekdaagreat", sum := "a3da0365650588630eb4f0c2cace65179ac8a32c579c145293bf8cd46aad0fd1", checked := Tryz.checked }
namespace Rows
def none {H : Type} : Left H := { results := [], args := [] }

/-- 'inquestlaw21.SiTells': WHATEVER THE INPUT: true; the input reads as it did. -/
def siTellsSpec : ChangeSpec := { name := "siTells", fn := fun _ => fun
  | [d1, d2, d3] => { results := [.lit (.bool true)], args := [d1, d2, d3] }
  | _ => none }
def siTellsRow : OpenClaim := { program := "ytfhnamomiaekdaagreat", sum := "a3da0365650588630eb4f0c2cace65179ac8a32c579c145293bf8cd46aad0fd1", func := "inquest/inquestlaw21.SiTells", spec := "siTells", unfollowed := true, recurses := true, plainKeys := false, apart := false }
def SiTellsSaid : Prop := siTellsRow.holds Tryz.pinned (OpenSpec.ofChange siTellsSpec)

/-- ITS FALSE NEIGHBOUR: 'it returns false'. Refute it at one input. -/
def siTellsWrong : ChangeSpec := { name := "siTells", fn := fun _ => fun
  | [d1, d2, d3] => { results := [.lit (.bool false)], args := [d1, d2, d3] }
  | _ => none }
def SiTellsWrongFalsely : Prop := siTellsRow.holds Tryz.pinned (OpenSpec.ofChange siTellsWrong)

/-- 'inquestlaw36.FrozenTells': WHATEVER THE INPUT: true; the input reads as it did. -/
def frozenTellsSpec : ChangeSpec := { name := "frozenTells", fn := fun _ => fun
  | [d1, d2] => { results := [.lit (.bool true)], args := [d1, d2] }
  | _ => none }
def frozenTellsRow : OpenClaim := { program := "ytfhnamomiaekdaagreat", sum := "a3da0365650588630eb4f0c2cace65179ac8a32c579c145293bf8cd46aad0fd1", func := "inquest/inquestlaw36.FrozenTells", spec := "frozenTells", unfollowed := true, recurses := true, plainKeys := false, apart := false }
def FrozenTellsSaid : Prop := frozenTellsRow.holds Tryz.pinned (OpenSpec.ofChange frozenTellsSpec)

/-- ITS FALSE NEIGHBOUR: 'it returns false'. Refute it at one input. -/
def frozenTellsWrong : ChangeSpec := { name := "frozenTells", fn := fun _ => fun
  | [d1, d2] => { results := [.lit (.bool false)], args := [d1, d2] }
  | _ => none }
def FrozenTellsWrongFalsely : Prop := frozenTellsRow.holds Tryz.pinned (OpenSpec.ofChange frozenTellsWrong)

/-- 'inquestlaw36.FrozenOwn': WHATEVER THE INPUT: true; the input reads as it did. -/
def frozenOwnSpec : ChangeSpec := { name := "frozenOwn", fn := fun _ => fun
  | [d] => { results := [.lit (.bool true)], args := [d] }
  | _ => none }
def frozenOwnRow : OpenClaim := { program := "ytfhnamomiaekdaagreat", sum := "a3da0365650588630eb4f0c2cace65179ac8a32c579c145293bf8cd46aad0fd1", func := "inquest/inquestlaw36.FrozenOwn", spec := "frozenOwn", unfollowed := true, recurses := true, plainKeys := false, apart := false }
def FrozenOwnSaid : Prop := frozenOwnRow.holds Tryz.pinned (OpenSpec.ofChange frozenOwnSpec)

/-- ITS FALSE NEIGHBOUR: 'it returns false'. Refute it at one input. -/
def frozenOwnWrong : ChangeSpec := { name := "frozenOwn", fn := fun _ => fun
  | [d] => { results := [.lit (.bool false)], args := [d] }
  | _ => none }
def FrozenOwnWrongFalsely : Prop := frozenOwnRow.holds Tryz.pinned (OpenSpec.ofChange frozenOwnWrong)

/- THE SECOND FORM. 'bulk': how many values and letters a reading holds, each counted each time it is reached (what is shared counts as often as it is met; a slice's spare places count too). A statement '..UptoSaid' is the law's where the arguments, and the package variables that the reading takes, are together of bulk at most 1048576: NARROWER than '..Said'. Prove '..Said' where nothing that the law and all that it calls make is longer than what came in: it says more and counts as full. Else prove '..UptoSaid'. A law counts once. -/
mutual
def uptoBulk {H : Type} : DataW H → Nat
  | .lit (.string bytes) => bytes.length + 1
  | .lit _ => 1
  | .nil => 1
  | .ptr d => uptoBulk d + 1
  | .slice elems spare => uptoBulkAll elems + uptoBulkAll spare + 1
  | .agg parts => uptoBulkAll parts + 1
  | .iface _ d => uptoBulk d + 1
  | .map entries => uptoBulkEntries entries + 1
  | .held _ => 1
def uptoBulkAll {H : Type} : List (DataW H) → Nat
  | [] => 0
  | d :: r => uptoBulk d + uptoBulkAll r
def uptoBulkEntries {H : Type} : List (Lit × DataW H) → Nat
  | [] => 0
  | x :: r => uptoBulkEntry x + uptoBulkEntries r
def uptoBulkEntry {H : Type} : Lit × DataW H → Nat
  | (.string bytes, d) => bytes.length + uptoBulk d + 1
  | (_, d) => uptoBulk d + 1
 end
def uptoSmall : (H : Type) → List (DataW H) → Bool := fun _ ds => decide (uptoBulkAll ds ≤ 1048576)
def OpenSpec.upto (s : _root_.Go.ChangeSpec) : _root_.Go.OpenSpec := { _root_.Go.OpenSpec.ofChange s with cond := some uptoSmall }

/-- 'inquestlaw21.SiTells', WHERE WHAT IT READS IS OF BULK AT MOST 1048576: true; the input reads as it did. -/
def siTellsUptoRow : OpenClaim := { program := "ytfhnamomiaekdaagreat", sum := "a3da0365650588630eb4f0c2cace65179ac8a32c579c145293bf8cd46aad0fd1", func := "inquest/inquestlaw21.SiTells", spec := "siTells", unfollowed := true, recurses := true, plainKeys := false, apart := false, narrowed := true }
def SiTellsUptoSaid : Prop := siTellsUptoRow.holds Tryz.pinned (OpenSpec.upto siTellsSpec)

/-- 'inquestlaw36.FrozenTells', WHERE WHAT IT READS IS OF BULK AT MOST 1048576: true; the input reads as it did. -/
def frozenTellsUptoRow : OpenClaim := { program := "ytfhnamomiaekdaagreat", sum := "a3da0365650588630eb4f0c2cace65179ac8a32c579c145293bf8cd46aad0fd1", func := "inquest/inquestlaw36.FrozenTells", spec := "frozenTells", unfollowed := true, recurses := true, plainKeys := false, apart := false, narrowed := true }
def FrozenTellsUptoSaid : Prop := frozenTellsUptoRow.holds Tryz.pinned (OpenSpec.upto frozenTellsSpec)

/-- 'inquestlaw36.FrozenOwn', WHERE WHAT IT READS IS OF BULK AT MOST 1048576: true; the input reads as it did. -/
def frozenOwnUptoRow : OpenClaim := { program := "ytfhnamomiaekdaagreat", sum := "a3da0365650588630eb4f0c2cace65179ac8a32c579c145293bf8cd46aad0fd1", func := "inquest/inquestlaw36.FrozenOwn", spec := "frozenOwn", unfollowed := true, recurses := true, plainKeys := false, apart := false, narrowed := true }
def FrozenOwnUptoSaid : Prop := frozenOwnUptoRow.holds Tryz.pinned (OpenSpec.upto frozenOwnSpec)

end Rows
end Go.Proofs.YtfhnamomiaekdaaGreat
