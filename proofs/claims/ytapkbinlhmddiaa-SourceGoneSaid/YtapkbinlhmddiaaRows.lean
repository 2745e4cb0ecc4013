/-
  No cell of these rows narrows 'for every input' (looked for: loops, veiled, ifaces, maps, wideKeys, modest, calm, conditions, laid).
  DERIVED. THE GIVEN ROWS OF THIS SEAT. 4 by the template 'for every input the law returns true; each argument reads behind the call as it read before'; 0 by the template 'total and deterministic' (their statements: YtapkbinlhmddiaaTotals.lean).
  GIVEN WITH THE SEED: the statements are not yours to turn. If you find one false, say at which input.
  Laid BY PROGRAM, IN A SANDBOX (cutbox-rows.mjs): the forced cells as the released guide's own fill.sh prints them over the translation 2c3784452cfe72af… (all of the seat's roots in one cut). By AI agents, Wed Nov 11 2026. No macro, syntax, notation, axiom, sorry.
-/
import Derived.Test.YtapkbinlhmddiaaChecked
import GoSem.Claim
import GoSem.ClaimJoined
import GoSem.ClaimMapViews
import Derived.JoinedTies
import Derived.KernelRfl
namespace Go.Proofs.Ytapkbinlhmddiaa
/- THE CELL 'sum', in the pinned program and in every row, IS THE sha256 OF THE DUMP (.gsa) THAT YtapkbinlhmddiaaProg.lean LOADS. Nothing in Lean hashes anything: it is a label: what it is worth is what the hold of that sum in a sandbox is worth. -/
noncomputable def Try.pinned : Pinned := { name := "ytapkbinlhmddiaa", sum := "2c3784452cfe72af47190a3fcab7887a79c591d830a151d78b1b61b5d96b7361", checked := Try.checked }
namespace Rows
def none {H : Type} : Left H := { results := [], args := [] }

/-- 'inquestlaw07.SourceTells': WHATEVER THE INPUT: true; the input reads as it did. -/
def sourceTellsSpec : ChangeSpec := { name := "sourceTells", fn := fun _ => fun
  | [d] => { results := [.lit (.bool true)], args := [d] }
  | _ => none }
def sourceTellsRow : OpenClaim := { program := "ytapkbinlhmddiaa", sum := "2c3784452cfe72af47190a3fcab7887a79c591d830a151d78b1b61b5d96b7361", func := "inquest/inquestlaw07.SourceTells", spec := "sourceTells", inPlace := ["slices.overlaps[inquest/inner.Item]"], unfollowed := true, recurses := true, plainKeys := false, apart := false }
def SourceTellsSaid : Prop := sourceTellsRow.holds Try.pinned (OpenSpec.ofChange sourceTellsSpec)

/-- ITS FALSE NEIGHBOUR: 'it returns false'. Refute it at one input. -/
def sourceTellsWrong : ChangeSpec := { name := "sourceTells", fn := fun _ => fun
  | [d] => { results := [.lit (.bool false)], args := [d] }
  | _ => none }
def SourceTellsWrongFalsely : Prop := sourceTellsRow.holds Try.pinned (OpenSpec.ofChange sourceTellsWrong)

/-- 'inquestlaw07.SourceRight': WHATEVER THE INPUT: true; the input reads as it did. -/
def sourceRightSpec : ChangeSpec := { name := "sourceRight", fn := fun _ => fun
  | [d] => { results := [.lit (.bool true)], args := [d] }
  | _ => none }
def sourceRightRow : OpenClaim := { program := "ytapkbinlhmddiaa", sum := "2c3784452cfe72af47190a3fcab7887a79c591d830a151d78b1b61b5d96b7361", func := "inquest/inquestlaw07.SourceRight", spec := "sourceRight", inPlace := ["slices.overlaps[inquest/inner.Item]"], unfollowed := true, recurses := true, plainKeys := false, apart := false }
def SourceRightSaid : Prop := sourceRightRow.holds Try.pinned (OpenSpec.ofChange sourceRightSpec)

/-- ITS FALSE NEIGHBOUR: 'it returns false'. Refute it at one input. -/
def sourceRightWrong : ChangeSpec := { name := "sourceRight", fn := fun _ => fun
  | [d] => { results := [.lit (.bool false)], args := [d] }
  | _ => none }
def SourceRightWrongFalsely : Prop := sourceRightRow.holds Try.pinned (OpenSpec.ofChange sourceRightWrong)

/-- 'inquestlaw07.SourceNames': WHATEVER THE INPUT: true; the input reads as it did. -/
def sourceNamesSpec : ChangeSpec := { name := "sourceNames", fn := fun _ => fun
  | [d1, d2] => { results := [.lit (.bool true)], args := [d1, d2] }
  | _ => none }
def sourceNamesRow : OpenClaim := { program := "ytapkbinlhmddiaa", sum := "2c3784452cfe72af47190a3fcab7887a79c591d830a151d78b1b61b5d96b7361", func := "inquest/inquestlaw07.SourceNames", spec := "sourceNames", inPlace := ["slices.overlaps[inquest/inner.Item]"], unfollowed := true, recurses := true, plainKeys := false, apart := false }
def SourceNamesSaid : Prop := sourceNamesRow.holds Try.pinned (OpenSpec.ofChange sourceNamesSpec)

/-- ITS FALSE NEIGHBOUR: 'it returns false'. Refute it at one input. -/
def sourceNamesWrong : ChangeSpec := { name := "sourceNames", fn := fun _ => fun
  | [d1, d2] => { results := [.lit (.bool false)], args := [d1, d2] }
  | _ => none }
def SourceNamesWrongFalsely : Prop := sourceNamesRow.holds Try.pinned (OpenSpec.ofChange sourceNamesWrong)

/-- 'inquestlaw07.SourceGone': WHATEVER THE INPUT: true; the input reads as it did. -/
def sourceGoneSpec : ChangeSpec := { name := "sourceGone", fn := fun _ => fun
  | [d1, d2] => { results := [.lit (.bool true)], args := [d1, d2] }
  | _ => none }
def sourceGoneRow : OpenClaim := { program := "ytapkbinlhmddiaa", sum := "2c3784452cfe72af47190a3fcab7887a79c591d830a151d78b1b61b5d96b7361", func := "inquest/inquestlaw07.SourceGone", spec := "sourceGone", inPlace := ["slices.overlaps[inquest/inner.Item]"], unfollowed := true, recurses := true, plainKeys := false, apart := false }
def SourceGoneSaid : Prop := sourceGoneRow.holds Try.pinned (OpenSpec.ofChange sourceGoneSpec)

/-- ITS FALSE NEIGHBOUR: 'it returns false'. Refute it at one input. -/
def sourceGoneWrong : ChangeSpec := { name := "sourceGone", fn := fun _ => fun
  | [d1, d2] => { results := [.lit (.bool false)], args := [d1, d2] }
  | _ => none }
def SourceGoneWrongFalsely : Prop := sourceGoneRow.holds Try.pinned (OpenSpec.ofChange sourceGoneWrong)

/- THE SECOND FORM. 'bulk': how many values and letters a reading holds, each counted each time it is reached (what is shared counts as often as it is met; a slice's spare places count too). A statement '..UptoSaid' is the law's where the arguments, and the package variables that the reading takes, are together of bulk at most 1048576: NARROWER than '..Said'. Prove '..Said' where nothing that the law and all that it calls make is longer than what came in: it says more and counts as full. Else prove '..UptoSaid'. A law counts once. -/
mutual
def uptoBulk {H : Type} : DataW H → Nat
  | .lit (.string bytes) => bytes.length + 1
  | .lit _ => 1
  | .nil => 1
  | .ptr d => uptoBulk d + 1
  | .slice elems spare => uptoBulkAll elems + uptoBulkAll spare + 1
  | .agg parts => uptoBulkAll parts + 1
  | .iface _ d => uptoBulk d + 1
  | .map entries => uptoBulkEntries entries + 1
  | .held _ => 1
def uptoBulkAll {H : Type} : List (DataW H) → Nat
  | [] => 0
  | d :: r => uptoBulk d + uptoBulkAll r
def uptoBulkEntries {H : Type} : List (Lit × DataW H) → Nat
  | [] => 0
  | x :: r => uptoBulkEntry x + uptoBulkEntries r
def uptoBulkEntry {H : Type} : Lit × DataW H → Nat
  | (.string bytes, d) => bytes.length + uptoBulk d + 1
  | (_, d) => uptoBulk d + 1
 end
def uptoSmall : (H : Type) → List (DataW H) → Bool := fun _ ds => decide (uptoBulkAll ds ≤ 1048576)
def OpenSpec.upto (s : _root_.Go.ChangeSpec) : _root_.Go.OpenSpec := { _root_.Go.OpenSpec.ofChange s with cond := some uptoSmall }

/-- 'inquestlaw07.SourceTells', WHERE WHAT IT READS IS OF BULK AT MOST 1048576: true; the input reads as it did. -/
def sourceTellsUptoRow : OpenClaim := { program := "ytapkbinlhmddiaa", sum := "2c3784452cfe72af47190a3fcab7887a79c591d830a151d78b1b61b5d96b7361", func := "inquest/inquestlaw07.SourceTells", spec := "sourceTells", inPlace := ["slices.overlaps[inquest/inner.Item]"], unfollowed := true, recurses := true, plainKeys := false, apart := false, narrowed := true }
def SourceTellsUptoSaid : Prop := sourceTellsUptoRow.holds Try.pinned (OpenSpec.upto sourceTellsSpec)

/-- 'inquestlaw07.SourceRight', WHERE WHAT IT READS IS OF BULK AT MOST 1048576: true; the input reads as it did. -/
def sourceRightUptoRow : OpenClaim := { program := "ytapkbinlhmddiaa", sum := "2c3784452cfe72af47190a3fcab7887a79c591d830a151d78b1b61b5d96b7361", func := "inquest/inquestlaw07.SourceRight", spec := "sourceRight", inPlace := ["slices.overlaps[inquest/inner.Item]"], unfollowed := true, recurses := true, plainKeys := false, apart := false, narrowed := true }
def SourceRightUptoSaid : Prop := sourceRightUptoRow.holds Try.pinned (OpenSpec.upto sourceRightSpec)

/-- 'inquestlaw07.SourceNames', WHERE WHAT IT READS IS OF BULK AT MOST 1048576: true; the input reads as it did. -/
def sourceNamesUptoRow : OpenClaim := { program := "ytapkbinlhmddiaa", sum := "2c3784452cfe72af47190a3fcab7887a79c591d830a151d78b1b61b5d96b7361", func := "inquest/inquestlaw07.SourceNames", spec := "sourceNames", inPlace := ["slices.overlaps[inquest/inner.Item]"], unfollowed := true, recurses := true, plainKeys := false, apart := false, narrowed := true }
def SourceNamesUptoSaid : Prop := sourceNamesUptoRow.holds Try.pinned (OpenSpec.upto sourceNamesSpec)

/-- 'inquestlaw07.SourceGone', WHERE WHAT IT READS IS OF BULK AT MOST 1048576: true; the input reads as it did. -/
def sourceGoneUptoRow : OpenClaim := { program := "ytapkbinlhmddiaa", sum := "2c3784452cfe72af47190a3fcab7887a79c591d830a151d78b1b61b5d96b7361", func := "inquest/inquestlaw07.SourceGone", spec := "sourceGone", inPlace := ["slices.overlaps[inquest/inner.Item]"], unfollowed := true, recurses := true, plainKeys := false, apart := false, narrowed := true }
def SourceGoneUptoSaid : Prop := sourceGoneUptoRow.holds Try.pinned (OpenSpec.upto sourceGoneSpec)

end Rows
end Go.Proofs.Ytapkbinlhmddiaa
