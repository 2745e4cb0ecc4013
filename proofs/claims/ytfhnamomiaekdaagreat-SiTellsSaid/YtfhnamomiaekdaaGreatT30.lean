/-
  Walks: layer 17: the past.
-/
import Derived.Test.YtfhnamomiaekdaaGreatT27
import Derived.Test.YtfhnamomiaekdaaGreatT23
set_option linter.unusedVariables false
set_option linter.unusedSimpArgs false
namespace Go.Proofs.YtfhnamomiaekdaaGreat
open Go.RowKit Go.Inq
set_option maxHeartbeats 4000000
attribute [local go_sem ↓] Go.wp_at_zero Go.wp_at_succ

/-- A graph whose rows are a block of the call's own. -/
def GV (base n : Nat) (E : Edges) (v : Value) (W : World) : Prop := ∃ g, base ≤ g ∧ v = .agg #[.int .i64 n, .slice (some ⟨g, 0, none⟩) n n] ∧ Blk W g 246 (rowsB n E)
theorem GV.below {base n : Nat} {E : Edges} {v : Value} {W W' : World} (h : GV base n E v W) (hb : Below W.heap.size W W') : GV base n E v W' := by
  obtain ⟨g, h1, h2, h3⟩ := h
  exact ⟨g, h1, h2, h3.below hb h3.lt⟩
def pastD : Nat → List Nat
  | 1 => [0]
  | 3 => [2]
  | 4 => [1, 3]
  | 5 => [4]
  | 6 => [5]
  | 7 => [5]
  | 9 => [8, 6]
  | 10 => [7]
  | _ => []
theorem pastD_end : ∀ i, 11 ≤ i → pastD i = [] := by
  intro i hi
  match i, hi with
  | n + 11, _ => rfl
end Go.Proofs.YtfhnamomiaekdaaGreat
