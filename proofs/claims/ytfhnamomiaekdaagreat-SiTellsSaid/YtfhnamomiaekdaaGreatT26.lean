/-
  Walks: layer 12: two graphs, one behind the other.
-/
import Derived.Test.YtfhnamomiaekdaaGreatT25
set_option linter.unusedVariables false
set_option linter.unusedSimpArgs false
namespace Go.Proofs.YtfhnamomiaekdaaGreat
open Go.RowKit Go.Inq
set_option maxHeartbeats 4000000
attribute [local go_sem ↓] Go.wp_at_zero Go.wp_at_succ

/-- The rows below k done, row k as far as some nodes. -/
def midE (n : Nat) (E F : Edges) (k : Nat) (l : List Nat) : Edges := fun a c => (decide (a < k) && thenE n E F a c) || (decide (a = k) && l.any fun b => F b c)
theorem midE_start (n : Nat) (E F : Edges) : midE n E F 0 [] = noE := by funext a c; simp [midE, noE]
theorem midE_step {n : Nat} {E F : Edges} {k y : Nat} {l : List Nat} (hk : k < n) : (rowsB n (midE n E F k l)).setIfInBounds k (.int .u64 (setB (midE n E F k l k) n ||| setB (F y) n : Nat)) = rowsB n (midE n E F k (l ++ [y])) := by
  rw [rowsB_set hk (setB_or (p := midE n E F k l k) (q := F y) (n := n))]
  refine rowsB_congr fun a b ha hb => ?_
  by_cases e : a = k
  · subst e; simp [midE]
  · simp [midE, e]
theorem midE_next {n : Nat} {E F : Edges} {k : Nat} : rowsB n (midE n E F k ((List.range n).filter (E k))) = rowsB n (midE n E F (k + 1) []) := by
  refine rowsB_congr fun a b ha hb => ?_
  unfold midE thenE
  by_cases e : a = k
  · subst e
    simp only [Nat.lt_irrefl, decide_false, Bool.false_and, Bool.false_or, decide_true, Bool.true_and, List.any_nil, Bool.and_false, Bool.or_false, Nat.lt_succ_self]
    rw [List.any_filter]
  · have : decide (a < k + 1) = decide (a < k) := by simp; omega
    simp [e, this]
theorem midE_all {n : Nat} {E F : Edges} : rowsB n (midE n E F n []) = rowsB n (thenE n E F) := rowsB_congr fun a b ha hb => by simp [midE, ha]
end Go.Proofs.YtfhnamomiaekdaaGreat
