/-
  Walks: layer 18: all that must not lead back.
-/
import Derived.Test.YtfhnamomiaekdaaGreatT28
import Derived.Test.YtfhnamomiaekdaaGreatT30
set_option linter.unusedVariables false
set_option linter.unusedSimpArgs false
namespace Go.Proofs.YtfhnamomiaekdaaGreat
open Go.RowKit Go.Inq
set_option maxHeartbeats 8000000
attribute [local go_sem ↓] Go.wp_at_zero Go.wp_at_succ

def fullD : Nat → List Nat
  | 1 => [0]
  | 4 => [2, 3]
  | 5 => [4]
  | 6 => [1, 5]
  | 8 => [7, 6]
  | _ => []
def fullK : Nat → List Nat
  | 8 => [5]
  | _ => []
theorem fullD_end : ∀ i, 9 ≤ i → fullD i = [] := by
  intro i hi
  match i, hi with
  | n + 9, _ => rfl
theorem fullE_eq (H : List Txn) (level : Int) (l : List Cho) : fullE H level l = orE (orE (pastE H) (wwE l)) (if level = 1 then thenE H.length (orE (pastE H) (wwE l)) (rwE H l) else rwE H l) := rfl
end Go.Proofs.YtfhnamomiaekdaaGreat
