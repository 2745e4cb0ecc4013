/-
  Plain words of come, in its own order; no program in sight.
-/
import Derived.Test.YtfodlklpfffaaaaGreatDoorC02
set_option linter.unusedVariables false
set_option linter.unusedSimpArgs false
namespace Go.Inq

/-- May t come, as far as the nodes below j say? -/
def freeTo (H : List Txn) (path : List Int) (t j : Nat) : Bool := !path.contains (t : Int) && (List.range j).all fun (x : Nat) => !pastE H x t || path.contains (x : Int)
def comeTo (H : List Txn) (path : List Int) (k : Nat) : List Int := ((List.range k).filter fun (t : Nat) => freeTo H path t H.length).map fun (t : Nat) => (t : Int)
theorem freeTo_zero (H : List Txn) (path : List Int) (t : Nat) : freeTo H path t 0 = !path.contains (t : Int) := by simp [freeTo]
theorem freeTo_step (H : List Txn) (path : List Int) (t j : Nat) : freeTo H path t (j + 1) = (freeTo H path t j && (!pastE H j t || path.contains (j : Int))) := by
  unfold freeTo
  rw [List.range_succ, List.all_append, ← Bool.and_assoc]
  simp
theorem comeTo_all (H : List Txn) (path : List Int) : comeTo H path H.length = comeW H path := rfl
theorem comeTo_step (H : List Txn) (path : List Int) (k : Nat) : comeTo H path (k + 1) = comeTo H path k ++ (if freeTo H path k H.length then [(k : Int)] else []) := by
  unfold comeTo
  rw [List.range_succ, List.filter_append, List.map_append]
  congr 1
  cases h : freeTo H path k H.length <;> simp [List.filter_cons, h]
theorem comeTo_len (H : List Txn) (path : List Int) (k : Nat) : (comeTo H path k).length ≤ k := by
  unfold comeTo
  rw [List.length_map]
  exact Nat.le_trans (List.length_filter_le _ _) (by simp)
end Go.Inq
