/-
  Walks: event.Right, and the references of layers 1 and 3 that tell whether an event may be.
-/
import Derived.Test.YtapkbinlhmddiaaProg
import Derived.Test.YtapkbinlhmddiaaEv
set_option linter.unusedVariables false
set_option linter.unusedSimpArgs false
namespace Go.Proofs.Ytapkbinlhmddiaa
open Go.RowKit Go.Inq
set_option maxHeartbeats 400000

theorem below_any (n m : Int) (w : World) :
    Calls Try.prog 33 #[.int .i64 n, .int .i64 m] w fun e w' => e = .returned (.bool (belowB n m)) ∧ w = w' := by
  by_cases h0 : 0 ≤ n
  · go_enter Try.func33, Try.ntmps33
    go_wp2
    go_ret
    exact ⟨by simp [belowB, h0], rfl⟩
  · go_enter Try.func33, Try.ntmps33
    go_wp2
    go_ret
    exact ⟨by simp [belowB]; omega, rfl⟩

theorem item_any (k : Int) (w : World) :
    Calls Try.prog 34 #[.int .i64 k] w fun e w' => e = .returned (.bool (itemB k)) ∧ w = w' := by
  by_cases h0 : k = 1
  · go_enter Try.func34, Try.ntmps34
    go_wp2
    go_ret
    exact ⟨by simp [itemB, h0], rfl⟩
  · go_enter Try.func34, Try.ntmps34
    go_wp2
    go_ret
    exact ⟨by simp [itemB, h0], rfl⟩

theorem right_any (e : Ev) (w : World) :
    Calls Try.prog 24 #[.agg #[.int .i64 e.kind, .int .i64 e.sess, .int .i64 e.key, .int .i64 e.val]] w fun x w' => x = .returned (.bool e.right) ∧ Below w.heap.size w w' := by
  obtain ⟨k, s, y, v⟩ := e
  go_enter Try.func24, Try.ntmps24
  go_wp2_with (first | (go_at_call 33; refine (below_any _ _ _).mono ?_; rintro e w' ⟨rfl, rfl⟩) | (go_at_call 34; refine (item_any _ _).mono ?_; rintro e w' ⟨rfl, rfl⟩))
  all_goals go_ret
  all_goals refine ⟨?_, (Below.refl _ _).alloc (Nat.le_refl _) _⟩
  all_goals go_light
  all_goals simp_all [Ev.right]

theorem is_any (n : Int) (w : World) :
    Calls Try.prog 42 #[.int .i64 n] w fun e w' => e = .returned (.bool (belowB n 2147483648)) ∧ w = w' := by
  by_cases h0 : 0 ≤ n
  · go_enter Try.func42, Try.ntmps42
    go_wp2
    go_ret
    exact ⟨by simp [belowB, h0]; omega, rfl⟩
  · go_enter Try.func42, Try.ntmps42
    go_wp2
    go_ret
    exact ⟨by simp [belowB]; omega, rfl⟩

theorem rright_any (e : Ev) (w : World) :
    Calls Try.prog 28 #[.agg #[.int .i64 e.kind, .int .i64 e.sess, .int .i64 e.key, .int .i64 e.val]] w fun x w' => x = .returned (.bool e.right) ∧ Below w.heap.size w w' := by
  obtain ⟨k, s, y, v⟩ := e
  go_enter Try.func28, Try.ntmps28
  go_wp2_with (go_at_call 42; refine (is_any _ _).mono ?_; rintro e w' ⟨rfl, rfl⟩)
  all_goals go_ret
  all_goals refine ⟨ret_bool ?_, (Below.refl _ _).alloc (Nat.le_refl _) _⟩
  all_goals go_light
  all_goals grind [Ev.right, belowB, itemB]
end Go.Proofs.Ytapkbinlhmddiaa
