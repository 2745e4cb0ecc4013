/-
  Walks: the reference of layer 1: digits, Show.
-/
import Derived.Test.YtmhgbckjkmjeeaaDoorLine0
import Derived.Test.YtmhgbckjkmjeeaaDoorNumP
import Derived.Test.YtmhgbckjkmjeeaaDoorEvW
import Derived.Laws.IdiomStrings
set_option linter.unusedVariables false
set_option linter.unusedSimpArgs false
namespace Go.Proofs.YtmhgbckjkmjeeaaDoor
open Go.RowKit Go.Inq
set_option maxHeartbeats 1000000
attribute [local go_sem ↓] Go.wp_at_zero Go.wp_at_succ

theorem rdigit_any (b : UInt8) (w : World) : Calls Tryd.prog 57 #[.int .u8 b.toNat] w fun e w' => e = .returned (.bool (digitB b)) ∧ w = w' := by
  have e : digitB b = (decide (48 ≤ (b.toNat : Int)) && decide ((b.toNat : Int) ≤ 57)) := by
    unfold digitB
    rw [Bool.eq_iff_iff]
    simp [UInt8.le_iff_toNat_le]
    omega
  by_cases h0 : 48 ≤ (b.toNat : Int)
  · have h0' : decide (48 ≤ (b.toNat : Int)) = true := by simpa using h0
    have e2 := hide e
    clear e
    go_enter Tryd.func57, Tryd.ntmps57
    go_wp2
    go_ret
    exact ⟨ret_bool (by rw [e2.out, h0']; simp), rfl⟩
  · have h0' : decide (48 ≤ (b.toNat : Int)) = false := by simpa using h0
    have e2 := hide e
    clear e
    go_enter Tryd.func57, Tryd.ntmps57
    go_wp2
    go_ret
    exact ⟨ret_bool (by rw [e2.out, h0']; simp), rfl⟩
theorem rdigit_yes {b : UInt8} (h : digitB b = true) (w : World) : Calls Tryd.prog 57 #[.int .u8 b.toNat] w fun e w' => e = .returned (.bool true) ∧ w = w' := by
  have := rdigit_any b w
  rw [h] at this
  exact this
theorem rdigit_no {b : UInt8} (h : digitB b = false) (w : World) : Calls Tryd.prog 57 #[.int .u8 b.toNat] w fun e w' => e = .returned (.bool false) ∧ w = w' := by
  have := rdigit_any b w
  rw [h] at this
  exact this

/-- One digit as a string: the bytes of a block of its own. -/
theorem digit_conv (n : Nat) (w : World) : (convert 62 9 (.slice (some ⟨w.heap.size, 0, none⟩) 1 1)).run Tryd.prog (w.alloc (.cells #[.int .u8 (48 + (n : Int) % 10)] 5)) =
    .ok (.string (mk [dig (n % 10)])) (w.alloc (.cells #[.int .u8 (48 + (n : Int) % 10)] 5)) := by
  refine run_convert_bytes_back (P := Tryd.prog) _ 62 9 5 ⟨w.heap.size, 0, none⟩ 1 [dig (n % 10)] Tryd.underlying62 Tryd.underlying5 Tryd.underlying9 (fun j hj => ?_)
  have : j = 0 := by simp at hj; exact hj
  subst this
  have hb : Blk (w.alloc (.cells #[.int .u8 (48 + (n : Int) % 10)] 5)) w.heap.size 5 _ := Blk.new _ _ _
  have := hb.cell 0
  rw [show (⟨w.heap.size, 0, none⟩ : Addr).add 0 = ⟨w.heap.size, 0, none⟩ from rfl, this]
  simp [dig_toNat (show n % 10 < 10 by omega)]

set_option maxRecDepth 100000 in
theorem rdigits_any (n : Nat) : n ≤ 2147483647 → ∀ w : World, Calls Tryd.prog 56 #[.int .i64 n] w fun e w' => e = .returned (.string (mk (numR n))) ∧ Below w.heap.size w w' := by
  refine numR_ind (P := fun n => n ≤ 2147483647 → ∀ w : World, Calls Tryd.prog 56 #[.int .i64 n] w fun e w' => e = .returned (.string (mk (numR n))) ∧ Below w.heap.size w w') (fun n h hn w => ?_) (fun n h ih hn w => ?_) n
  · have h1 : (n : Int) < 10 := by omega
    have h2 : (0 : Int) ≤ (n : Int) := Int.natCast_nonneg _
    have hcv := digit_conv n w
    go_enter Tryd.func56, Tryd.ntmps56
    go_wp2
    go_ret
    exact ⟨by rw [numR_low h, Nat.mod_eq_of_lt h]; rfl, (Below.refl _ _).alloc (Nat.le_refl _) _⟩
  · have ih' : ∀ w : World, Calls Tryd.prog 56 #[.int .i64 ((n : Int) / 10)] w fun e w' => e = .returned (.string (mk (numR (n / 10)))) ∧ Below w.heap.size w w' := fun w => by
      have := ih (by omega) w
      rwa [Int.natCast_ediv] at this
    have h1 : ¬ (n : Int) < 10 := by omega
    have h2 : (0 : Int) ≤ (n : Int) := Int.natCast_nonneg _
    have h3 : (n : Int) ≤ 2147483647 := by omega
    have hcv := digit_conv n w
    have hsz : (mk (numR (n / 10))).size + (mk [dig (n % 10)]).size ≤ 100 := by
      have := numR_ten (show n / 10 ≤ 2147483647 by omega)
      rw [mk_size, mk_size, List.length_singleton]
      omega
    have hb0 : Below w.heap.size w (w.alloc (.cells #[.int .u8 (48 + (n : Int) % 10)] 5)) := (Below.refl _ _).alloc (Nat.le_refl _) _
    clear ih
    go_enter Tryd.func56, Tryd.ntmps56
    go_wp2_with (go_at_call 56; refine (ih' _).mono ?_; rintro e w' ⟨rfl, hb⟩)
    go_ret
    refine ⟨by rw [numR_high h, mk_append]; rfl, hb0.trans (hb.mono (Nat.le_of_lt (by simp)))⟩
theorem rshow01_any (n : Int) (w : World) : Calls Tryd.prog 46 #[.int .i64 n] w fun e w' => e = .returned (.tuple #[.string (mk (showN n).1), .int .i64 (showN n).2]) ∧ Below w.heap.size w w' := by
  by_cases h : 0 ≤ n ∧ n ≤ 2147483647
  · obtain ⟨k, rfl⟩ := Int.eq_ofNat_of_zero_le h.1
    have hi : belowB (k : Int) 2147483648 = true := by simp [belowB]; omega
    have his := is_any k w
    rw [hi] at his
    have hd := rdigits_any k (by omega)
    have hs : Hid (showN (k : Int) = (numR k, 0)) := by unfold Hid showN; rw [if_pos h]; rfl
    clear h hi
    go_enter Tryd.func46, Tryd.ntmps46
    go_wp2_with (first | (go_at_call 35; refine his.mono ?_; rintro e w' ⟨rfl, rfl⟩) | (go_at_call 56; refine (hd _).mono ?_; rintro e w' ⟨rfl, hb⟩))
    go_ret2
    exact ⟨by rw [hs.out]; rfl, hb⟩
  · have hi : belowB n 2147483648 = false := by unfold belowB; rw [Bool.and_eq_false_iff, decide_eq_false_iff_not, decide_eq_false_iff_not]; omega
    have his := is_any n w
    rw [hi] at his
    have hs : Hid (showN n = ([], 1)) := by unfold Hid showN; rw [if_neg h]
    clear h hi
    go_enter Tryd.func46, Tryd.ntmps46
    go_wp2_with (go_at_call 35; refine his.mono ?_; rintro e w' ⟨rfl, rfl⟩)
    go_ret2
    exact ⟨by rw [hs.out]; rfl, Below.refl _ _⟩
end Go.Proofs.YtmhgbckjkmjeeaaDoor
