/-
  Walks: the reference of layer 2: sign.
-/
import Derived.Test.YtmhgbckjkmjeeaaDoorLine0
set_option linter.unusedVariables false
set_option linter.unusedSimpArgs false
namespace Go.Proofs.YtmhgbckjkmjeeaaDoor
open Go.RowKit Go.Inq
set_option maxHeartbeats 1000000
attribute [local go_sem ↓] Go.wp_at_zero Go.wp_at_succ
theorem sign_any (b : UInt8) (w : World) : Calls Tryd.prog 48 #[.int .u8 b.toNat] w fun e w' => e = .returned (.bool (signB b)) ∧ w = w' := by
  have e : signB b = (decide (33 ≤ (b.toNat : Int)) && decide ((b.toNat : Int) ≤ 126)) := by
    unfold signB
    rw [Bool.eq_iff_iff]
    simp [UInt8.le_iff_toNat_le]
    omega
  by_cases h0 : 33 ≤ (b.toNat : Int)
  · have h0' : decide (33 ≤ (b.toNat : Int)) = true := by simpa using h0
    have e2 := hide e
    clear e
    go_enter Tryd.func48, Tryd.ntmps48
    go_wp2
    go_ret
    exact ⟨ret_bool (by rw [e2.out, h0']; simp), rfl⟩
  · have h0' : decide (33 ≤ (b.toNat : Int)) = false := by simpa using h0
    have e2 := hide e
    clear e
    go_enter Tryd.func48, Tryd.ntmps48
    go_wp2
    go_ret
    exact ⟨ret_bool (by rw [e2.out, h0']; simp), rfl⟩

theorem byte_sp (b : UInt8) : ((b.toNat : Int) != 32) = decide (b ≠ 32) := by
  rw [Bool.eq_iff_iff, bne_iff_ne, decide_eq_true_iff]
  constructor
  · intro h e; apply h; rw [e]; rfl
  · intro h e; exact h (UInt8.toNat_inj.1 (by simpa using Int.ofNat_inj.1 e))

theorem sign_yes {b : UInt8} (h : signB b = true) (w : World) : Calls Tryd.prog 48 #[.int .u8 b.toNat] w fun e w' => e = .returned (.bool true) ∧ w = w' := by
  have := sign_any b w
  rw [h] at this
  exact this
theorem sign_no {b : UInt8} (h : signB b = false) (w : World) : Calls Tryd.prog 48 #[.int .u8 b.toNat] w fun e w' => e = .returned (.bool false) ∧ w = w' := by
  have := sign_any b w
  rw [h] at this
  exact this

end Go.Proofs.YtmhgbckjkmjeeaaDoor
