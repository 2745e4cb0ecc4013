/-
  Walks: slices.Index, Contains at choices.
-/
import Derived.Test.YtjomijnbnbideaaGreatDoorE07
set_option linter.unusedVariables false
set_option linter.unusedSimpArgs false
namespace Go.Proofs.YtjomijnbnbideaaGreatDoor
open Go.RowKit Go.Inq
set_option maxHeartbeats 2000000
attribute [local go_sem ↓] Go.wp_at_zero Go.wp_at_succ

theorem cho_eq (x : Cho) (k a b : Int) : decide (x = ⟨k, a, b⟩) = (decide (x.key = k) && decide (x.a = a) && decide (x.b = b)) := by
  obtain ⟨k', a', b'⟩ := x
  rw [Bool.eq_iff_iff]
  simp [and_assoc]
theorem indexOv_any (A : Option Addr) (c : Nat) (l : List Cho) (xk xa xb : Int) (w : World) (h : ChoS w (Old w) (.slice A l.length c) l) (hl : l.length ≤ 1000000000) :
    Calls Tryz.prog 282 #[.slice A l.length c, .agg #[.int .i64 xk, .int .i64 xa, .int .i64 xb]] w fun e w' => e = .returned (.int .i64 (idxP (fun x : Cho => decide (x = ⟨xk, xa, xb⟩)) l)) ∧ Below w.heap.size w w' := by
  have hhit := hide (fun k => idxP_hit (p := fun x : Cho => decide (x = ⟨xk, xa, xb⟩)) (l := l) (k := k))
  have hnone := hide (idxP_none (p := fun x : Cho => decide (x = ⟨xk, xa, xb⟩)) (l := l))
  obtain ⟨W0, hW0⟩ : ∃ W0, w.alloc (.cells #[.int .i64 xk, .int .i64 xa, .int .i64 xb] 49) = W0 := ⟨_, rfl⟩
  have hB := below_allocEq (Below.refl w.heap.size w) hW0 (Nat.le_refl _)
  have k0 := Blk.newEq hW0
  replace h := hide h
  go_enter Tryz.func282, Tryz.ntmps282
  go_wp2_with fail
  clear hW0
  go_loopw [8] (fun s8 wr => ∃ k : Nat, k ≤ l.length ∧ s8 = .int .i64 k ∧ Hid (∀ j (hj : j < l.length), j < k → decide (l[j] = ⟨xk, xa, xb⟩) = false) ∧ Below w.heap.size w wr ∧ Blk wr w.heap.size 49 #[.int .i64 xk, .int .i64 xa, .int .i64 xb]) (fun s8 _ => l.length - (intOf s8).toNat)
  case atStart => exact ⟨0, Nat.zero_le _, by go_num, fun j hj h => absurd h (by omega), hB, k0⟩
  case round =>
    clear k0 hB
    obtain ⟨k, hk, rfl, hall, hb, k0⟩ := hrel
    have hk1 : (0 : Int) ≤ (k : Int) := Int.natCast_nonneg _
    by_cases hlt : k < l.length
    · have hi2 : (k : Int) < (l.length : Int) := by omega
      obtain ⟨b, off, rfl, _, d0, d1, d2⟩ := (h.out.below hb).at_ hlt
      have hh := hide (fun g => hhit.out k hlt g hall.out)
      have hst : Hid (decide (l[k] = ⟨xk, xa, xb⟩) = false → ∀ j (hj : j < l.length), j < k + 1 → decide (l[j] = ⟨xk, xa, xb⟩) = false) := fun g j hj hjk => by
        by_cases e : j = k
        · subst e; exact g
        · exact hall.out j hj (by omega)
      have c0 := k0.cell 0
      have c1 := k0.cell 1
      have c2 := k0.cell 2
      simp only [List.getElem?_toArray, List.getElem?_cons_zero, List.getElem?_cons_succ] at c0 c1 c2
      clear hall
      generalize l[k] = x at *
      obtain ⟨yk, ya, yb⟩ := x
      dsimp only at *
      rw [cho_eq] at hh hst
      dsimp only at hh hst
      by_cases q0 : xk = yk
      · have q0b : (xk == yk) = true := by simpa using q0
        by_cases q1 : xa = ya
        · have q1b : (xa == ya) = true := by simpa using q1
          by_cases q2 : xb = yb
          · have q2b : (xb == yb) = true := by simpa using q2
            have hr := hide (hh.out (by simp [q0, q1, q2]))
            clear q0 q1 q2 hh hst
            go_wp2
            go_quiet (fail)
            go_wp2
            go_ret
            exact ⟨ret_int hr.out.symm, hb.trans ⟨rfl, rfl, rfl, Nat.le_refl _, fun _ _ => rfl⟩⟩
          · have q2b : (xb == yb) = false := by simpa using q2
            have hr := hide (hst.out (by simp [q0, q1, Ne.symm q2]))
            clear q0 q1 q2
            clear hh hst
            go_wp2
            go_quiet (fail)
            go_wp2
            go_roundw
            case rel => exact ⟨k + 1, by omega, by go_num, hr, hb.trans ⟨rfl, rfl, rfl, Nat.le_refl _, fun _ _ => rfl⟩, k0⟩
            case measure => simp [intOf]; omega
        · have q1b : (xa == ya) = false := by simpa using q1
          have hr := hide (hst.out (by simp [Ne.symm q1]))
          clear q0 q1
          clear hh hst
          go_wp2
          go_quiet (fail)
          go_wp2
          go_roundw
          case rel => exact ⟨k + 1, by omega, by go_num, hr, hb.trans ⟨rfl, rfl, rfl, Nat.le_refl _, fun _ _ => rfl⟩, k0⟩
          case measure => simp [intOf]; omega
      · have q0b : (xk == yk) = false := by simpa using q0
        have hr := hide (hst.out (by simp [Ne.symm q0]))
        clear q0
        clear hh hst
        go_wp2
        go_quiet (fail)
        go_wp2
        go_roundw
        case rel => exact ⟨k + 1, by omega, by go_num, hr, hb.trans ⟨rfl, rfl, rfl, Nat.le_refl _, fun _ _ => rfl⟩, k0⟩
        case measure => simp [intOf]; omega
    · have hr := hide (hnone.out fun j hj => hall.out j hj (by omega))
      go_wp2
      go_ret
      exact ⟨ret_int hr.out.symm, hb⟩
theorem containsOv_any (A : Option Addr) (c : Nat) (l : List Cho) (xk xa xb : Int) (w : World) (h : ChoS w (Old w) (.slice A l.length c) l) (hl : l.length ≤ 1000000000) :
    Calls Tryz.prog 281 #[.slice A l.length c, .agg #[.int .i64 xk, .int .i64 xa, .int .i64 xb]] w fun e w' => e = .returned (.bool (l.any fun x => decide (x = ⟨xk, xa, xb⟩))) ∧ Below w.heap.size w w' := by
  have hd := hide (idxP_any (fun x : Cho => decide (x = ⟨xk, xa, xb⟩)) l)
  obtain ⟨W0, hW0⟩ : ∃ W0, w.alloc (.cells #[.int .i64 xk, .int .i64 xa, .int .i64 xb] 49) = W0 := ⟨_, rfl⟩
  have hB := below_allocEq (Below.refl w.heap.size w) hW0 (Nat.le_refl _)
  have h0 := h.below hB
  have hcall := hide (indexOv_any A c l xk xa xb W0 h0 hl)
  have k0 := Blk.newEq hW0
  clear h h0
  have c0 := k0.cell 0
  have c1 := k0.cell 1
  have c2 := k0.cell 2
  simp only [List.getElem?_toArray, List.getElem?_cons_zero, List.getElem?_cons_succ] at c0 c1 c2
  go_enter Tryz.func281, Tryz.ntmps281
  go_wp2_with fail
  clear hW0 c0 c1 c2
  refine hcall.out.mono ?_
  rintro e w1 ⟨rfl, hb⟩
  clear hcall
  go_wp2
  go_ret
  exact ⟨by rw [← hd.out]; rfl, hB.trans (hb.mono hB.size)⟩
theorem indexCh_any (A : Option Addr) (c : Nat) (l : List Cho) (xk xa xb : Int) (w : World) (h : ChoS w (Old w) (.slice A l.length c) l) (hl : l.length ≤ 1000000000) :
    Calls Tryz.prog 156 #[.slice A l.length c, .agg #[.int .i64 xk, .int .i64 xa, .int .i64 xb]] w fun e w' => e = .returned (.int .i64 (idxP (fun x : Cho => decide (x = ⟨xk, xa, xb⟩)) l)) ∧ Below w.heap.size w w' := by
  have hhit := hide (fun k => idxP_hit (p := fun x : Cho => decide (x = ⟨xk, xa, xb⟩)) (l := l) (k := k))
  have hnone := hide (idxP_none (p := fun x : Cho => decide (x = ⟨xk, xa, xb⟩)) (l := l))
  obtain ⟨W0, hW0⟩ : ∃ W0, w.alloc (.cells #[.int .i64 xk, .int .i64 xa, .int .i64 xb] 49) = W0 := ⟨_, rfl⟩
  have hB := below_allocEq (Below.refl w.heap.size w) hW0 (Nat.le_refl _)
  have k0 := Blk.newEq hW0
  replace h := hide h
  go_enter Tryz.func156, Tryz.ntmps156
  go_wp2_with fail
  clear hW0
  go_loopw [8] (fun s8 wr => ∃ k : Nat, k ≤ l.length ∧ s8 = .int .i64 k ∧ Hid (∀ j (hj : j < l.length), j < k → decide (l[j] = ⟨xk, xa, xb⟩) = false) ∧ Below w.heap.size w wr ∧ Blk wr w.heap.size 49 #[.int .i64 xk, .int .i64 xa, .int .i64 xb]) (fun s8 _ => l.length - (intOf s8).toNat)
  case atStart => exact ⟨0, Nat.zero_le _, by go_num, fun j hj h => absurd h (by omega), hB, k0⟩
  case round =>
    clear k0 hB
    obtain ⟨k, hk, rfl, hall, hb, k0⟩ := hrel
    have hk1 : (0 : Int) ≤ (k : Int) := Int.natCast_nonneg _
    by_cases hlt : k < l.length
    · have hi2 : (k : Int) < (l.length : Int) := by omega
      obtain ⟨b, off, rfl, _, d0, d1, d2⟩ := (h.out.below hb).at_ hlt
      have hh := hide (fun g => hhit.out k hlt g hall.out)
      have hst : Hid (decide (l[k] = ⟨xk, xa, xb⟩) = false → ∀ j (hj : j < l.length), j < k + 1 → decide (l[j] = ⟨xk, xa, xb⟩) = false) := fun g j hj hjk => by
        by_cases e : j = k
        · subst e; exact g
        · exact hall.out j hj (by omega)
      have c0 := k0.cell 0
      have c1 := k0.cell 1
      have c2 := k0.cell 2
      simp only [List.getElem?_toArray, List.getElem?_cons_zero, List.getElem?_cons_succ] at c0 c1 c2
      clear hall
      generalize l[k] = x at *
      obtain ⟨yk, ya, yb⟩ := x
      dsimp only at *
      rw [cho_eq] at hh hst
      dsimp only at hh hst
      by_cases q0 : xk = yk
      · have q0b : (xk == yk) = true := by simpa using q0
        by_cases q1 : xa = ya
        · have q1b : (xa == ya) = true := by simpa using q1
          by_cases q2 : xb = yb
          · have q2b : (xb == yb) = true := by simpa using q2
            have hr := hide (hh.out (by simp [q0, q1, q2]))
            clear q0 q1 q2 hh hst
            go_wp2
            go_quiet (fail)
            go_wp2
            go_ret
            exact ⟨ret_int hr.out.symm, hb.trans ⟨rfl, rfl, rfl, Nat.le_refl _, fun _ _ => rfl⟩⟩
          · have q2b : (xb == yb) = false := by simpa using q2
            have hr := hide (hst.out (by simp [q0, q1, Ne.symm q2]))
            clear q0 q1 q2
            clear hh hst
            go_wp2
            go_quiet (fail)
            go_wp2
            go_roundw
            case rel => exact ⟨k + 1, by omega, by go_num, hr, hb.trans ⟨rfl, rfl, rfl, Nat.le_refl _, fun _ _ => rfl⟩, k0⟩
            case measure => simp [intOf]; omega
        · have q1b : (xa == ya) = false := by simpa using q1
          have hr := hide (hst.out (by simp [Ne.symm q1]))
          clear q0 q1
          clear hh hst
          go_wp2
          go_quiet (fail)
          go_wp2
          go_roundw
          case rel => exact ⟨k + 1, by omega, by go_num, hr, hb.trans ⟨rfl, rfl, rfl, Nat.le_refl _, fun _ _ => rfl⟩, k0⟩
          case measure => simp [intOf]; omega
      · have q0b : (xk == yk) = false := by simpa using q0
        have hr := hide (hst.out (by simp [Ne.symm q0]))
        clear q0
        clear hh hst
        go_wp2
        go_quiet (fail)
        go_wp2
        go_roundw
        case rel => exact ⟨k + 1, by omega, by go_num, hr, hb.trans ⟨rfl, rfl, rfl, Nat.le_refl _, fun _ _ => rfl⟩, k0⟩
        case measure => simp [intOf]; omega
    · have hr := hide (hnone.out fun j hj => hall.out j hj (by omega))
      go_wp2
      go_ret
      exact ⟨ret_int hr.out.symm, hb⟩
theorem containsCh_any (A : Option Addr) (c : Nat) (l : List Cho) (xk xa xb : Int) (w : World) (h : ChoS w (Old w) (.slice A l.length c) l) (hl : l.length ≤ 1000000000) :
    Calls Tryz.prog 90 #[.slice A l.length c, .agg #[.int .i64 xk, .int .i64 xa, .int .i64 xb]] w fun e w' => e = .returned (.bool (l.any fun x => decide (x = ⟨xk, xa, xb⟩))) ∧ Below w.heap.size w w' := by
  have hd := hide (idxP_any (fun x : Cho => decide (x = ⟨xk, xa, xb⟩)) l)
  obtain ⟨W0, hW0⟩ : ∃ W0, w.alloc (.cells #[.int .i64 xk, .int .i64 xa, .int .i64 xb] 49) = W0 := ⟨_, rfl⟩
  have hB := below_allocEq (Below.refl w.heap.size w) hW0 (Nat.le_refl _)
  have h0 := h.below hB
  have hcall := hide (indexCh_any A c l xk xa xb W0 h0 hl)
  have k0 := Blk.newEq hW0
  clear h h0
  have c0 := k0.cell 0
  have c1 := k0.cell 1
  have c2 := k0.cell 2
  simp only [List.getElem?_toArray, List.getElem?_cons_zero, List.getElem?_cons_succ] at c0 c1 c2
  go_enter Tryz.func90, Tryz.ntmps90
  go_wp2_with fail
  clear hW0 c0 c1 c2
  refine hcall.out.mono ?_
  rintro e w1 ⟨rfl, hb⟩
  clear hcall
  go_wp2
  go_ret
  exact ⟨by rw [← hd.out]; rfl, hB.trans (hb.mono hB.size)⟩
end Go.Proofs.YtjomijnbnbideaaGreatDoor
