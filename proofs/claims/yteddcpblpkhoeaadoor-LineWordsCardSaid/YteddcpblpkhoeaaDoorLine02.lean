/-
  Walks: the reference of layer 2: Same, Short, sign, Split, Join, Words.
-/
import Derived.Test.YteddcpblpkhoeaaDoorProg
import Derived.Test.YteddcpblpkhoeaaDoorStr
set_option linter.unusedVariables false
set_option linter.unusedSimpArgs false
namespace Go.Proofs.YteddcpblpkhoeaaDoor
open Go.RowKit Go.Inq
set_option maxHeartbeats 1000000
attribute [local go_sem ↓] Go.wp_at_zero Go.wp_at_succ

theorem same02_any (A A' : Option Addr) (c c' : Nat) (l l' : List ByteArray) (w : World) (h : StrS w (Old w) (.slice A l.length c) l) (h' : StrS w (Old w) (.slice A' l'.length c') l') (hn : l.length ≤ 1000000) (hn' : l'.length ≤ 1000000) :
    Calls Tryd.prog 15 #[.slice A l.length c, .slice A' l'.length c'] w fun e w' => e = .returned (.bool (decide (l = l'))) ∧ Below w.heap.size w w' := by
  rcases Nat.decEq l.length l'.length with hlen | hlen
  rotate_left
  · rw [← hlen] at h' ⊢
    have hlen2 := hide hlen
    clear hn' hlen
    go_enter Tryd.func15, Tryd.ntmps15
    go_wp2
    go_loopw [5] (fun s5 wr => ∃ i : Nat, i ≤ l.length ∧ s5 = .int .i64 i ∧ Hid (∀ j (hj : j < l.length) (hj' : j < l'.length), j < i → l[j] = l'[j]) ∧ Below w.heap.size w wr) (fun s5 _ => l.length - (intOf s5).toNat)
    case atStart => exact ⟨0, Nat.zero_le _, by go_num, fun j _ _ h => absurd h (by omega), Below.refl _ _⟩
    case round =>
      obtain ⟨i, hi, rfl, hall, hb⟩ := hrel
      by_cases hlt : i < l.length
      · have hlt' : i < l'.length := by have := hlen2.out; omega
        have hw := StrS.below h hb
        have hw' := StrS.below h' hb
        obtain ⟨b, off, rfl, hbK, c0⟩ := StrS.at_ hw hlt
        obtain ⟨b', off', rfl, hbK', d0⟩ := StrS.at_ hw' hlt'
        have hi1 : (0 : Int) ≤ (i : Int) := Int.natCast_nonneg _
        have hi2 : (i : Int) < (l.length : Int) := by omega
        by_cases he : l[i] = l'[i]
        · have hstep : Hid (∀ j (hj : j < l.length) (hj' : j < l'.length), j < i + 1 → l[j] = l'[j]) := fun j hj hj' hji => by
            by_cases hje : j = i
            · subst hje; exact he
            · exact hall.out j hj hj' (by omega)
          rw [← he] at d0
          clear he
          generalize l[i] = x at *
          go_wp2
          go_quiet (fail)
          go_wp2
          go_roundw
          case rel => exact ⟨i + 1, by omega, by go_num, hstep, ⟨hb.os, hb.tape, hb.output, hb.size, hb.block⟩⟩
          case measure => simp [intOf]; omega
        · have hf : l ≠ l' := fun e => he (by subst e; rfl)
          have hne : (l[i].toList == l'[i].toList) = false := by rw [bytes_eq]; simpa using he
          clear he
          generalize l[i] = x at *
          generalize l'[i] = x' at *
          go_wp2
          go_quiet (fail)
          go_wp2
          go_ret
          exact ⟨by simp [hf], ⟨hb.os, hb.tape, hb.output, hb.size, hb.block⟩⟩
      · have he : l = l' := List.ext_getElem hlen2.out (fun j h1 h2 => hall.out j h1 h2 (by omega))
        have : i = l.length := by omega
        subst this
        go_wp2
        go_ret
        exact ⟨by simp [he], hb⟩
  · have hf : l ≠ l' := fun e => hlen (by rw [e])
    go_enter Tryd.func15, Tryd.ntmps15
    go_wp2
    go_ret
    exact ⟨by simp [hf], Below.refl _ _⟩

def shortB (l : List ByteArray) : Bool := decide (l.length ≤ 500) && l.all fun s => decide (s.size ≤ 200)
theorem short02_any (A : Option Addr) (c : Nat) (l : List ByteArray) (w : World) (h : StrS w (Old w) (.slice A l.length c) l) (hn : l.length ≤ maxLen) (hs : ∀ s ∈ l, s.size ≤ maxLen) :
    Calls Tryd.prog 8 #[.slice A l.length c] w fun e w' => e = .returned (.bool (shortB l)) ∧ w = w' := by
  have hn2 : l.length ≤ 9223372036854775807 := hn
  have hs2 := hide hs
  clear hs hn
  by_cases hl : 500 < l.length
  · have hl2 : (500 : Int) < (l.length : Int) := by omega
    go_enter Tryd.func8, Tryd.ntmps8
    go_wp2
    go_ret
    exact ⟨ret_bool (by unfold shortB; rw [decide_eq_false (by omega), Bool.false_and]), rfl⟩
  · have hl2 : ¬ (500 : Int) < (l.length : Int) := by omega
    go_enter Tryd.func8, Tryd.ntmps8
    go_wp2
    go_loop [3] (fun s3 => ∃ i : Nat, i ≤ l.length ∧ s3 = .int .i64 i ∧ Hid (∀ j (hj : j < l.length), j < i → l[j].size ≤ 200)) (fun s3 => l.length - (intOf s3).toNat)
    case atStart => exact ⟨0, Nat.zero_le _, by go_num, fun j _ h => absurd h (by omega)⟩
    case round =>
      obtain ⟨i, hi, rfl, hall⟩ := hrel
      by_cases hlt : i < l.length
      · obtain ⟨b, off, rfl, hbK, c0⟩ := StrS.at_ h hlt
        have hi1 : (0 : Int) ≤ (i : Int) := Int.natCast_nonneg _
        have hi2 : (i : Int) < (l.length : Int) := by omega
        have hsz : l[i].size ≤ 9223372036854775807 := hs2.out _ (List.getElem_mem hlt)
        have hmem : Hid (l[i] ∈ l) := List.getElem_mem hlt
        have hstep : Hid (l[i].size ≤ 200 → ∀ j (hj : j < l.length), j < i + 1 → l[j].size ≤ 200) := fun hh j hj hji => by
          by_cases hje : j = i
          · subst hje; exact hh
          · exact hall.out j hj (by omega)
        generalize l[i] = x at *
        by_cases hx : 200 < x.size
        · have hx2 : (200 : Int) < (x.size : Int) := by omega
          go_wp2
          go_ret
          refine ⟨ret_bool ?_, rfl⟩
          unfold shortB
          rw [eq_comm, Bool.and_eq_false_iff]
          right
          rw [List.all_eq_false]
          exact ⟨x, hmem.out, by simp; omega⟩
        · have hx2 : ¬ (200 : Int) < (x.size : Int) := by omega
          have hstep2 := hide (hstep.out (by omega))
          go_wp2
          go_round
          case rel => exact ⟨i + 1, by omega, by go_num, hstep2⟩
          case measure => simp [intOf]; omega
      · have : i = l.length := by omega
        subst this
        go_wp2
        go_ret
        refine ⟨ret_bool ?_, rfl⟩
        unfold shortB
        rw [eq_comm, Bool.and_eq_true]
        refine ⟨by rw [decide_eq_true_iff]; omega, ?_⟩
        rw [List.all_eq_true]
        intro s hs
        obtain ⟨j, hj, rfl⟩ := List.getElem_of_mem hs
        simpa using hall.out j hj hj

theorem sign_any (b : UInt8) (w : World) : Calls Tryd.prog 21 #[.int .u8 b.toNat] w fun e w' => e = .returned (.bool (signB b)) ∧ w = w' := by
  have e : signB b = (decide (33 ≤ (b.toNat : Int)) && decide ((b.toNat : Int) ≤ 126)) := by
    unfold signB
    rw [Bool.eq_iff_iff]
    simp [UInt8.le_iff_toNat_le]
    omega
  by_cases h0 : 33 ≤ (b.toNat : Int)
  · have h0' : decide (33 ≤ (b.toNat : Int)) = true := by simpa using h0
    have e2 := hide e
    clear e
    go_enter Tryd.func21, Tryd.ntmps21
    go_wp2
    go_ret
    exact ⟨ret_bool (by rw [e2.out, h0']; simp), rfl⟩
  · have h0' : decide (33 ≤ (b.toNat : Int)) = false := by simpa using h0
    have e2 := hide e
    clear e
    go_enter Tryd.func21, Tryd.ntmps21
    go_wp2
    go_ret
    exact ⟨ret_bool (by rw [e2.out, h0']; simp), rfl⟩
end Go.Proofs.YteddcpblpkhoeaaDoor
