/-
  Walks: slices.Index, slices.Contains at rows of numbers.
-/
import Derived.Test.YtjomijnbnbideaaGreatDoorProg
import Derived.Test.YtjomijnbnbideaaGreatDoorE02
set_option linter.unusedVariables false
set_option linter.unusedSimpArgs false
namespace Go.Proofs.YtjomijnbnbideaaGreatDoor
open Go.RowKit Go.Inq
set_option maxHeartbeats 1000000
attribute [local go_sem ↓] Go.wp_at_zero Go.wp_at_succ

def idxI (l : List Int) (x : Int) : Int := match l.findIdx? (· == x) with | some k => k | none => -1
theorem idxI_hit {l : List Int} {x : Int} {k : Nat} (hk : k < l.length) (h : l[k] = x) (h0 : ∀ j (hj : j < l.length), j < k → l[j] ≠ x) : idxI l x = k := by
  unfold idxI
  have : l.findIdx? (· == x) = some k := by
    rw [List.findIdx?_eq_some_iff_getElem]
    exact ⟨hk, by simpa using h, fun j hj => by simpa using h0 j (by omega) hj⟩
  rw [this]
theorem idxI_none {l : List Int} {x : Int} (h0 : ∀ j (hj : j < l.length), l[j] ≠ x) : idxI l x = -1 := by
  unfold idxI
  have : l.findIdx? (· == x) = none := by
    rw [List.findIdx?_eq_none_iff]
    intro y hy
    obtain ⟨j, hj, rfl⟩ := List.getElem_of_mem hy
    simpa using h0 j hj
  rw [this]
theorem idxI_contains (l : List Int) (x : Int) : decide (0 ≤ idxI l x) = l.contains x := by
  by_cases h : x ∈ l
  · rw [List.contains_iff_mem.2 h]
    unfold idxI
    cases hf : l.findIdx? (· == x) with
    | none =>
      rw [List.findIdx?_eq_none_iff] at hf
      have := hf x h
      simp at this
    | some k => simp
  · have : l.contains x = false := by simpa using h
    rw [this, idxI_none (fun j hj e => h (by rw [← e]; exact List.getElem_mem hj))]
    rfl
theorem index_int (A : Option Addr) (c : Nat) (l : List Int) (x : Int) (K : Nat → Prop) (w : World) (h : IntS w K (.slice A l.length c) l) (hn : l.length ≤ maxLen) :
    Calls Tryz.prog 115 #[.slice A l.length c, .int .i64 x] w fun e w' => e = .returned (.int .i64 (idxI l x)) ∧ w = w' := by
  unfold maxLen at hn
  have hhit := hide (fun k => idxI_hit (l := l) (x := x) (k := k))
  have hnone := hide (idxI_none (l := l) (x := x))
  go_enter Tryz.func115, Tryz.ntmps115
  go_wp2_with fail
  go_loop [5, 8] (fun s5 s8 => ∃ k : Nat, k ≤ l.length ∧ s8 = .int .i64 k ∧ Hid (∀ j (hj : j < l.length), j < k → l[j] ≠ x)) (fun _ s8 => l.length - (intOf s8).toNat)
  case atStart => exact ⟨0, Nat.zero_le _, by go_num, fun j hj h => absurd h (by omega)⟩
  case round =>
    obtain ⟨k, hk, rfl, hall⟩ := hrel
    by_cases hlt : k < l.length
    · have hi2 : (k : Int) < (l.length : Int) := by omega
      obtain ⟨b, off, rfl, _, hc⟩ := h.at_ hlt
      have hh := hide (fun g => hhit.out k hlt g hall.out)
      have hst : Hid (l[k] ≠ x → ∀ j (hj : j < l.length), j < k + 1 → l[j] ≠ x) := fun g j hj hjk => by
        by_cases e : j = k
        · subst e; exact g
        · exact hall.out j hj (by omega)
      clear hall
      by_cases he : x = l[k]
      · have hb : (x == l[k]) = true := by simpa using he
        have hr := hide (hh.out he.symm)
        clear he hh hst
        go_wp2
        go_ret
        exact ⟨ret_int hr.out.symm, rfl⟩
      · have hb : (x == l[k]) = false := by simpa using he
        have hn2 := hide (hst.out (fun e => he e.symm))
        clear he hh hst
        go_wp2
        go_round
        case rel => exact ⟨k + 1, by omega, by go_num, hn2⟩
        case measure => simp [intOf]; omega
    · have hr := hide (hnone.out fun j hj => hall.out j hj (by omega))
      go_wp2
      go_ret
      exact ⟨ret_int hr.out.symm, rfl⟩
theorem contains_int (A : Option Addr) (c : Nat) (l : List Int) (x : Int) (K : Nat → Prop) (w : World) (h : IntS w K (.slice A l.length c) l) (hn : l.length ≤ maxLen) :
    Calls Tryz.prog 113 #[.slice A l.length c, .int .i64 x] w fun e w' => e = .returned (.bool (l.contains x)) ∧ w = w' := by
  have hd := hide (idxI_contains l x)
  go_enter Tryz.func113, Tryz.ntmps113
  go_wp2_with fail
  refine (index_int A c l x K _ h hn).mono ?_
  rintro e w1 ⟨rfl, rfl⟩
  go_wp2
  go_ret
  exact ⟨by rw [← hd.out]; rfl, rfl⟩
end Go.Proofs.YtjomijnbnbideaaGreatDoor
