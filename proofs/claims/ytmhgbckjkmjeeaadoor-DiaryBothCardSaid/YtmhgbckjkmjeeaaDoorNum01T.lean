/-
  Walks: the reference of layer 1: Take, Whole.
-/
import Derived.Test.YtmhgbckjkmjeeaaDoorNum01
set_option linter.unusedVariables false
set_option linter.unusedSimpArgs false
namespace Go.Proofs.YtmhgbckjkmjeeaaDoor
open Go.RowKit Go.Inq
set_option maxHeartbeats 1000000
attribute [local go_sem ↓] Go.wp_at_zero Go.wp_at_succ

/-- What a Take hands back. -/
def TakeOut (r : Int × Int × Int) (w : World) (e : Ending) (w' : World) : Prop := e = .returned (.tuple #[.int .i64 r.1, .int .i64 r.2.1, .int .i64 r.2.2]) ∧ w = w'

set_option maxRecDepth 100000 in
theorem rtake_any (s : ByteArray) (a : Nat) (w : World) (hs : s.size ≤ 1000000) (ha : a ≤ s.size) : Calls Tryd.prog 49 #[.string s, .int .i64 a] w (TakeOut (takeR s.data.toList a) w) := by
  obtain ⟨m, V, hml, hg, hst, hv0, hvl, h0, h1, h2⟩ := take_facts ha
  replace hg := hide hg
  replace hst := hide hst
  replace hv0 := hide hv0
  replace hvl := hide hvl
  replace h0 := hide h0
  replace h1 := hide h1
  replace h2 := hide h2
  have ha1 : (0 : Int) ≤ (a : Int) := Int.natCast_nonneg _
  have ha2 : (a : Int) ≤ (s.size : Int) := by omega
  go_enter Tryd.func49, Tryd.ntmps49
  go_wp2
  go_loop [7] (fun s7 => ∃ k : Nat, k ≤ m ∧ s7 = .int .i64 ((a : Int) + k)) (fun s7 => s.size - (intOf s7).toNat)
  case atStart => exact ⟨0, Nat.zero_le _, by go_num⟩
  case round =>
    obtain ⟨k, hk, rfl⟩ := hrel
    have hk1 : (0 : Int) ≤ (k : Int) := Int.natCast_nonneg _
    by_cases hlt : k < m
    · have hk2 : (a : Int) + k < (s.size : Int) := by omega
      have hd := rdigit_yes (hg.out k (by omega) hlt).1 w
      go_wp2_with (go_at_call 57; refine hd.mono ?_; rintro e w' ⟨rfl, rfl⟩)
      go_round
      case rel => exact ⟨k + 1, by omega, by go_num⟩
      case measure => simp [intOf]; omega
    · have : k = m := by omega
      subst this
      have hex : decide ((a : Int) + k < (s.size : Int)) = false ∨ ∃ h : a + k < s.size, decide ((a : Int) + k < (s.size : Int)) = true ∧ (a : Int) + k < (s.size : Int) ∧
          Calls Tryd.prog 57 #[.int .u8 s[a + k].toNat] w (fun e w' => e = .returned (.bool false) ∧ w = w') := by
        by_cases h : a + k < s.size
        · exact .inr ⟨h, by simp; omega, by omega, rdigit_no (hst.out h) w⟩
        · exact .inl (by simp; omega)
      by_cases hz : k = 0
      · subst hz
        have hr := hide (h0.out rfl)
        by_cases h : a < s.size
        · have hx : (a : Int) < (s.size : Int) := by omega
          have hd := rdigit_no (show digitB s[a] = false from hst.out h) w
          go_wp2_with (go_at_call 57; refine hd.mono ?_; rintro e w' ⟨rfl, rfl⟩)
          go_ret3
          exact ⟨by rw [hr.out]; rfl, rfl⟩
        · have hx : ¬ (a : Int) < (s.size : Int) := by omega
          go_wp2
          go_ret3
          exact ⟨by rw [hr.out]; rfl, rfl⟩
      · have haz : a < s.size := by omega
        have haz2 : (a : Int) < (s.size : Int) := by omega
        have e1 : ((a : Int) + (k : Int) == (a : Int)) = false := by simp; omega
        by_cases hh : 1 < k ∧ s[a] = 48
        · have hr := hide (h1.out hh.1 haz hh.2)
          have e2 : (1 : Int) < (k : Int) := by omega
          have e3 : (((s[a]).toNat : Int) == 48) = true := by rw [hh.2]; rfl
          clear hh
          rcases hex with hx | ⟨h, hx, hx2, hd⟩
          · go_wp2
            go_ret3
            exact ⟨by rw [hr.out]; rfl, rfl⟩
          · go_wp2_with (go_at_call 57; refine hd.mono ?_; rintro e w' ⟨rfl, rfl⟩)
            go_ret3
            exact ⟨by rw [hr.out]; rfl, rfl⟩
        · have hr := hide (h2.out hz (fun h3 _ h4 => hh ⟨h3, h4⟩))
          have hne : decide ((1 : Int) < (k : Int)) = false ∨ (decide ((1 : Int) < (k : Int)) = true ∧ (((s[a]).toNat : Int) == 48) = false) := by
            by_cases h3 : 1 < k
            · refine .inr ⟨by simp; omega, ?_⟩
              simp only [beq_eq_false_iff_ne]
              intro e
              exact hh ⟨h3, UInt8.toNat_inj.1 (by simpa using Int.ofNat_inj.1 e)⟩
            · exact .inl (by simp; omega)
          clear hh
          rcases hne with e2 | ⟨e2, e3⟩ <;> rcases hex with hx | ⟨h, hx, hx2, hd⟩
          all_goals first | (go_wp2_with (go_at_call 57; refine hd.mono ?_; rintro e w' ⟨rfl, rfl⟩)) | go_wp2
          all_goals (
            go_loop [8, 9] (fun s8 s9 => ∃ j : Nat, j ≤ k ∧ s9 = .int .i64 ((a : Int) + j) ∧ s8 = .int .i64 (V j) ∧ V j ≤ 2147483647) (fun _ s9 => s.size - (intOf s9).toNat)
            case atStart => exact ⟨0, Nat.zero_le _, by go_num, by rw [hv0.out]; rfl, by rw [hv0.out]; omega⟩
            case round =>
              obtain ⟨j, hj, rfl, rfl, hjv⟩ := hrel
              have hj1 : (0 : Int) ≤ (j : Int) := Int.natCast_nonneg _
              by_cases hlt2 : j < k
              · have hj2 : (a : Int) + j < (s.size : Int) := by omega
                have hj3 : (a : Int) + j < (a : Int) + k := by omega
                obtain ⟨_, f1, f2, f3⟩ := hg.out j (by omega) hlt2
                have f4 : (48 : Int) ≤ ((s[a + j]'(by omega)).toNat : Int) := by omega
                have f5 : ((s[a + j]'(by omega)).toNat : Int) ≤ 57 := by omega
                have f6 : (0 : Int) ≤ (V j : Int) := Int.natCast_nonneg _
                have f7 : (V j : Int) ≤ 2147483647 := by omega
                have f8 : Hid (10 * (V j : Int) + (((s[a + j]'(by omega)).toNat : Int) - 48) = (V (j + 1) : Int)) := by unfold Hid; omega
                have hle := hide (hvl.out (j + 1) (by omega))
                by_cases hbig : 2147483647 < V (j + 1)
                · have hbig2 : 2147483647 < 10 * (V j : Int) + (((s[a + j]'(by omega)).toNat : Int) - 48) := by have := f8.out; omega
                  have hr2 : Hid (takeR s.data.toList a = (0, 0, 3)) := by unfold Hid; rw [hr.out, if_pos (by have := hle.out; omega)]
                  clear f1 f2 f3
                  go_wp2
                  go_ret3
                  exact ⟨by rw [hr2.out]; rfl, rfl⟩
                · have hbig3 : Hid (V (j + 1) ≤ 2147483647) := by unfold Hid; omega
                  have hbig2 : 10 * (V j : Int) + (((s[a + j]'(by omega)).toNat : Int) - 48) ≤ 2147483647 := by have := f8.out; omega
                  clear f1 f2 f3
                  go_wp2
                  go_round
                  case rel => exact ⟨j + 1, by omega, by go_num, congrArg (Value.int .i64) f8.out, hbig3.out⟩
                  case measure => simp [intOf]; omega
              · have : j = k := by omega
                subst this
                have hr2 : Hid (takeR s.data.toList a = ((V j : Int), ((a + j : Nat) : Int), 0)) := by unfold Hid; rw [hr.out, if_neg (by omega)]
                go_wp2
                go_ret3
                exact ⟨by rw [hr2.out]; simp, rfl⟩)
/-- What a Whole hands back. -/
def WholeOut (r : Int × Int) (w : World) (e : Ending) (w' : World) : Prop := e = .returned (.tuple #[.int .i64 r.1, .int .i64 r.2]) ∧ w = w'
theorem rwhole_any (s : ByteArray) (w : World) (hs : s.size ≤ 1000000) : Calls Tryd.prog 33 #[.string s] w (WholeOut (wholeR s.data.toList) w) := by
  have ht := rtake_any s 0 w hs (Nat.zero_le _)
  obtain ⟨n, t, f, hr, g1, g2, g3, _⟩ := whole_cases s.data.toList
  rw [hr] at ht
  rw [← Lib.size_eq] at g2 g3
  by_cases hf : f = 0
  · subst hf
    by_cases hlt : t < (s.size : Int)
    · have hw := hide (g2 rfl hlt)
      clear g1 g2 g3 hr
      go_enter Tryd.func33, Tryd.ntmps33
      go_wp2_with (go_at_call 49; refine ht.mono ?_; rintro e w' ⟨rfl, rfl⟩)
      go_ret2
      exact ⟨by rw [hw.out]; rfl, rfl⟩
    · have hw := hide (g3 rfl hlt)
      clear g1 g2 g3 hr
      go_enter Tryd.func33, Tryd.ntmps33
      go_wp2_with (go_at_call 49; refine ht.mono ?_; rintro e w' ⟨rfl, rfl⟩)
      go_ret2
      exact ⟨by rw [hw.out]; rfl, rfl⟩
  · have hw := hide (g1 hf)
    have hf2 : (f != 0) = true := by simpa using hf
    clear g1 g2 g3 hr
    go_enter Tryd.func33, Tryd.ntmps33
    go_wp2_with (go_at_call 49; refine ht.mono ?_; rintro e w' ⟨rfl, rfl⟩)
    go_ret2
    exact ⟨by rw [hw.out]; rfl, rfl⟩
end Go.Proofs.YtmhgbckjkmjeeaaDoor
