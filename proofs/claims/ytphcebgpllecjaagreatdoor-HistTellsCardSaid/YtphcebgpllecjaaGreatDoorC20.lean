/-
  Walks: layer 1: num.Show, Take, Whole.
-/
import Derived.Lib.AppendIntMem
import Derived.Test.YtphcebgpllecjaaGreatDoorC19
import Derived.Test.YtphcebgpllecjaaGreatDoorC16
import Derived.Test.YtphcebgpllecjaaGreatDoorC01
set_option linter.unusedVariables false
set_option linter.unusedSimpArgs false
namespace Go.Proofs.YtphcebgpllecjaaGreatDoor
open Go.RowKit Go.Inq
set_option maxHeartbeats 1000000
attribute [local go_sem ↓] Go.wp_at_zero Go.wp_at_succ

/-- The library's table of the powers of ten is there. -/
def Tab (w : World) : Prop := Lib.TabIs Tryz.prog w "internal/strconv.uint64pow10" .u64 Lib.pow10Tab
theorem Tab.below {w w' : World} (h : Tab w) (hb : Below w.heap.size w w') : Tab w' := by
  unfold Tab Lib.TabIs World.var? at h ⊢
  cases hg : Program.globalNamed Tryz.prog "internal/strconv.uint64pow10" with
  | none => rw [hg] at h; cases h
  | some g =>
    rw [hg] at h
    simp only [Option.bind_some] at h ⊢
    have hlt : g < w.heap.size := by
      rcases Nat.lt_or_ge g w.heap.size with h1 | h1
      · exact h1
      · rw [Array.getElem?_eq_none h1] at h; cases h
    rw [hb.block g hlt]
    exact h
theorem dec_num (n : Nat) : Lib.decDigits n = numR n := by
  refine numR_ind (P := fun n => Lib.decDigits n = numR n) (fun n h => ?_) (fun n h ih => ?_) n
  · rw [Lib.decDigits, dif_pos h, numR_low h]; rfl
  · rw [Lib.decDigits, dif_neg h, numR_high h, ih]; rfl
theorem itoa_any (n : Nat) (w : World) (hn : n ≤ 2147483647) (ht : Tab w) : Calls Tryz.prog 87 #[.int .i64 n] w fun e w' => e = .returned (.string (mk (numR n))) ∧ Below w.heap.size w w' :=
  (Tryz.strconv_Itoa n (by omega) (by omega) w ht).mono fun e w' h => by
    obtain ⟨he, k, os, rfl⟩ := h
    exact ⟨by rw [he, Lib.itoa_nonneg, dec_num]; rfl, Lib.below_grow _ _ (Nat.le_refl _) _ _⟩
theorem nshow_any (n : Int) (w : World) (ht : Tab w) : Calls Tryz.prog 67 #[.int .i64 n] w fun e w' => e = .returned (.tuple #[.string (mk (showN n).1), .int .i64 (showN n).2]) ∧ Below w.heap.size w w' := by
  by_cases h : 0 ≤ n ∧ n ≤ 2147483647
  · obtain ⟨k, rfl⟩ := Int.eq_ofNat_of_zero_le h.1
    have hi := itoa_any k w (by omega) ht
    have hs : Hid (showN (k : Int) = (numR k, 0)) := by unfold Hid showN; rw [if_pos h]; rfl
    have h1 := h.1
    have h2 := h.2
    clear h
    go_enter Tryz.func67, Tryz.ntmps67
    go_wp2_with (go_at_call 87; refine hi.mono ?_; rintro e w' ⟨rfl, hb⟩)
    go_ret2
    exact ⟨by rw [hs.out]; rfl, hb⟩
  · have hs : Hid (showN n = ([], 1)) := by unfold Hid showN; rw [if_neg h]
    have hc : n < 0 ∨ ((0 : Int) ≤ n ∧ 2147483647 < n) := by omega
    clear h
    rcases hc with h | ⟨h, h2⟩
    all_goals (
      go_enter Tryz.func67, Tryz.ntmps67
      go_wp2
      go_ret2
      exact ⟨by rw [hs.out]; rfl, Below.refl _ _⟩)
theorem take_facts2 {s : ByteArray} {a : Nat} (ha : a ≤ s.size) : s.size - a = (s.extract a s.size).size ∧ ∃ (m : Nat) (V : Nat → Nat), m ≤ (s.extract a s.size).size ∧
    (∀ i (h : i < (s.extract a s.size).size), i < m → V (i + 1) = 10 * V i + ((s.extract a s.size)[i].toNat - 48) ∧ 48 ≤ (s.extract a s.size)[i].toNat ∧ (s.extract a s.size)[i].toNat ≤ 57) ∧
    (∀ h : m < (s.extract a s.size).size, digitB (s.extract a s.size)[m] = false) ∧ V 0 = 0 ∧ (∀ i, i ≤ m → V i ≤ V m) ∧ (m = 0 → takeR s.data.toList a = (0, 0, 2)) ∧
    (1 < m → ∀ h : 0 < (s.extract a s.size).size, (s.extract a s.size)[0] = 48 → takeR s.data.toList a = (0, 0, 2)) ∧
    (m ≠ 0 → (1 < m → ∀ h : 0 < (s.extract a s.size).size, (s.extract a s.size)[0] ≠ 48) → takeR s.data.toList a = if 2147483647 < V m then (0, 0, 3) else ((V m : Int), ((a + m : Nat) : Int), 0)) := by
  have hsz : (s.extract a s.size).size = s.size - a := by rw [ByteArray.size_extract]; omega
  have hget : ∀ i (h : i < (s.extract a s.size).size), (s.extract a s.size)[i] = s[a + i]'(by omega) := fun i h => ByteArray.getElem_extract ..
  obtain ⟨m, V, hml, hg, hst, hv0, hvl, h0, h1, h2⟩ := take_facts ha
  have hm2 : m ≤ (s.extract a s.size).size := by clear hg hst h0 h1 h2; omega
  have hb : ∀ i, i < (s.extract a s.size).size → a + i < s.size := by clear hg hst h0 h1 h2 hget; intro i h; omega
  refine ⟨hsz.symm, m, V, hm2, fun i h hi => ?_, fun h => ?_, hv0, hvl, h0, fun h3 h h4 => ?_, fun h3 h4 => ?_⟩
  · rw [hget i h]; exact (hg i (hb i h) hi).2
  · rw [hget m h]; exact hst (hb m h)
  · have hl : a < s.size := by rw [hsz] at h; omega
    have h5 : s[a] = 48 := by have h6 := hget 0 h; rw [h6] at h4; exact h4
    exact h1 h3 hl h5
  · refine h2 h3 fun h5 h6 e => ?_
    have hl : 0 < (s.extract a s.size).size := by rw [hsz]; omega
    refine h4 h5 hl ?_
    rw [hget 0 hl]; exact e

set_option maxRecDepth 100000 in
theorem ntake_any (s : ByteArray) (a : Nat) (w : World) (hs : s.size ≤ 1000000) (ha : a ≤ s.size) : Calls Tryz.prog 76 #[.string s, .int .i64 a] w fun e w' => e = .returned (.tuple #[.int .i64 (takeR s.data.toList a).1, .int .i64 (takeR s.data.toList a).2.1, .int .i64 (takeR s.data.toList a).2.2]) ∧ w = w' := by
  obtain ⟨hT, m, V, hml, hg, hst, hv0, hvl, h0, h1, h2⟩ := take_facts2 ha
  have hTs : (s.extract a s.size).size ≤ 1000000 := by rw [← hT]; omega
  replace hT := hide hT
  replace hml := hide hml
  replace hg := hide hg
  replace hst := hide hst
  replace hv0 := hide hv0
  replace hvl := hide hvl
  replace h0 := hide h0
  replace h1 := hide h1
  replace h2 := hide h2
  have ha1 : (0 : Int) ≤ (a : Int) := Int.natCast_nonneg _
  have ha2 : (a : Int) ≤ (s.size : Int) := by omega
  go_enter Tryz.func76, Tryz.ntmps76
  go_wp2
  rw [hT.out]
  clear hT
  generalize s.extract a s.size = T at *
  have hml2 := hml.out
  go_loop [8, 9, 10, 11, 25] (fun s8 s9 s10 s11 s25 => ∃ k : Nat, k ≤ m ∧ s25 = .int .i64 k ∧ s9 = .int .i64 k ∧ ∃ (g : Bool) (x : Int), s8 = .int .i64 x ∧ s10 = .bool g ∧ Hid ((g = false → x = V k ∧ V k ≤ 2147483647) ∧ (g = true → 2147483647 < V m))) (fun _ _ _ _ s25 => T.size - (intOf s25).toNat)
  case atStart => exact ⟨0, Nat.zero_le _, by go_num, by go_num, false, 0, rfl, rfl, by unfold Hid; rw [hv0.out]; simp⟩
  case round =>
    obtain ⟨k, hk, rfl, rfl, g, x, rfl, rfl, hgx⟩ := hrel
    have hk1 : (0 : Int) ≤ (k : Int) := Int.natCast_nonneg _
    by_cases hlt : k < m
    · have hk2 : (k : Int) < (T.size : Int) := by omega
      obtain ⟨f1, f2, f3⟩ := hg.out k (by omega) hlt
      have f4 : (48 : Int) ≤ ((T[k]'(by omega)).toNat : Int) := by omega
      have f5 : ((T[k]'(by omega)).toNat : Int) ≤ 57 := by omega
      cases g with
      | false =>
        obtain ⟨hx, hxv⟩ := hgx.out.1 rfl
        subst hx
        have f6 : (0 : Int) ≤ (V k : Int) := Int.natCast_nonneg _
        have f7 : (V k : Int) ≤ 2147483647 := by omega
        have f8 : Hid (10 * (V k : Int) + (((T[k]'(by omega)).toNat : Int) - 48) = (V (k + 1) : Int)) := by unfold Hid; omega
        have hle := hide (hvl.out (k + 1) (by omega))
        by_cases hbig : 2147483647 < V (k + 1)
        · have hbig2 : decide ((2147483647 : Int) < 10 * (V k : Int) + (((T[k]'(by omega)).toNat : Int) - 48)) = true := by have := f8.out; simp; omega
          have hbig3 : Hid (2147483647 < V m) := by have := hle.out; unfold Hid; omega
          clear f1 f2 f3 hbig hgx
          go_wp2
          go_round
          case rel => exact ⟨k + 1, by omega, by go_num, by go_num, true, _, rfl, rfl, hide ⟨(fun h => Bool.noConfusion h), fun _ => hbig3.out⟩⟩
          case measure => simp [intOf]; omega
        · have hbig2 : decide ((2147483647 : Int) < 10 * (V k : Int) + (((T[k]'(by omega)).toNat : Int) - 48)) = false := by have := f8.out; simp; omega
          have hbig3 : Hid (V (k + 1) ≤ 2147483647) := by unfold Hid; omega
          clear f1 f2 f3 hbig hgx
          go_wp2
          go_round
          case rel => exact ⟨k + 1, by omega, by go_num, by go_num, false, _, rfl, rfl, hide ⟨fun _ => ⟨f8.out, hbig3.out⟩, (fun h => Bool.noConfusion h)⟩⟩
          case measure => simp [intOf]; omega
      | true =>
        have hbig3 : Hid (2147483647 < V m) := hgx.out.2 rfl
        clear f1 f2 f3 hgx
        go_wp2
        go_round
        case rel => exact ⟨k + 1, by omega, by go_num, by go_num, true, _, rfl, rfl, hide ⟨(fun h => Bool.noConfusion h), fun _ => hbig3.out⟩⟩
        case measure => simp [intOf]; omega
    · have : k = m := by omega
      subst this
      have hd : ¬ k < T.size ∨ ∃ h : k < T.size, (k : Int) < (T.size : Int) ∧ (decide (((T[k]).toNat : Int) < 48) = true ∨ (decide (((T[k]).toNat : Int) < 48) = false ∧ decide ((57 : Int) < ((T[k]).toNat : Int)) = true)) := by
        by_cases h : k < T.size
        · refine .inr ⟨h, by omega, ?_⟩
          have h3 := hst.out h
          have h4 : ¬ (48 ≤ (T[k]).toNat ∧ (T[k]).toNat ≤ 57) := fun e => by rw [(digit_iff _).2 e] at h3; cases h3
          by_cases h5 : (T[k]).toNat < 48
          · exact .inl (by simp; omega)
          · exact .inr ⟨by simp; omega, by simp; omega⟩
        · exact .inl h
      by_cases hz : k = 0
      · subst hz
        have hr := hide (h0.out rfl)
        rcases hd with hd | ⟨h, hd, hd2 | ⟨hd2, hd3⟩⟩
        all_goals (
          go_wp2
          go_ret3
          exact ⟨by rw [hr.out]; rfl, rfl⟩)
      · have hT0 : 0 < T.size := by omega
        have hT1 : (0 : Int) < (T.size : Int) := by omega
        have e1 : ((k : Int) == 0) = false := by simp; omega
        by_cases hh : 1 < k ∧ T[0] = 48
        · have hr := hide (h1.out hh.1 hT0 hh.2)
          have e2 : (1 : Int) < (k : Int) := by omega
          have e3 : (((T[0]).toNat : Int) == 48) = true := by rw [hh.2]; rfl
          clear hh
          rcases hd with hd | ⟨h, hd, hd2 | ⟨hd2, hd3⟩⟩
          all_goals (
            go_wp2
            go_ret3
            exact ⟨by rw [hr.out]; rfl, rfl⟩)
        · have hr := hide (h2.out hz (fun h3 _ h4 => hh ⟨h3, h4⟩))
          have hne : decide ((1 : Int) < (k : Int)) = false ∨ (decide ((1 : Int) < (k : Int)) = true ∧ (((T[0]).toNat : Int) == 48) = false) := by
            by_cases h3 : 1 < k
            · refine .inr ⟨by simp; omega, ?_⟩
              simp only [beq_eq_false_iff_ne]
              intro e
              exact hh ⟨h3, UInt8.toNat_inj.1 (by simpa using Int.ofNat_inj.1 e)⟩
            · exact .inl (by simp; omega)
          clear hh
          cases g with
          | false =>
            obtain ⟨hx, hxv⟩ := hgx.out.1 rfl
            subst hx
            have hr2 : Hid (takeR s.data.toList a = ((V k : Int), ((a + k : Nat) : Int), 0)) := by unfold Hid; rw [hr.out, if_neg (by omega)]
            clear hgx
            rcases hne with e2 | ⟨e2, e3⟩ <;> rcases hd with hd | ⟨h, hd, hd2 | ⟨hd2, hd3⟩⟩
            all_goals (
              go_wp2
              go_ret3
              exact ⟨by rw [hr2.out]; simp, rfl⟩)
          | true =>
            have hr2 : Hid (takeR s.data.toList a = (0, 0, 3)) := by unfold Hid; rw [hr.out, if_pos (hgx.out.2 rfl)]
            clear hgx
            rcases hne with e2 | ⟨e2, e3⟩ <;> rcases hd with hd | ⟨h, hd, hd2 | ⟨hd2, hd3⟩⟩
            all_goals (
              go_wp2
              go_ret3
              exact ⟨by rw [hr2.out]; rfl, rfl⟩)
theorem nwhole_any (s : ByteArray) (w : World) (hs : s.size ≤ 1000000) : Calls Tryz.prog 54 #[.string s] w fun e w' => e = .returned (.tuple #[.int .i64 (wholeR s.data.toList).1, .int .i64 (wholeR s.data.toList).2]) ∧ w = w' := by
  have ht := ntake_any s 0 w hs (Nat.zero_le _)
  obtain ⟨n, t, f, hr, g1, g2, g3, g4⟩ := whole_cases s.data.toList
  rw [hr] at ht
  rw [← Lib.size_eq] at g2 g3
  by_cases hf : f = 0
  · subst hf
    by_cases hlt : t < (s.size : Int)
    · have hw := hide (g2 rfl hlt)
      clear g1 g2 g3 g4 hr
      go_enter Tryz.func54, Tryz.ntmps54
      go_wp2_with (go_at_call 76; refine ht.mono ?_; rintro e w' ⟨rfl, rfl⟩)
      go_ret2
      exact ⟨by rw [hw.out]; rfl, rfl⟩
    · have hw := hide (g3 rfl hlt)
      clear g1 g2 g3 g4 hr
      go_enter Tryz.func54, Tryz.ntmps54
      go_wp2_with (go_at_call 76; refine ht.mono ?_; rintro e w' ⟨rfl, rfl⟩)
      go_ret2
      exact ⟨by rw [hw.out]; rfl, rfl⟩
  · have hw := hide (g1 hf)
    have hf2 : (f == 0) = false := by simpa using hf
    have hn := g4 hf
    subst hn
    clear g1 g2 g3 g4 hr
    go_enter Tryz.func54, Tryz.ntmps54
    go_wp2_with (go_at_call 76; refine ht.mono ?_; rintro e w' ⟨rfl, rfl⟩)
    go_ret2
    exact ⟨by rw [hw.out]; rfl, rfl⟩
end Go.Proofs.YtphcebgpllecjaaGreatDoor
