/-
  Walks: LineWords.
-/
import Derived.Test.YteddcpblpkhoeaaDoorLineBoth
set_option linter.unusedVariables false
set_option linter.unusedSimpArgs false
namespace Go.Proofs.YteddcpblpkhoeaaDoor
open Go.RowKit Go.Inq
set_option maxHeartbeats 4000000
attribute [local go_sem ↓] Go.wp_at_zero Go.wp_at_succ

/-- The first i words, with one byte 32 between. -/
def jw (ws : List (List UInt8)) : Nat → List UInt8
  | 0 => []
  | i + 1 => (if i = 0 then jw ws i else jw ws i ++ [32]) ++ ws[i]?.getD []
theorem jw_succ {ws : List (List UInt8)} {i : Nat} (hi : i < ws.length) : jw ws (i + 1) = (if i = 0 then jw ws i else jw ws i ++ [32]) ++ ws[i] := by
  rw [jw, List.getElem?_eq_getElem hi]; rfl
theorem jw_eq {ws : List (List UInt8)} : ∀ (i : Nat) (hi : i < ws.length), jw ws (i + 1) = ((ws.take i).map (· ++ [32])).flatten ++ ws[i]
  | 0, hi => by rw [jw_succ hi, if_pos rfl]; rfl
  | i + 1, hi => by
    rw [jw_succ hi, if_neg (by omega), jw_eq i (by omega), List.take_succ_eq_append_getElem (show i < ws.length by omega)]
    simp only [List.map_append, List.flatten_append, List.map_cons, List.map_nil, List.flatten_cons, List.flatten_nil, List.append_nil, List.append_assoc]
theorem jw_all (l : List UInt8) : jw (cuts 32 l) (cuts 32 l).length = l := by
  have hn : (cuts 32 l).length = (segs 32 l).1.length + 1 := by unfold cuts; simp
  rw [hn, jw_eq _ (by omega)]
  have h1 : (cuts 32 l).take (segs 32 l).1.length = (segs 32 l).1 := by unfold cuts; rw [List.take_append_of_le_length (Nat.le_refl _), List.take_length]
  have h2 : (cuts 32 l)[(segs 32 l).1.length]'(by omega) = (segs 32 l).2 := by
    unfold cuts
    rw [List.getElem_append_right (Nat.le_refl _)]
    simp
  rw [h1, h2]
  exact segs_whole 32 l
theorem jw_mono {ws : List (List UInt8)} {i : Nat} (hi : i < ws.length) : (jw ws i).length ≤ (jw ws (i + 1)).length := by
  rw [jw_succ hi]
  split <;> simp <;> omega
theorem jw_len (l : List UInt8) : ∀ (k i : Nat), i + k = (cuts 32 l).length → (jw (cuts 32 l) i).length ≤ l.length
  | 0, i, h => by
    have : i = (cuts 32 l).length := by omega
    rw [this, jw_all]
    exact Nat.le_refl _
  | k + 1, i, h => Nat.le_trans (jw_mono (by omega)) (jw_len l k (i + 1) (by omega))
theorem words_two (l : List UInt8) : wordsR l = ([], 2) ∨ (wordsR l = (cuts 32 l, 0) ∧ (cuts 32 l).length ≤ 8 ∧ ∀ w ∈ cuts 32 l, wordB w = true) := by
  unfold wordsR
  split
  · rename_i h; exact .inr ⟨rfl, h.1, List.all_eq_true.1 h.2⟩
  · exact .inl rfl

set_option maxRecDepth 100000 in
theorem lineWords_any (s : ByteArray) (w : World) (hs : s.size ≤ maxLen) (hg : Glob w) :
    Calls Tryd.prog 6 #[.string s] w fun e w' => e = .returned (.bool true) ∧ Below w.heap.size w w' := by
  have hs2 : s.size ≤ 9223372036854775807 := hs
  go_enter Tryd.func6, Tryd.ntmps6
  go_wp2_with fail
  refine (awake02_any w hg).mono ?_
  rintro e w1 ⟨rfl, B0⟩
  have g0 := hg.below B0
  by_cases d0q : 2000 < s.size
  · have d0 : (2000 : Int) < (s.size : Int) := by omega
    go_wp2
    go_ret
    exact ⟨by simp, B0⟩
  have d0 : ¬ (2000 : Int) < (s.size : Int) := by omega
  have hcall := lwords_any s w1 (by omega) g0
  rcases words_two s.data.toList with hw | ⟨hw, h8, hgd⟩
  · rw [hw] at hcall
    replace hcall := hide hcall
    clear hw
    go_wp2_with fail
    refine hcall.out.mono ?_
    intro e w2 hx
    obtain ⟨A2, c2, rfl, k2, hb2⟩ := RowOut.open hx
    have B2 := B0.trans (hb2.mono B0.size)
    simp only [List.length_nil]
    clear hx k2
    go_wp2
    go_ret
    exact ⟨by simp, B2⟩
  · rw [hw] at hcall
    have hall := hide (jw_all s.data.toList)
    have hjl := hide (jw_len s.data.toList)
    have hsz := hide (Lib.size_eq s)
    have hpos : 1 ≤ (cuts 32 s.data.toList).length := by unfold cuts; simp
    have hcl : ∀ w ∈ cuts 32 s.data.toList, w.length ≤ s.size := fun w h => by rw [hsz.out]; exact cuts_len h
    replace hgd := hide hgd
    replace hcl := hide hcl
    replace hcall := hide hcall
    clear hw
    generalize cuts 32 s.data.toList = ws at *
    go_wp2_with fail
    refine hcall.out.mono ?_
    intro e w2 hx
    obtain ⟨A2, c2, rfl, k2, hb2⟩ := RowOut.open hx
    have B2 := B0.trans (hb2.mono B0.size)
    simp only at k2 ⊢
    have n1 : (1 : Int) ≤ (ws.length : Int) := by omega
    have n2 : (ws.length : Int) ≤ 8 := by omega
    have hss : (mk s.data.toList).toList = s.toList := by rw [mk_of]
    have hm0 : Hid ((({ data := #[] } : ByteArray)) = mk (jw ws 0)) := rfl
    clear hx
    go_wp2
    rw [hm0.out]
    go_loop [6, 7, 8] (fun s6 s7 _ => ∃ i : Nat, i ≤ ws.length ∧ s7 = .int .i64 i ∧ s6 = .string (mk (jw ws i))) (fun _ s7 _ => ws.length - (intOf s7).toNat)
    case atStart => exact ⟨0, Nat.zero_le _, by go_num, rfl⟩
    case round =>
      obtain ⟨i, hi, rfl, rfl⟩ := hrel
      by_cases hil : i < ws.length
      · obtain ⟨b, off, rfl, _, c0⟩ := StrS.at_ k2 (i := i) (by simpa using hil)
        have hi1 : (0 : Int) ≤ (i : Int) := Int.natCast_nonneg _
        have hi2 : (i : Int) < (ws.length : Int) := by omega
        rw [List.getElem_map] at c0
        have hgx := hgd.out _ (List.getElem_mem hil)
        have hlx := hcl.out _ (List.getElem_mem hil)
        have hjx := hjl.out (ws.length - i) i (by omega)
        rw [← hsz.out] at hjx
        have hsuc := hide (jw_succ hil)
        have hxd : Hid ((mk ws[i]).data.toList = ws[i]) := rfl
        have hxz : (mk ws[i]).size = ws[i].length := mk_size _
        unfold wordB at hgx
        rw [Bool.and_eq_true] at hgx
        have hpx : ¬ (mk ws[i]).size = 0 := by
          rw [hxz]
          intro e
          rw [List.eq_nil_of_length_eq_zero e] at hgx
          exact absurd hgx.1 (by simp)
        have hsg : Hid (∀ k (hk : k < (mk ws[i]).size), signB (mk ws[i])[k] = true) := fun k hk => by
          obtain ⟨h2, h3⟩ := bytes_at (mk ws[i]) hk
          rw [h3]
          exact List.all_eq_true.1 hgx.2 _ (show (mk ws[i]).data.toList[k] ∈ (mk ws[i]).data.toList from List.getElem_mem h2)
        have hx1 : (mk ws[i]).size ≤ 2000 := by omega
        have hpx2 : (((mk ws[i]).size : Int) == 0) = false := by simpa using hpx
        have hjz : (mk (jw ws i)).size ≤ 2000 := by rw [mk_size]; omega
        by_cases h0 : i = 0
        · have hnx : Hid (mk (jw ws i) ++ mk ws[i] = mk (jw ws (i + 1))) := by unfold Hid; rw [hsuc.out, if_pos h0, mk_append]
          have h0' : ¬ (0 : Int) < (i : Int) := by omega
          clear hgx hxd hsuc hlx hxz hjx h0
          generalize mk ws[i] = x at *
          generalize mk (jw ws i) = F at *
          go_wp2
          go_loop [8] (fun s8 => ∃ k : Nat, k ≤ x.size ∧ s8 = .int .i64 k) (fun s8 => x.size - (intOf s8).toNat)
          case atStart => exact ⟨0, Nat.zero_le _, by go_num⟩
          case round =>
            obtain ⟨k, hk, rfl⟩ := hrel
            by_cases hkx : k < x.size
            · have hk1 : (0 : Int) ≤ (k : Int) := Int.natCast_nonneg _
              have hk2 : (k : Int) < (x.size : Int) := by omega
              obtain ⟨q1, q2⟩ := (sign_iff _).1 (hsg.out k hkx)
              have d1 : decide ((x[k].toNat : Int) < 33) = false := by simp; omega
              have d2 : decide (126 < (x[k].toNat : Int)) = false := by simp; omega
              clear q1 q2
              go_wp2
              go_round
              case rel => exact ⟨k + 1, by omega, by go_num⟩
              case measure => simp [intOf]; omega
            · have : k = x.size := by omega
              subst this
              go_wp2
              rw [hnx.out]
              go_round
              case rel => exact ⟨i + 1, by omega, by go_num, rfl⟩
              case measure => simp [intOf]; omega
        · have hnx : Hid (mk (jw ws i) ++ ({ data := #[32] } : ByteArray) ++ mk ws[i] = mk (jw ws (i + 1))) := by unfold Hid; rw [hsuc.out, if_neg h0, mk_append, mk_append]; rfl
          have h0' : (0 : Int) < (i : Int) := by omega
          have hF1 : (mk (jw ws i) ++ ({ data := #[32] } : ByteArray)).size ≤ 2001 := by rw [ByteArray.size_append]; exact Nat.add_le_add hjz (Nat.le_refl 1)
          clear hgx hxd hsuc hlx hxz hjx h0
          generalize mk ws[i] = x at *
          generalize mk (jw ws i) = F at *
          go_wp2
          go_loop [8] (fun s8 => ∃ k : Nat, k ≤ x.size ∧ s8 = .int .i64 k) (fun s8 => x.size - (intOf s8).toNat)
          case atStart => exact ⟨0, Nat.zero_le _, by go_num⟩
          case round =>
            obtain ⟨k, hk, rfl⟩ := hrel
            by_cases hkx : k < x.size
            · have hk1 : (0 : Int) ≤ (k : Int) := Int.natCast_nonneg _
              have hk2 : (k : Int) < (x.size : Int) := by omega
              obtain ⟨q1, q2⟩ := (sign_iff _).1 (hsg.out k hkx)
              have d1 : decide ((x[k].toNat : Int) < 33) = false := by simp; omega
              have d2 : decide (126 < (x[k].toNat : Int)) = false := by simp; omega
              clear q1 q2
              go_wp2
              go_round
              case rel => exact ⟨k + 1, by omega, by go_num⟩
              case measure => simp [intOf]; omega
            · have : k = x.size := by omega
              subst this
              go_wp2
              rw [hnx.out]
              go_round
              case rel => exact ⟨i + 1, by omega, by go_num, rfl⟩
              case measure => simp [intOf]; omega
      · have : i = ws.length := by omega
        subst this
        rw [hall.out]
        go_wp2
        go_ret
        exact ⟨by simp, B2⟩
end Go.Proofs.YteddcpblpkhoeaaDoor
