/-
  Walks: line.Words.
-/
import Derived.Test.YtphcebgpllecjaaGreatDoorC21
set_option linter.unusedVariables false
set_option linter.unusedSimpArgs false
namespace Go.Proofs.YtphcebgpllecjaaGreatDoor
open Go.RowKit Go.Inq
set_option maxHeartbeats 2000000
attribute [local go_sem ↓] Go.wp_at_zero Go.wp_at_succ
theorem sign_iff (b : UInt8) : signB b = true ↔ 33 ≤ (b.toNat : Int) ∧ (b.toNat : Int) ≤ 126 := by
  unfold signB
  simp [UInt8.le_iff_toNat_le]
  omega
theorem sign_low {b : UInt8} (h : (b.toNat : Int) ≤ 32) : signB b = false := by
  rw [← Bool.not_eq_true, sign_iff]; omega
theorem sign_high {b : UInt8} (h : 126 < (b.toNat : Int)) : signB b = false := by
  rw [← Bool.not_eq_true, sign_iff]; omega
theorem sign_mid {b : UInt8} (h1 : ¬ (b.toNat : Int) ≤ 32) (h2 : ¬ 126 < (b.toNat : Int)) : signB b = true := by
  rw [sign_iff]; omega
/-- So far so good. -/
def goodTo (ws : List (List UInt8)) (k : Nat) : Bool := decide (ws.length ≤ 8) && (ws.take k).all wordB
theorem goodTo_succ {ws : List (List UInt8)} {k : Nat} (hk : k < ws.length) : goodTo ws (k + 1) = (goodTo ws k && wordB ws[k]) := by
  unfold goodTo
  rw [List.take_succ_eq_append_getElem hk, List.all_append, Bool.and_assoc]
  simp

set_option maxRecDepth 100000 in
theorem lwords_any (s : ByteArray) (w : World) (hs : s.size ≤ 1000000) (hg : Glob w) : Calls Tryz.prog 52 #[.string s] w (RowOut (wordsR s.data.toList) w) := by
  have hsp := split_any 32 s w hs hg
  have hB : Below w.heap.size w (w.alloc (.cells (((cuts 32 s.data.toList).map mk).map Value.string).toArray 9)) := (Below.refl _ _).alloc (Nat.le_refl _) _
  have hLs : (w.alloc (.cells (((cuts 32 s.data.toList).map mk).map Value.string).toArray 9)).heap.size = w.heap.size + 1 := by simp
  have hL : StrS (w.alloc (.cells (((cuts 32 s.data.toList).map mk).map Value.string).toArray 9)) (fun b => w.heap.size ≤ b ∧ b < w.heap.size + 1) (.slice (some ⟨w.heap.size, 0, none⟩) (cuts 32 s.data.toList).length (cuts 32 s.data.toList).length) ((cuts 32 s.data.toList).map mk) := by
    have hb : Blk (w.alloc (.cells (((cuts 32 s.data.toList).map mk).map Value.string).toArray 9)) w.heap.size 9 _ := Blk.new _ _ _
    have h2 := StrS.of_blk hb (K := fun b => w.heap.size ≤ b ∧ b < w.heap.size + 1) ⟨Nat.le_refl _, Nat.lt_succ_self _⟩
    rw [List.length_map] at h2
    exact h2
  have hlen : (cuts 32 s.data.toList).length ≤ s.size + 1 := by
    have := segs_len 32 s.data.toList
    rw [← Lib.size_eq] at this
    unfold cuts
    simp
    omega
  have hr : Hid (wordsR s.data.toList = if goodTo (cuts 32 s.data.toList) (cuts 32 s.data.toList).length = true then (cuts 32 s.data.toList, 0) else ([], 2)) := by
    unfold Hid wordsR goodTo
    rw [List.take_length]
    simp only [Bool.and_eq_true, decide_eq_true_eq]
  have hwb : Hid (∀ (k : Nat) (hk : k < (cuts 32 s.data.toList).length), wordB (cuts 32 s.data.toList)[k] = false → wordsR s.data.toList = ([], 2)) := fun k hk h => words_bad (List.getElem_mem hk) h
  have hwl : Hid (∀ (k : Nat) (hk : k < (cuts 32 s.data.toList).length), (cuts 32 s.data.toList)[k].length ≤ 1000000) := fun k hk => by
    have := cuts_len (List.getElem_mem hk)
    rw [← Lib.size_eq] at this
    omega
  generalize hW : (w.alloc (.cells (((cuts 32 s.data.toList).map mk).map Value.string).toArray 9)) = W at *
  clear hW
  generalize cuts 32 s.data.toList = ws at *
  have hn1 : (0 : Int) ≤ (ws.length : Int) := Int.natCast_nonneg _
  have hn2 : (ws.length : Int) ≤ 1000001 := by omega
  replace hsp := hide hsp
  replace hLs := hide hLs
  have hg0 : goodTo ws 0 = decide (ws.length ≤ 8) := by unfold goodTo; simp
  have hg1 : decide ((ws.length : Int) ≤ 8) = goodTo ws 0 := by
    rw [hg0, Bool.eq_iff_iff, decide_eq_true_iff, decide_eq_true_iff]; omega
  replace hg0 := hide hg0
  replace hg1 := hide hg1
  go_enter Tryz.func52, Tryz.ntmps52
  go_wp2
  go_step3
  go_wp2_with (go_at_call 51; refine hsp.out.mono ?_; rintro e W ⟨rfl, rfl⟩)
  go_step3
  go_wp2
  rw [hg1.out]
  go_loopg [5, 7, 8, 16] ws.length (fun gk s5 _ _ s16 wx => ∃ k : Nat, k + gk = ws.length ∧ s16 = .int .i64 k ∧ s5 = .bool (goodTo ws k) ∧ W = wx)
  case atStart => exact ⟨0, by omega, by go_num, rfl, rfl⟩
  case round =>
    obtain ⟨k, hk, rfl, rfl, rfl⟩ := hrel
    by_cases hkl : k < ws.length
    · obtain ⟨_, c0⟩ := StrS.cells hL (i := k) (by simpa using hkl)
      have hk1 : (0 : Int) ≤ (k : Int) := Int.natCast_nonneg _
      have hk2 : (k : Int) < (ws.length : Int) := by omega
      have hgs := hide (goodTo_succ hkl)
      have hwx := hide (hwb.out k hkl)
      have hyl := hwl.out k hkl
      rw [List.getElem_map, Nat.zero_add] at c0
      have hxw : Hid ((mk ws[k]).data.toList = ws[k]) := rfl
      generalize ws[k] = y at *
      generalize mk y = x at *
      have hxs := hide (Lib.size_eq x)
      have hat := hide (fun (i : Nat) (hi : i < x.size) => bytes_at x hi)
      have hwbad : Hid (∀ i (hi : i < x.size), signB x[i] = false → wordsR s.data.toList = ([], 2)) := fun i hi h => by
        apply hwx.out
        obtain ⟨h2, h3⟩ := hat.out i hi
        unfold wordB
        rw [Bool.and_eq_false_iff]
        right
        rw [List.all_eq_false]
        exact ⟨x[i], by rw [h3, ← hxw.out]; exact List.getElem_mem h2, by simp [h]⟩
      have hgw : Hid ((∀ i (hi : i < x.size), signB x[i] = true) → wordB y = !y.isEmpty) := fun h => by
        unfold wordB
        rw [show y.all signB = true from ?_, Bool.and_true]
        rw [List.all_eq_true]
        intro b hb
        rw [← hxw.out] at hb
        obtain ⟨i, hi, rfl⟩ := List.getElem_of_mem hb
        have hi2 : i < x.size := by rw [hxs.out]; exact hi
        obtain ⟨_, h3⟩ := hat.out i hi2
        rw [← h3]
        exact h i hi2
      have hnext : Hid (∀ g2 : Bool, g2 = (goodTo ws k && !y.isEmpty) → (∀ i (hi : i < x.size), signB x[i] = true) → goodTo ws (k + 1) = g2) := fun g2 h1 h2 => by rw [hgs.out, hgw.out h2, h1]
      have hxl : x.toList = y := by rw [Lib.toList_data, hxw.out]
      have hxb : x.size ≤ 9223372036854775807 := by rw [hxs.out, hxw.out]; omega
      clear hgs hgw hwx
      cases hgk : goodTo ws k with
      | true =>
        by_cases hy : y = []
        · have e1 : x.toList.isEmpty = true := by rw [hxl, hy]; rfl
          have e2 : (x.toList == ByteArray.toList { data := #[] }) = true := by rw [hxl, hy, toList_nil]; rfl
          have e3 : x.toList = [] := by rw [hxl, hy]
          replace hnext := hide (hnext.out false (by rw [hgk, hy]; rfl))
          clear hy hxl hgk
          rw [toList_nil] at e2
          go_wp2
          go_loopg [5, 8] x.size (fun gi s5 s8 wx => ∃ i : Nat, i + gi = x.size ∧ s5 = .bool false ∧ s8 = .int .i64 i ∧ Hid (∀ j (hj : j < x.size), j < i → signB x[j] = true) ∧ W = wx)
          case atStart => exact ⟨0, by omega, rfl, by go_num, fun j _ h => absurd h (by omega), rfl⟩
          case round =>
            obtain ⟨i, hi, rfl, rfl, hall, rfl⟩ := hrel
            by_cases hlt : i < x.size
            · have hi1 : (0 : Int) ≤ (i : Int) := Int.natCast_nonneg _
              have hi2 : (i : Int) < (x.size : Int) := by omega
              by_cases c1 : (x[i].toNat : Int) ≤ 32
              · have hbad := hide (hwbad.out i hlt (sign_low c1))
                have d1 : decide ((x[i].toNat : Int) ≤ 32) = true := by simpa using c1
                clear c1
                go_wp2
                (first | rw [Exit.noGoto_ret] | skip)
                go_ret2
                exact ⟨.slice none 0 0, by rw [hbad.out]; rfl, by rw [hbad.out]; exact StrS.nil _ _ _ _, hB⟩
              · have d1 : decide ((x[i].toNat : Int) ≤ 32) = false := by simpa using c1
                by_cases c2 : 126 < (x[i].toNat : Int)
                · have hbad := hide (hwbad.out i hlt (sign_high c2))
                  have d2 : decide (126 < (x[i].toNat : Int)) = true := by simpa using c2
                  clear c1 c2
                  go_wp2
                  (first | rw [Exit.noGoto_ret] | skip)
                  go_ret2
                  exact ⟨.slice none 0 0, by rw [hbad.out]; rfl, by rw [hbad.out]; exact StrS.nil _ _ _ _, hB⟩
                · have d2 : decide (126 < (x[i].toNat : Int)) = false := by simpa using c2
                  have hall2 : Hid (∀ j (hj : j < x.size), j < i + 1 → signB x[j] = true) := fun j hj hji => by
                    by_cases hje : j = i
                    · subst hje; exact sign_mid c1 c2
                    · exact hall.out j hj (by omega)
                  clear c1 c2 hall
                  go_wp2
                  go_roundg (x.size - (i + 1))
                  case measure => omega
                  case rel => exact ⟨i + 1, by omega, rfl, by go_num, hall2, rfl⟩
            · have : i = x.size := by omega
              subst this
              have hfin := hide (hnext.out (fun j hj => hall.out j hj hj))
              clear hall
              go_wp2
              go_roundg (ws.length - (k + 1))
              case measure => omega
              case rel => exact ⟨k + 1, by omega, by go_num, by rw [hfin.out], rfl⟩
        · have e1 : x.toList.isEmpty = false := by rw [hxl]; simpa using hy
          have e2 : (x.toList == ByteArray.toList { data := #[] }) = false := by rw [hxl, toList_nil]; simpa using hy
          have e3 : ¬ x.toList = [] := by rw [hxl]; exact hy
          replace hnext := hide (hnext.out true (by rw [hgk]; simpa using hy))
          clear hy hxl hgk
          go_wp2
          go_loopg [5, 8] x.size (fun gi s5 s8 wx => ∃ i : Nat, i + gi = x.size ∧ s5 = .bool true ∧ s8 = .int .i64 i ∧ Hid (∀ j (hj : j < x.size), j < i → signB x[j] = true) ∧ W = wx)
          case atStart => exact ⟨0, by omega, rfl, by go_num, fun j _ h => absurd h (by omega), rfl⟩
          case round =>
            obtain ⟨i, hi, rfl, rfl, hall, rfl⟩ := hrel
            by_cases hlt : i < x.size
            · have hi1 : (0 : Int) ≤ (i : Int) := Int.natCast_nonneg _
              have hi2 : (i : Int) < (x.size : Int) := by omega
              by_cases c1 : (x[i].toNat : Int) ≤ 32
              · have hbad := hide (hwbad.out i hlt (sign_low c1))
                have d1 : decide ((x[i].toNat : Int) ≤ 32) = true := by simpa using c1
                clear c1
                go_wp2
                (first | rw [Exit.noGoto_ret] | skip)
                go_ret2
                exact ⟨.slice none 0 0, by rw [hbad.out]; rfl, by rw [hbad.out]; exact StrS.nil _ _ _ _, hB⟩
              · have d1 : decide ((x[i].toNat : Int) ≤ 32) = false := by simpa using c1
                by_cases c2 : 126 < (x[i].toNat : Int)
                · have hbad := hide (hwbad.out i hlt (sign_high c2))
                  have d2 : decide (126 < (x[i].toNat : Int)) = true := by simpa using c2
                  clear c1 c2
                  go_wp2
                  (first | rw [Exit.noGoto_ret] | skip)
                  go_ret2
                  exact ⟨.slice none 0 0, by rw [hbad.out]; rfl, by rw [hbad.out]; exact StrS.nil _ _ _ _, hB⟩
                · have d2 : decide (126 < (x[i].toNat : Int)) = false := by simpa using c2
                  have hall2 : Hid (∀ j (hj : j < x.size), j < i + 1 → signB x[j] = true) := fun j hj hji => by
                    by_cases hje : j = i
                    · subst hje; exact sign_mid c1 c2
                    · exact hall.out j hj (by omega)
                  clear c1 c2 hall
                  go_wp2
                  go_roundg (x.size - (i + 1))
                  case measure => omega
                  case rel => exact ⟨i + 1, by omega, rfl, by go_num, hall2, rfl⟩
            · have : i = x.size := by omega
              subst this
              have hfin := hide (hnext.out (fun j hj => hall.out j hj hj))
              clear hall
              go_wp2
              go_roundg (ws.length - (k + 1))
              case measure => omega
              case rel => exact ⟨k + 1, by omega, by go_num, by rw [hfin.out], rfl⟩
      | false =>
        replace hnext := hide (hnext.out false (by rw [hgk]; rfl))
        clear hxl hgk
        go_wp2
        go_loopg [5, 8] x.size (fun gi s5 s8 wx => ∃ i : Nat, i + gi = x.size ∧ s5 = .bool false ∧ s8 = .int .i64 i ∧ Hid (∀ j (hj : j < x.size), j < i → signB x[j] = true) ∧ W = wx)
        case atStart => exact ⟨0, by omega, rfl, by go_num, fun j _ h => absurd h (by omega), rfl⟩
        case round =>
          obtain ⟨i, hi, rfl, rfl, hall, rfl⟩ := hrel
          by_cases hlt : i < x.size
          · have hi1 : (0 : Int) ≤ (i : Int) := Int.natCast_nonneg _
            have hi2 : (i : Int) < (x.size : Int) := by omega
            by_cases c1 : (x[i].toNat : Int) ≤ 32
            · have hbad := hide (hwbad.out i hlt (sign_low c1))
              have d1 : decide ((x[i].toNat : Int) ≤ 32) = true := by simpa using c1
              clear c1
              go_wp2
              (first | rw [Exit.noGoto_ret] | skip)
              go_ret2
              exact ⟨.slice none 0 0, by rw [hbad.out]; rfl, by rw [hbad.out]; exact StrS.nil _ _ _ _, hB⟩
            · have d1 : decide ((x[i].toNat : Int) ≤ 32) = false := by simpa using c1
              by_cases c2 : 126 < (x[i].toNat : Int)
              · have hbad := hide (hwbad.out i hlt (sign_high c2))
                have d2 : decide (126 < (x[i].toNat : Int)) = true := by simpa using c2
                clear c1 c2
                go_wp2
                (first | rw [Exit.noGoto_ret] | skip)
                go_ret2
                exact ⟨.slice none 0 0, by rw [hbad.out]; rfl, by rw [hbad.out]; exact StrS.nil _ _ _ _, hB⟩
              · have d2 : decide (126 < (x[i].toNat : Int)) = false := by simpa using c2
                have hall2 : Hid (∀ j (hj : j < x.size), j < i + 1 → signB x[j] = true) := fun j hj hji => by
                  by_cases hje : j = i
                  · subst hje; exact sign_mid c1 c2
                  · exact hall.out j hj (by omega)
                clear c1 c2 hall
                go_wp2
                go_roundg (x.size - (i + 1))
                case measure => omega
                case rel => exact ⟨i + 1, by omega, rfl, by go_num, hall2, rfl⟩
          · have : i = x.size := by omega
            subst this
            have hfin := hide (hnext.out (fun j hj => hall.out j hj hj))
            clear hall
            go_wp2
            go_roundg (ws.length - (k + 1))
            case measure => omega
            case rel => exact ⟨k + 1, by omega, by go_num, by rw [hfin.out], rfl⟩
    · have : k = ws.length := by omega
      subst this
      cases hgk : goodTo ws ws.length with
      | true =>
        rw [hgk] at hr
        go_wp2
        (first | rw [Exit.noGoto_ret] | skip)
        go_ret2
        exact ⟨_, by rw [hr.out]; rfl, by rw [hr.out]; exact StrS.fit hL (fun b hb => by rw [hLs.out]; exact hb), hB⟩
      | false =>
        rw [hgk] at hr
        go_wp2
        (first | rw [Exit.noGoto_ret] | skip)
        go_ret2
        exact ⟨.slice none 0 0, by rw [hr.out]; rfl, by rw [hr.out]; exact StrS.nil _ _ _ _, hB⟩
end Go.Proofs.YtphcebgpllecjaaGreatDoor
