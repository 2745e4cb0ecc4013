/-
  Walks: DiaryFirst.
-/
import Derived.Test.YtmhgbckjkmjeeaaDoorLaw4
set_option linter.unusedVariables false
set_option linter.unusedSimpArgs false
namespace Go.Proofs.YtmhgbckjkmjeeaaDoor
open Go.RowKit Go.Inq
set_option maxHeartbeats 4000000
attribute [local go_sem ↓] Go.wp_at_zero Go.wp_at_succ

set_option maxRecDepth 100000 in
theorem diaryFirst_any (s t : ByteArray) (w : World) (hs : s.size ≤ maxLen) (ht : t.size ≤ maxLen) (henv : Env w) :
    Calls Tryd.prog 9 #[.string s, .string t] w fun e w' => e = .returned (.bool true) ∧ Below w.heap.size w w' := by
  have hs2 : s.size ≤ 9223372036854775807 := hs
  have ht2 : t.size ≤ 9223372036854775807 := ht
  go_enter Tryd.func9, Tryd.ntmps9
  go_wp2_with fail
  refine (awake04_any w henv).mono ?_
  rintro e w1 ⟨rfl, B1⟩
  have e1 := henv.below B1
  by_cases q0 : 3000 < s.size
  · have d0 : decide ((3000 : Int) < (s.size : Int)) = true := by simp; omega
    go_wp2
    go_ret
    exact ⟨by simp, B1⟩
  have d0 : decide ((3000 : Int) < (s.size : Int)) = false := by simp; omega
  by_cases q1 : 1000 < t.size
  · have d1 : decide ((1000 : Int) < (t.size : Int)) = true := by simp; omega
    go_wp2
    go_ret
    exact ⟨by simp, B1⟩
  have d1 : decide ((1000 : Int) < (t.size : Int)) = false := by simp; omega
  have q3 : s.size ≤ 1000000 := by omega
  have q5 : (s ++ t).size ≤ 1000000 := by rw [ByteArray.size_append]; omega
  have q6 : s.size + t.size ≤ 4000 := by omega
  clear henv
  have pa := fun w h => dparse_any s w q3 h
  have pb := fun w (h : Env w) => lsplit_any s w q3 h.glob
  by_cases h0 : (splitR s.data.toList).2 = 0
  rotate_left
  · rw [diaryR_split h0] at pa
    generalize splitR s.data.toList = sp at *
    obtain ⟨rows, f⟩ := sp
    have hfb : (f != 0) = true := by simpa using h0
    go_wp2_with fail
    refine (pa _ e1).mono ?_
    intro e w2 ho
    obtain ⟨A2, c2, rfl, ka, hb2⟩ := ho.open
    have B2 := B1.trans (hb2.mono B1.size)
    have e2 := e1.below hb2
    clear ho hb2 e1 B1
    go_wp2_with fail
    refine (pb _ e2).mono ?_
    intro e w3 ho
    obtain ⟨A3, c3, rfl, kb, hb3⟩ := RowOut.open ho
    clear ho pa pb
    go_wp2
    go_ret
    exact ⟨by simp, B2.trans (hb3.mono B2.size)⟩
  have hlen := splitR_len s.data.toList
  rw [diaryR_rows h0] at pa
  rcases evsR_ways (splitR s.data.toList).1 with hall | ⟨i, hi, hj, hbad⟩
  · rw [evsR_good hall] at pa
    have hel := evl_len (splitR s.data.toList).1
    generalize hev : evl (splitR s.data.toList).1 = ev at *
    generalize splitR s.data.toList = sp at *
    obtain ⟨rows, f⟩ := sp
    dsimp only at h0 hel hlen
    subst h0
    have hfb : ((ev.length : Int) == (rows.length : Int)) = true := by rw [hel]; simp
    go_wp2_with fail
    refine (pa _ e1).mono ?_
    intro e w2 ho
    obtain ⟨A2, c2, rfl, ka, hb2⟩ := ho.open
    have B2 := B1.trans (hb2.mono B1.size)
    have e2 := e1.below hb2
    clear ho hb2 e1 B1
    go_wp2_with fail
    refine (pb _ e2).mono ?_
    intro e w3 ho
    obtain ⟨A3, c3, rfl, kb, hb3⟩ := RowOut.open ho
    clear ho pa pb
    go_wp2
    go_ret
    exact ⟨by simp [hel], B2.trans (hb3.mono B2.size)⟩
  · rw [evsR_bad hi hj hbad] at pa
    have hfirst := hide (fun h => diary_first h0 hi hj hbad t.data.toList h)
    have hszr : ∀ j (h : j < (splitR s.data.toList).1.length), (mk (splitR s.data.toList).1[j]).size ≤ 1000000 := fun j h => by
      have := rows_len h0 (List.getElem_mem h)
      rw [← Lib.size_eq] at this
      rw [mk_size]
      omega
    have pc := fun w h => dparse_any (s ++ t) w q5 h
    have pd := fun w (h : Env w) => lsplit_any (s ++ t) w q5 h.glob
    rw [data_append'] at pc pd
    have hsplit := fun h => diaryR_split (l := s.data.toList ++ t.data.toList) h
    generalize hfe : rowE (splitR s.data.toList).1 i = fe at *
    generalize diaryR (s.data.toList ++ t.data.toList) = rc at *
    generalize splitR (s.data.toList ++ t.data.toList) = rd at *
    generalize splitR s.data.toList = sp at *
    obtain ⟨rows, f⟩ := sp
    dsimp only at h0 hlen hszr hfirst hi hj hfe
    subst h0
    have hfeb : (fe == 0) = false := by simpa using hbad
    have hi0 : ¬ ((i : Int) + 1 < 1) := by omega
    have hi3 : ¬ ((rows.length : Int) < (i : Int) + 1) := by omega
    have d2 : decide ((i : Int) + 1 < 1) = false := by simpa using hi0
    have d3 : decide ((rows.length : Int) < (i : Int) + 1) = false := by simpa using hi3
    go_wp2_with fail
    refine (pa _ e1).mono ?_
    intro e w2 ho
    obtain ⟨A2, c2, rfl, ka, hb2⟩ := ho.open
    have B2 := B1.trans (hb2.mono B1.size)
    have e2 := e1.below hb2
    clear ho hb2 e1 B1 ka
    go_wp2_with fail
    refine (pb _ e2).mono ?_
    intro e w3 ho
    obtain ⟨A3, c3, rfl, kb, hb3⟩ := RowOut.open ho
    replace kb : StrS w3 (Old w3) _ _ := StrS.fit kb (fun b hb => hb.2)
    have B3 := B2.trans (hb3.mono B2.size)
    have e3 := e2.below hb3
    clear ho pa pb hb3 e2 B2
    dsimp only at kb
    go_wp2_with fail
    replace hj := hide hj
    replace hszr := hide hszr
    go_loopw [11, 12, 13] (fun s11 _ _ wr => ∃ j : Nat, j ≤ i + 1 ∧ s11 = .int .i64 j ∧ Below w3.heap.size w3 wr) (fun s11 _ _ _ => i + 1 - (intOf s11).toNat)
    case atStart => exact ⟨0, by omega, by go_num, Below.refl _ _⟩
    case round =>
      obtain ⟨j, hji, rfl, hb⟩ := hrel
      have B4 := B3.trans (hb.mono B3.size)
      have e4 := e3.below hb
      by_cases hlt : j < i + 1
      · have hjr : j < rows.length := by omega
        have hl2 := StrS.below kb hb
        obtain ⟨b, off, rfl, hbK, c0⟩ := StrS.at_ hl2 (i := j) (by rw [List.length_map]; exact hjr)
        rw [List.getElem_map] at c0
        have hj1 : (0 : Int) ≤ (j : Int) := Int.natCast_nonneg _
        have hj2 : (j : Int) < (rows.length : Int) := by omega
        have hpar := eparse_any (mk rows[j]) wr (hszr.out j hjr) e4
        rw [mk_bytes] at hpar
        have hrow := rowE_at hjr
        have hpe : (parseR rows[j]).2 = if j = i then fe else 0 := by
          split
          · rename_i h; subst h; rw [← hrow]; exact hfe
          · rename_i h; rw [← hrow]; exact hj.out j (by omega)
        generalize mk rows[j] = tx at *
        generalize parseR rows[j] = pr at *
        obtain ⟨⟨x0, x1, x2, x3⟩, g⟩ := pr
        dsimp only at hpe
        subst hpe
        have hlt1 : (j : Int) < (i : Int) + 1 := by omega
        clear hrow hl2 hbK hfe
        by_cases hjeq : j = i
        · rw [if_pos hjeq] at hpar
          subst hjeq
          have hn1 : decide ((j : Int) < (j : Int)) = false := by simp
          go_wp2_with fail
          refine hpar.mono ?_
          rintro e w4 ⟨rfl, hb4⟩
          have hb5 := (hb.trans (hb4.mono hb.size)).alloc (hb.trans (hb4.mono hb.size)).size (.cells #[.int .i64 x0, .int .i64 x1, .int .i64 x2, .int .i64 x3] 23)
          go_wp2
          go_roundw
          case rel => exact ⟨j + 1, by omega, by go_num, hb5⟩
          case measure => simp [intOf]
        · rw [if_neg hjeq] at hpar
          have hn1 : (j : Int) < (i : Int) := by omega
          have hn2 : ((j : Int) == (i : Int)) = false := by simp; omega
          have hn3 : decide ((j : Int) < (i : Int)) = true := by simp; omega
          go_wp2_with fail
          refine hpar.mono ?_
          rintro e w4 ⟨rfl, hb4⟩
          have hb5 := (hb.trans (hb4.mono hb.size)).alloc (hb.trans (hb4.mono hb.size)).size (.cells #[.int .i64 x0, .int .i64 x1, .int .i64 x2, .int .i64 x3] 23)
          go_wp2
          go_roundw
          case rel => exact ⟨j + 1, by omega, by go_num, hb5⟩
          case measure => simp [intOf]; omega
      · have : j = i + 1 := by omega
        subst this
        clear hszr hj hfe kb
        have hlt2 : ¬ ((i : Int) + 1 < (i : Int) + 1) := by omega
        by_cases hd : rd.2 = 0
        · have hrc := hfirst.out hd
          subst hrc
          obtain ⟨rs, h⟩ := rd
          dsimp only at hd
          subst hd
          clear hsplit hfirst
          go_wp2_with fail
          refine (pd _ e4).mono ?_
          intro e w5 ho
          obtain ⟨A5, c5, rfl, -, hb5⟩ := RowOut.open ho
          have e5 := e4.below hb5
          have B5 := B4.trans (hb5.mono B4.size)
          clear ho hb5
          go_wp2_with fail
          refine (pc _ e5).mono ?_
          intro e w6 ho
          obtain ⟨A6, c6, rfl, -, hb6⟩ := ho.open
          clear ho
          go_wp2
          go_ret
          exact ⟨by simp, B5.trans (hb6.mono B5.size)⟩
        · have hrc := hsplit hd
          subst hrc
          obtain ⟨rs, h⟩ := rd
          dsimp only at hd pc pd
          have hdb : (h != 0) = true := by simpa using hd
          have hdc : (h == 0) = false := by simpa using hd
          clear hsplit hfirst
          go_wp2_with fail
          refine (pd _ e4).mono ?_
          intro e w5 ho
          obtain ⟨A5, c5, rfl, -, hb5⟩ := RowOut.open ho
          have e5 := e4.below hb5
          have B5 := B4.trans (hb5.mono B4.size)
          clear ho hb5
          go_wp2_with fail
          refine (pc _ e5).mono ?_
          intro e w6 ho
          obtain ⟨A6, c6, rfl, -, hb6⟩ := ho.open
          clear ho
          go_wp2
          go_ret
          exact ⟨by simp, B5.trans (hb6.mono B5.size)⟩
end Go.Proofs.YtmhgbckjkmjeeaaDoor
