/-
  Walks: the reference's comparisons of layer 6; a face as the reference has it.
-/
import Derived.Test.YteddcpblpkhoeaaItems
import Derived.Test.YteddcpblpkhoeaaPlan2
set_option linter.unusedVariables false
set_option linter.unusedSimpArgs false
namespace Go.Proofs.Yteddcpblpkhoeaa
open Go.RowKit Go.Inq
set_option maxHeartbeats 1000000
attribute [local go_sem ↓] Go.wp_at_zero Go.wp_at_succ

theorem eqIt_any (A A' : Option Addr) (c c' : Nat) (l l' : List It) (w : World) (h : ItS w (Old w) (.slice A l.length c) l) (h' : ItS w (Old w) (.slice A' l'.length c') l') (hn : l.length ≤ 1000000) (hn' : l'.length ≤ 1000000) :
    Calls Try.prog 17 #[.slice A l.length c, .slice A' l'.length c'] w fun e w' => e = .returned (.bool (decide (l = l'))) ∧ Below w.heap.size w w' := by
  rcases Nat.decEq l.length l'.length with hlen | hlen
  rotate_left
  · rw [← hlen] at h' ⊢
    have hlen2 := hide hlen
    clear hn' hlen
    go_enter Try.func17, Try.ntmps17
    go_wp2
    go_loopw [5] (fun s5 wr => ∃ i : Nat, i ≤ l.length ∧ s5 = .int .i64 i ∧ Hid (∀ j (hj : j < l.length) (hj' : j < l'.length), j < i → l[j] = l'[j]) ∧ Below w.heap.size w wr) (fun s5 _ => l.length - (intOf s5).toNat)
    case atStart => exact ⟨0, Nat.zero_le _, by go_num, fun j _ _ h => absurd h (by omega), Below.refl _ _⟩
    case round =>
      obtain ⟨i, hi, rfl, hall, hb⟩ := hrel
      by_cases hlt : i < l.length
      · have hlt' : i < l'.length := by have := hlen2.out; omega
        have hw := ItS.below h hb
        have hw' := ItS.below h' hb
        obtain ⟨b, off, rfl, hbK, c0, c1⟩ := ItS.at_ hw hlt
        obtain ⟨b', off', rfl, hbK', d0, d1⟩ := ItS.at_ hw' hlt'
        have hi1 : (0 : Int) ≤ (i : Int) := Int.natCast_nonneg _
        have hi2 : (i : Int) < (l.length : Int) := by omega
        have hx := hide (show l[i] = l[i] from rfl)
        by_cases he : l[i] = l'[i]
        · have hstep : Hid (∀ j (hj : j < l.length) (hj' : j < l'.length), j < i + 1 → l[j] = l'[j]) := fun j hj hj' hji => by
            by_cases hje : j = i
            · subst hje; exact he
            · exact hall.out j hj hj' (by omega)
          rw [← he] at d0 d1
          clear he
          generalize l[i] = x at *
          go_wp2
          go_quiet (fail)
          go_wp2
          go_roundw
          case rel => exact ⟨i + 1, by omega, by go_num, hstep, ⟨hb.os, hb.tape, hb.output, hb.size, hb.block⟩⟩
          case measure => simp [intOf]; omega
        · have hf : l ≠ l' := fun e => he (by subst e; rfl)
          have hne : Hid (¬ (l[i].a = l'[i].a ∧ l[i].b = l'[i].b)) := fun e => he (by
            cases hq : l[i] with
            | mk a b => cases hq' : l'[i] with
              | mk a' b' => rw [hq, hq'] at e; simp at e; simp [e.1, e.2])
          generalize l[i] = x at *
          generalize l'[i] = x' at *
          by_cases ha : x.a = x'.a
          · have hb1 : ¬ x.b = x'.b := fun e => hne.out ⟨ha, e⟩
            have hb2 : (x.b == x'.b) = false := by simp [hb1]
            rw [ha] at c0
            go_wp2
            go_quiet (fail)
            go_wp2
            go_ret
            exact ⟨by simp [hf], ⟨hb.os, hb.tape, hb.output, hb.size, hb.block⟩⟩
          · have ha2 : (x.a == x'.a) = false := by simp [ha]
            go_wp2
            go_quiet (fail)
            go_wp2
            go_ret
            exact ⟨by simp [hf], ⟨hb.os, hb.tape, hb.output, hb.size, hb.block⟩⟩
      · have he : l = l' := List.ext_getElem hlen2.out (fun j h1 h2 => hall.out j h1 h2 (by omega))
        have : i = l.length := by omega
        subst this
        go_wp2
        go_ret
        exact ⟨by simp [he], hb⟩
  · have hf : l ≠ l' := fun e => hlen (by rw [e])
    go_enter Try.func17, Try.ntmps17
    go_wp2
    go_ret
    exact ⟨by simp [hf], Below.refl _ _⟩

theorem ItS.form {w : World} {K : Nat → Prop} {v : Value} {l : List It} (h : ItS w K v l) : ∃ A c, v = .slice A l.length c := by
  obtain ⟨A, c, hv, _⟩ := SlR.len h
  exact ⟨A, c, hv⟩

theorem sameFace_any (r1 w1 r2 w2 : Value) (lr1 lw1 lr2 lw2 : List It) (w : World) (h1 : ItS w (Old w) r1 lr1) (h2 : ItS w (Old w) w1 lw1) (h3 : ItS w (Old w) r2 lr2) (h4 : ItS w (Old w) w2 lw2)
    (n1 : lr1.length ≤ 1000000) (n2 : lw1.length ≤ 1000000) (n3 : lr2.length ≤ 1000000) (n4 : lw2.length ≤ 1000000) :
    Calls Try.prog 14 #[.agg #[r1, w1], .agg #[r2, w2]] w fun e w' => e = .returned (.bool (decide (lr1 = lr2) && decide (lw1 = lw2))) ∧ Below w.heap.size w w' := by
  obtain ⟨A1, c1, rfl⟩ := ItS.form h1
  obtain ⟨A2, c2, rfl⟩ := ItS.form h2
  obtain ⟨A3, c3, rfl⟩ := ItS.form h3
  obtain ⟨A4, c4, rfl⟩ := ItS.form h4
  have B0 : Below w.heap.size w ((w.alloc (.cells #[.slice A1 lr1.length c1, .slice A2 lw1.length c2] 34)).alloc (.cells #[.slice A3 lr2.length c3, .slice A4 lw2.length c4] 34)) := ((Below.refl _ _).alloc (Nat.le_refl _) _).alloc (by simp) _
  have k1 : Blk ((w.alloc (.cells #[.slice A1 lr1.length c1, .slice A2 lw1.length c2] 34)).alloc (.cells #[.slice A3 lr2.length c3, .slice A4 lw2.length c4] 34)) w.heap.size 34 #[.slice A1 lr1.length c1, .slice A2 lw1.length c2] := (Blk.new _ _ _).alloc _
  have k2 : Blk ((w.alloc (.cells #[.slice A1 lr1.length c1, .slice A2 lw1.length c2] 34)).alloc (.cells #[.slice A3 lr2.length c3, .slice A4 lw2.length c4] 34)) (w.heap.size + 1) 34 #[.slice A3 lr2.length c3, .slice A4 lw2.length c4] := by
    have := Blk.new (w.alloc (.cells #[.slice A1 lr1.length c1, .slice A2 lw1.length c2] 34)) 34 #[.slice A3 lr2.length c3, .slice A4 lw2.length c4]
    simpa using this
  go_enter Try.func14, Try.ntmps14
  go_wp2_with fail
  refine (eqIt_any A1 A3 c1 c3 lr1 lr2 _ (ItS.below h1 B0) (ItS.below h3 B0) n1 n3).mono ?_
  rintro e w5 ⟨rfl, hb5⟩
  have m1 := (k1.below hb5 k1.lt).cell 1
  have m2 := (k2.below hb5 k2.lt).cell 1
  have hb6 := B0.trans (hb5.mono B0.size)
  simp at m1 m2
  clear k1 k2 hb5
  go_wp2_with fail
  refine (eqIt_any A2 A4 c2 c4 lw1 lw2 w5 (ItS.below h2 hb6) (ItS.below h4 hb6) n2 n4).mono ?_
  rintro e w7 ⟨rfl, hb7⟩
  have hb8 := hb6.trans (hb7.mono hb6.size)
  by_cases e1 : lr1 = lr2
  · by_cases e2 : lw1 = lw2
    · go_wp2
      go_ret
      exact ⟨by simp [e1, e2], hb8⟩
    · go_wp2
      go_ret
      exact ⟨by simp [e1, e2], hb8⟩
  · go_wp2
    go_ret
    exact ⟨by simp [e1], hb8⟩

set_option maxRecDepth 100000 in
theorem plain_any (r1 w1 : Value) (lr lw : List It) (w : World) (h1 : ItS w (Old w) r1 lr) (h2 : ItS w (Old w) w1 lw) (n1 : lr.length ≤ 1000000) (n2 : lw.length ≤ 1000000) :
    Calls Try.prog 15 #[.agg #[r1, w1]] w fun e w' => ∃ rv wv, e = .returned (.agg #[rv, wv]) ∧ ItS w' (fun b => w.heap.size ≤ b ∧ b < w'.heap.size) rv lr ∧ ItS w' (fun b => w.heap.size ≤ b ∧ b < w'.heap.size) wv lw ∧ Below w.heap.size w w' := by
  obtain ⟨A1, c1, rfl⟩ := ItS.form h1
  obtain ⟨A2, c2, rfl⟩ := ItS.form h2
  go_enter Try.func15, Try.ntmps15
  have B0 : Below w.heap.size w ((w.alloc (.cells #[.slice A1 lr.length c1, .slice A2 lw.length c2] 28)).alloc (.cells #[.slice none 0 0, .slice none 0 0] 34)) := ((Below.refl _ _).alloc (Nat.le_refl _) _).alloc (by simp) _
  have k1 : Blk ((w.alloc (.cells #[.slice A1 lr.length c1, .slice A2 lw.length c2] 28)).alloc (.cells #[.slice none 0 0, .slice none 0 0] 34)) w.heap.size 28 #[.slice A1 lr.length c1, .slice A2 lw.length c2] := (Blk.new _ _ _).alloc _
  have k2 : Blk ((w.alloc (.cells #[.slice A1 lr.length c1, .slice A2 lw.length c2] 28)).alloc (.cells #[.slice none 0 0, .slice none 0 0] 34)) (w.heap.size + 1) 34 #[.slice none 0 0, .slice none 0 0] := by
    have := Blk.new (w.alloc (.cells #[.slice A1 lr.length c1, .slice A2 lw.length c2] 28)) 34 #[.slice none 0 0, .slice none 0 0]
    simpa using this
  go_wp2_with fail
  generalize hW : ((w.alloc (.cells #[.slice A1 lr.length c1, .slice A2 lw.length c2] 28)).alloc (.cells #[.slice none 0 0, .slice none 0 0] 34)) = W at *
  have hWs : w.heap.size + 2 = W.heap.size := by rw [← hW]; simp
  clear hW
  have a0 := k1.cell 0
  have a1 := k1.cell 1
  simp at a0 a1
  refine wp_region_alts [0, 1, 3] [2, 4, 5, 6, 7] [[2, 4, 5, 6, 7], [4, 2, 5, 6, 7]] (by kernel_rfl) (by kernel_rfl) (fun _ _ d _ _ h => by cases d <;> exact h) ?_
  simp only [List.filterMap_cons, List.filterMap_nil, List.getElem?_cons_zero, List.getElem?_cons_succ]
  repeat still_step
  refine wpStill_nil ?_
  replace B0 : Below w.heap.size w W.drew := B0.drew
  replace k1 : Blk W.drew w.heap.size 28 _ := k1
  replace k2 : Blk W.drew (w.heap.size + 1) 34 _ := k2
  generalize hV : W.drew = V at *
  have hVs : w.heap.size + 2 = V.heap.size := by rw [← hV]; exact hWs
  have b0 : V.cell? ⟨w.heap.size, 0, none⟩ = some (.slice A1 lr.length c1) := by rw [← hV]; exact a0
  have b1 : V.cell? ⟨w.heap.size, 1, none⟩ = some (.slice A2 lw.length c2) := by rw [← hV]; exact a1
  clear hV hWs a0 a1
  intro i hi
  simp only [List.filterMap_cons, List.head?_cons, List.filterMap_nil, List.mem_cons, List.not_mem_nil, or_false, or_self] at hi
  obtain rfl | rfl : i = 2 ∨ i = 4 := by omega
  · refine wpOp_list rfl ?_
    simp only [tailsOf, List.filterMap_cons, List.filterMap_nil, if_true, if_false, reduceIte, Nat.reduceEqDiff, List.length_cons, List.length_nil, Nat.reduceAdd]
    clear hi
    go_wp2_with fail
    refine (items_any A1 c1 lr V (ItS.below h1 B0) n1).mono ?_
    rintro e w5 ⟨rv, rfl, hr, hb5⟩
    have m1 := (k1.below hb5 k1.lt).cell 1
    have k3 := k2.below hb5 k2.lt
    have hb6 := B0.trans (hb5.mono B0.size)
    simp at m1
    have s5 := hb5.size
    clear hb5 k1 k2
    go_wp2_with fail
    refine wpAlt_one _ _ _ _ rfl ?_
    simp only [List.filterMap_cons, List.filterMap_nil, List.getElem?_toArray, List.getElem?_cons_zero, List.getElem?_cons_succ]
    go_wp2_with fail
    refine (items_any A2 c2 lw w5 (ItS.below h2 hb6) n2).mono ?_
    rintro e w7 ⟨wv, rfl, hw, hb7⟩
    have hb8 := hb6.trans (hb7.mono hb6.size)
    have k4 := k3.below hb7 k3.lt
    have d0 := k4.cell 0
    have d1 := k4.cell 1
    have z0 := k4.frozen 0
    have z1 := k4.frozen 1
    simp at d0 d1
    have hr2 : ItS w7 (fun b => w.heap.size + 2 ≤ b ∧ b < w7.heap.size) rv lr := ItS.keep hr (Agree.below hb7 fun b hb => hb.2) (fun b hb => ⟨by omega, Nat.lt_of_lt_of_le hb.2 hb7.size⟩)
    have hw2 : ItS w7 (fun b => w.heap.size + 2 ≤ b ∧ b < w7.heap.size) wv lw := ItS.fit hw (fun b hb => ⟨by omega, hb.2⟩)
    obtain ⟨A3, c3, rfl⟩ := ItS.form hr2
    obtain ⟨A4, c4, rfl⟩ := ItS.form hw2
    clear hr hw hb7
    go_wp2
    refine bodyPost_ret (v := .agg #[.slice A3 lr.length c3, .slice A4 lw.length c4]) (by simp [results, Try.results15, go_sem, d0, d1]) rfl ?_
    have ag : ∀ u u' : Value, Agree (fun b => w.heap.size + 2 ≤ b ∧ b < w7.heap.size) w7 ((w7.setCell ⟨w.heap.size + 1, 0, none⟩ u).setCell ⟨w.heap.size + 1, 1, none⟩ u') := fun u u' => (Agree.setCell _ (fun h => by have h2 : w.heap.size + 2 ≤ w.heap.size + 1 := h.1; omega) u).trans (Agree.setCell _ (fun h => by have h2 : w.heap.size + 2 ≤ w.heap.size + 1 := h.1; omega) u')
    exact ⟨_, _, rfl, ItS.keep hr2 (ag _ _) (fun b hb => ⟨by omega, by simpa using hb.2⟩), ItS.keep hw2 (ag _ _) (fun b hb => ⟨by omega, by simpa using hb.2⟩), (hb8.setCell (by simp) _).setCell (by simp) _⟩
  · refine wpOp_list rfl ?_
    simp only [tailsOf, List.filterMap_cons, List.filterMap_nil, if_true, if_false, reduceIte, Nat.reduceEqDiff, List.length_cons, List.length_nil, Nat.reduceAdd]
    clear hi
    go_wp2_with fail
    refine wpAlt_one _ _ _ _ rfl ?_
    simp only [List.filterMap_cons, List.filterMap_nil, List.getElem?_toArray, List.getElem?_cons_zero, List.getElem?_cons_succ]
    go_wp2_with fail
    refine (items_any A1 c1 lr V (ItS.below h1 B0) n1).mono ?_
    rintro e w5 ⟨rv, rfl, hr, hb5⟩
    have m1 := (k1.below hb5 k1.lt).cell 1
    have k3 := k2.below hb5 k2.lt
    have hb6 := B0.trans (hb5.mono B0.size)
    simp at m1
    have s5 := hb5.size
    clear hb5 k1 k2
    go_wp2_with fail
    refine (items_any A2 c2 lw w5 (ItS.below h2 hb6) n2).mono ?_
    rintro e w7 ⟨wv, rfl, hw, hb7⟩
    have hb8 := hb6.trans (hb7.mono hb6.size)
    have k4 := k3.below hb7 k3.lt
    have d0 := k4.cell 0
    have d1 := k4.cell 1
    have z0 := k4.frozen 0
    have z1 := k4.frozen 1
    simp at d0 d1
    have hr2 : ItS w7 (fun b => w.heap.size + 2 ≤ b ∧ b < w7.heap.size) rv lr := ItS.keep hr (Agree.below hb7 fun b hb => hb.2) (fun b hb => ⟨by omega, Nat.lt_of_lt_of_le hb.2 hb7.size⟩)
    have hw2 : ItS w7 (fun b => w.heap.size + 2 ≤ b ∧ b < w7.heap.size) wv lw := ItS.fit hw (fun b hb => ⟨by omega, hb.2⟩)
    obtain ⟨A3, c3, rfl⟩ := ItS.form hr2
    obtain ⟨A4, c4, rfl⟩ := ItS.form hw2
    clear hr hw hb7
    go_wp2
    refine bodyPost_ret (v := .agg #[.slice A3 lr.length c3, .slice A4 lw.length c4]) (by simp [results, Try.results15, go_sem, d0, d1]) rfl ?_
    have ag : ∀ u u' : Value, Agree (fun b => w.heap.size + 2 ≤ b ∧ b < w7.heap.size) w7 ((w7.setCell ⟨w.heap.size + 1, 0, none⟩ u).setCell ⟨w.heap.size + 1, 1, none⟩ u') := fun u u' => (Agree.setCell _ (fun h => by have h2 : w.heap.size + 2 ≤ w.heap.size + 1 := h.1; omega) u).trans (Agree.setCell _ (fun h => by have h2 : w.heap.size + 2 ≤ w.heap.size + 1 := h.1; omega) u')
    exact ⟨_, _, rfl, ItS.keep hr2 (ag _ _) (fun b hb => ⟨by omega, by simpa using hb.2⟩), ItS.keep hw2 (ag _ _) (fun b hb => ⟨by omega, by simpa using hb.2⟩), (hb8.setCell (by simp) _).setCell (by simp) _⟩
end Go.Proofs.Yteddcpblpkhoeaa
