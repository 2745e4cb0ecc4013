/-
  Walks: the reference of layer 7: rows and histories compared.
-/
import Derived.Test.YtapkbinlhmddiaaEvW
import Derived.Test.YtapkbinlhmddiaaSrc0
set_option linter.unusedVariables false
set_option linter.unusedSimpArgs false
namespace Go.Proofs.Ytapkbinlhmddiaa
open Go.RowKit Go.Inq
set_option maxHeartbeats 1000000
attribute [local go_sem ↓] Go.wp_at_zero Go.wp_at_succ

theorem ints_any (A A' : Option Addr) (c c' : Nat) (l l' : List Int) (w : World) (h : IntS w (Old w) (.slice A l.length c) l) (h' : IntS w (Old w) (.slice A' l'.length c') l') (hn : l.length ≤ 1000000) (hn' : l'.length ≤ 1000000) :
    Calls Try.prog 22 #[.slice A l.length c, .slice A' l'.length c'] w fun e w' => e = .returned (.bool (decide (l = l'))) ∧ Below w.heap.size w w' := by
  rcases Nat.decEq l.length l'.length with hlen | hlen
  rotate_left
  · rw [← hlen] at h' ⊢
    have hlen2 := hide hlen
    clear hn' hlen
    go_enter Try.func22, Try.ntmps22
    go_wp2
    go_loopw [5] (fun s5 wr => ∃ i : Nat, i ≤ l.length ∧ s5 = .int .i64 i ∧ Hid (∀ j (hj : j < l.length) (hj' : j < l'.length), j < i → l[j] = l'[j]) ∧ Below w.heap.size w wr) (fun s5 _ => l.length - (intOf s5).toNat)
    case atStart => exact ⟨0, Nat.zero_le _, by go_num, fun j _ _ h => absurd h (by omega), Below.refl _ _⟩
    case round =>
      obtain ⟨i, hi, rfl, hall, hb⟩ := hrel
      by_cases hlt : i < l.length
      · have hlt' : i < l'.length := by have := hlen2.out; omega
        have hw := IntS.below h hb
        have hw' := IntS.below h' hb
        obtain ⟨b, off, rfl, hbK, c0⟩ := IntS.at_ hw hlt
        obtain ⟨b', off', rfl, hbK', d0⟩ := IntS.at_ hw' hlt'
        have hi1 : (0 : Int) ≤ (i : Int) := Int.natCast_nonneg _
        have hi2 : (i : Int) < (l.length : Int) := by omega
        by_cases he : l[i] = l'[i]
        · have hstep : Hid (∀ j (hj : j < l.length) (hj' : j < l'.length), j < i + 1 → l[j] = l'[j]) := fun j hj hj' hji => by
            by_cases hje : j = i
            · subst hje; exact he
            · exact hall.out j hj hj' (by omega)
          rw [← he] at d0
          clear he
          generalize l[i] = x at *
          go_wp2
          go_quiet (fail)
          go_wp2
          go_roundw
          case rel => exact ⟨i + 1, by omega, by go_num, hstep, ⟨hb.os, hb.tape, hb.output, hb.size, hb.block⟩⟩
          case measure => simp [intOf]; omega
        · have hf : l ≠ l' := fun e => he (by subst e; rfl)
          replace hf := hide hf
          have hne : (l[i] != l'[i]) = true := by simpa using he
          clear he
          generalize l[i] = x at *
          generalize l'[i] = x' at *
          go_wp2
          go_quiet (fail)
          go_wp2
          go_ret
          exact ⟨by simp [hf.out], ⟨hb.os, hb.tape, hb.output, hb.size, hb.block⟩⟩
      · have he : l = l' := List.ext_getElem hlen2.out (fun j h1 h2 => hall.out j h1 h2 (by omega))
        have : i = l.length := by omega
        subst this
        go_wp2
        go_ret
        exact ⟨by simp [he], hb⟩
  · have hf : l ≠ l' := fun e => hlen (by rw [e])
    go_enter Try.func22, Try.ntmps22
    go_wp2
    go_ret
    exact ⟨by simp [hf], Below.refl _ _⟩

theorem takes_any (A A' : Option Addr) (c c' : Nat) (l l' : List It) (w : World) (h : ItS w (Old w) (.slice A l.length c) l) (h' : ItS w (Old w) (.slice A' l'.length c') l') (hn : l.length ≤ 1000000) (hn' : l'.length ≤ 1000000) :
    Calls Try.prog 23 #[.slice A l.length c, .slice A' l'.length c'] w fun e w' => e = .returned (.bool (decide (l = l'))) ∧ Below w.heap.size w w' := by
  rcases Nat.decEq l.length l'.length with hlen | hlen
  rotate_left
  · rw [← hlen] at h' ⊢
    have hlen2 := hide hlen
    clear hn' hlen
    go_enter Try.func23, Try.ntmps23
    go_wp2
    go_loopw [5] (fun s5 wr => ∃ i : Nat, i ≤ l.length ∧ s5 = .int .i64 i ∧ Hid (∀ j (hj : j < l.length) (hj' : j < l'.length), j < i → l[j] = l'[j]) ∧ Below w.heap.size w wr) (fun s5 _ => l.length - (intOf s5).toNat)
    case atStart => exact ⟨0, Nat.zero_le _, by go_num, fun j _ _ h => absurd h (by omega), Below.refl _ _⟩
    case round =>
      obtain ⟨i, hi, rfl, hall, hb⟩ := hrel
      by_cases hlt : i < l.length
      · have hlt' : i < l'.length := by have := hlen2.out; omega
        have hw := ItS.below h hb
        have hw' := ItS.below h' hb
        obtain ⟨b, off, rfl, hbK, c0, c1⟩ := ItS.at_ hw hlt
        obtain ⟨b', off', rfl, hbK', d0, d1⟩ := ItS.at_ hw' hlt'
        have hi1 : (0 : Int) ≤ (i : Int) := Int.natCast_nonneg _
        have hi2 : (i : Int) < (l.length : Int) := by omega
        by_cases he : l[i] = l'[i]
        · have hstep : Hid (∀ j (hj : j < l.length) (hj' : j < l'.length), j < i + 1 → l[j] = l'[j]) := fun j hj hj' hji => by
            by_cases hje : j = i
            · subst hje; exact he
            · exact hall.out j hj hj' (by omega)
          rw [← he] at d0 d1
          clear he
          generalize l[i] = x at *
          go_wp2
          go_quiet (fail)
          go_wp2
          go_roundw
          case rel => exact ⟨i + 1, by omega, by go_num, hstep, ⟨hb.os, hb.tape, hb.output, hb.size, hb.block⟩⟩
          case measure => simp [intOf]; omega
        · have hf : l ≠ l' := fun e => he (by subst e; rfl)
          replace hf := hide hf
          generalize l[i] = x at *
          generalize l'[i] = x' at *
          have hways : (x.a == x'.a) = false ∨ ((x.a == x'.a) = true ∧ (x.b == x'.b) = false) := by
            obtain ⟨a0, a1⟩ := x
            obtain ⟨b0, b1⟩ := x'
            simp only [It.mk.injEq] at he
            simp only [beq_iff_eq, beq_eq_false_iff_ne]
            omega
          clear he
          rcases hways with q1 | ⟨q1, q2⟩
          all_goals (
            go_wp2
            go_quiet (fail)
            go_wp2
            go_ret
            exact ⟨by simp [hf.out], ⟨hb.os, hb.tape, hb.output, hb.size, hb.block⟩⟩)
      · have he : l = l' := List.ext_getElem hlen2.out (fun j h1 h2 => hall.out j h1 h2 (by omega))
        have : i = l.length := by omega
        subst this
        go_wp2
        go_ret
        exact ⟨by simp [he], hb⟩
  · have hf : l ≠ l' := fun e => hlen (by rw [e])
    go_enter Try.func23, Try.ntmps23
    go_wp2
    go_ret
    exact ⟨by simp [hf], Below.refl _ _⟩

/-- A history's row, of few, and short. -/
def SmallH (l : List Txn) : Prop := l.length ≤ 1000000 ∧ ∀ t ∈ l, t.writes.length ≤ 1000000 ∧ t.reads.length ≤ 1000000
set_option maxHeartbeats 2000000 in
theorem same07_any (A A' : Option Addr) (c c' : Nat) (l l' : List Txn) (w : World) (h : TxnS w (Old w) (.slice A l.length c) l) (h' : TxnS w (Old w) (.slice A' l'.length c') l') (hn : SmallH l) (hn' : SmallH l') :
    Calls Try.prog 12 #[.agg #[.slice A l.length c], .agg #[.slice A' l'.length c']] w fun e w' => e = .returned (.bool (decide (l = l'))) ∧ Below w.heap.size w w' := by
  have hA : Below w.heap.size w ((w.alloc (.cells #[.slice A l.length c] 27)).alloc (.cells #[.slice A' l'.length c'] 27)) := ((Below.refl _ _).alloc (Nat.le_refl _) _).alloc (by simp) _
  have k0 : Blk ((w.alloc (.cells #[.slice A l.length c] 27)).alloc (.cells #[.slice A' l'.length c'] 27)) w.heap.size 27 #[.slice A l.length c] := (Blk.new _ _ _).alloc _
  have k1 : Blk ((w.alloc (.cells #[.slice A l.length c] 27)).alloc (.cells #[.slice A' l'.length c'] 27)) (w.heap.size + 1) 27 #[.slice A' l'.length c'] := by
    have := Blk.new (w.alloc (.cells #[.slice A l.length c] 27)) 27 #[.slice A' l'.length c']
    simpa using this
  rcases Nat.decEq l.length l'.length with hlen | hlen
  rotate_left
  · rw [← hlen] at h' k1 hA k0 ⊢
    have hlen2 := hide hlen
    have hn1 := hn.1
    replace hn := hide hn.2
    replace hn' := hide hn'.2
    clear hlen
    go_enter Try.func12, Try.ntmps12
    go_wp2_with fail
    generalize hW : (w.alloc (.cells #[.slice A l.length c] 27)).alloc (.cells #[.slice A' l.length c'] 27) = W at *
    clear hW
    go_loopw [5, 6, 7, 8, 9] (fun s5 _ _ _ _ wr => ∃ i : Nat, i ≤ l.length ∧ s5 = .int .i64 i ∧ Blk wr w.heap.size 27 #[.slice A l.length c] ∧ Blk wr (w.heap.size + 1) 27 #[.slice A' l.length c'] ∧ Hid (∀ j (hj : j < l.length) (hj' : j < l'.length), j < i → l[j] = l'[j]) ∧ Below w.heap.size w wr) (fun s5 _ _ _ _ _ => l.length - (intOf s5).toNat)
    case atStart => exact ⟨0, Nat.zero_le _, by go_num, k0, k1, fun j _ _ h => absurd h (by omega), hA⟩
    case round =>
      obtain ⟨i, hi, rfl, m0, m1, hall, hb⟩ := hrel
      clear k0 k1 hA
      have e0 := m0.cell 0
      have e1 := m1.cell 0
      simp only [List.getElem?_toArray, List.getElem?_cons_zero] at e0 e1
      by_cases hlt : i < l.length
      · have hlt' : i < l'.length := by have := hlen2.out; omega
        have hw := TxnS.below h hb
        have hw' := TxnS.below h' hb
        obtain ⟨b, off, Aw, cw, Ar, cr, rfl, hbK, c0, c1, c2, hw1, hr1⟩ := TxnS.at_ hw hlt
        obtain ⟨b', off', Aw', cw', Ar', cr', rfl, hbK', d0, d1, d2, hw2, hr2⟩ := TxnS.at_ hw' hlt'
        have hi1 : (0 : Int) ≤ (i : Int) := Int.natCast_nonneg _
        have hi2 : (i : Int) < (l.length : Int) := by omega
        have hsx := hide (hn.out _ (List.getElem_mem hlt))
        have hsy := hide (hn'.out _ (List.getElem_mem hlt'))
        have hstep : l[i] = l'[i] → ∀ j (hj : j < l.length) (hj' : j < l'.length), j < i + 1 → l[j] = l'[j] := fun he j hj hj' hji => by
          by_cases hje : j = i
          · subst hje; exact he
          · exact hall.out j hj hj' (by omega)
        have hff : l[i] ≠ l'[i] → l ≠ l' := fun he e => he (by subst e; rfl)
        replace hstep := hide hstep
        replace hff := hide hff
        generalize l[i] = x at *
        generalize l'[i] = y at *
        obtain ⟨xs, xw, xr⟩ := x
        obtain ⟨ys, yw, yr⟩ := y
        dsimp only at *
        have hA2 : Below wr.heap.size wr ((wr.alloc (.cells #[.int .i64 xs, .slice Aw xw.length cw, .slice Ar xr.length cr] 41)).alloc (.cells #[.int .i64 ys, .slice Aw' yw.length cw', .slice Ar' yr.length cr'] 41)) := ((Below.refl _ _).alloc (Nat.le_refl _) _).alloc (by simp) _
        have j0 : Blk ((wr.alloc (.cells #[.int .i64 xs, .slice Aw xw.length cw, .slice Ar xr.length cr] 41)).alloc (.cells #[.int .i64 ys, .slice Aw' yw.length cw', .slice Ar' yr.length cr'] 41)) wr.heap.size 41 #[.int .i64 xs, .slice Aw xw.length cw, .slice Ar xr.length cr] := (Blk.new _ _ _).alloc _
        have j1 : Blk ((wr.alloc (.cells #[.int .i64 xs, .slice Aw xw.length cw, .slice Ar xr.length cr] 41)).alloc (.cells #[.int .i64 ys, .slice Aw' yw.length cw', .slice Ar' yr.length cr'] 41)) (wr.heap.size + 1) 41 #[.int .i64 ys, .slice Aw' yw.length cw', .slice Ar' yr.length cr'] := by
          have := Blk.new (wr.alloc (.cells #[.int .i64 xs, .slice Aw xw.length cw, .slice Ar xr.length cr] 41)) 41 #[.int .i64 ys, .slice Aw' yw.length cw', .slice Ar' yr.length cr']
          simpa using this
        have n0 := (m0.below hA2 m0.lt)
        have n1 := (m1.below hA2 m1.lt)
        replace hw1 := IntS.below hw1 hA2
        replace hw2 := IntS.below hw2 hA2
        replace hr1 := ItS.below hr1 hA2
        replace hr2 := ItS.below hr2 hA2
        have hb2 := hb.trans (hA2.mono hb.size)
        have e1' := (m1.alloc (.cells #[.int .i64 xs, .slice Aw xw.length cw, .slice Ar xr.length cr] 41)).cell 0
        simp only [List.getElem?_toArray, List.getElem?_cons_zero] at e1'
        have hq : Below wr.heap.size wr (wr.alloc (.cells #[.int .i64 xs, .slice Aw xw.length cw, .slice Ar xr.length cr] 41)) := (Below.refl _ _).alloc (Nat.le_refl _) _
        have d0' := (hq.cell (p := ⟨b', off' + i * 3, none⟩) hbK').trans d0
        have d1' := (hq.cell (p := ⟨b', off' + i * 3 + 1, none⟩) hbK').trans d1
        have d2' := (hq.cell (p := ⟨b', off' + i * 3 + 2, none⟩) hbK').trans d2
        clear hq d0 d1 d2 hw hw' h h'
        go_wp2_with fail
        generalize hW1 : (wr.alloc (.cells #[.int .i64 xs, .slice Aw xw.length cw, .slice Ar xr.length cr] 41)).alloc (.cells #[.int .i64 ys, .slice Aw' yw.length cw', .slice Ar' yr.length cr'] 41) = W1 at *
        clear hW1 hA2 m0 m1 e0 e1 e1' c0 c1 c2 d0' d1' d2'
        have a0 := j0.cell 0
        have a1 := j0.cell 1
        have a2 := j0.cell 2
        have b0 := j1.cell 0
        have b1 := j1.cell 1
        have b2 := j1.cell 2
        simp only [List.getElem?_toArray, List.getElem?_cons_zero, List.getElem?_cons_succ] at a0 a1 a2 b0 b1 b2
        refine (ints_any Aw Aw' cw cw' xw yw W1 hw1 hw2 hsx.out.1 hsy.out.1).mono ?_
        rintro e w5 ⟨rfl, hb5⟩
        have p0 := n0.below hb5 n0.lt
        have p1 := n1.below hb5 n1.lt
        have q0 := j0.below hb5 j0.lt
        have q1 := j1.below hb5 j1.lt
        replace hr1 := ItS.below hr1 hb5
        replace hr2 := ItS.below hr2 hb5
        have hb6 := hb2.trans (hb5.mono hb2.size)
        clear hb5 n0 n1 j0 j1 a0 a1 a2 b0 b1 b2 hw1 hw2 hb2 hb
        have a0 := q0.cell 0
        have a2 := q0.cell 2
        have b0 := q1.cell 0
        have b2 := q1.cell 2
        simp only [List.getElem?_toArray, List.getElem?_cons_zero, List.getElem?_cons_succ] at a0 a2 b0 b2
        go_wp2_with fail
        refine (takes_any Ar Ar' cr cr' xr yr w5 hr1 hr2 hsx.out.2 hsy.out.2).mono ?_
        rintro e w6 ⟨rfl, hb7⟩
        have p2 := p0.below hb7 p0.lt
        have p3 := p1.below hb7 p1.lt
        have q2 := q0.below hb7 q0.lt
        have q3 := q1.below hb7 q1.lt
        have hb8 := hb6.trans (hb7.mono hb6.size)
        clear hb7 p0 p1 q0 q1 a0 a2 b0 b2 hr1 hr2 hb6
        have a0 := q2.cell 0
        have b0 := q3.cell 0
        simp only [List.getElem?_toArray, List.getElem?_cons_zero, List.getElem?_cons_succ] at a0 b0
        clear q2 q3
        by_cases g1 : xs = ys
        · subst g1
          by_cases g2 : xw = yw
          · subst g2
            by_cases g3 : xr = yr
            · subst g3
              have hst := hide (hstep.out rfl)
              simp only [decide_true]
              go_wp2
              go_roundw
              case rel => exact ⟨i + 1, by omega, by go_num, p2, p3, hst, hb8⟩
              case measure => simp [intOf]; omega
            · have hne := hide (hff.out (by simp [g3]))
              rw [decide_eq_false g3]
              simp only [decide_true]
              go_wp2
              go_ret
              exact ⟨by simp [hne.out], hb8⟩
          · have hne := hide (hff.out (by simp [g2]))
            rw [decide_eq_false g2]
            go_wp2
            go_ret
            exact ⟨by simp [hne.out], hb8⟩
        · have hne := hide (hff.out (by simp [g1]))
          have hg : (xs != ys) = true := by simpa using g1
          go_wp2
          go_ret
          exact ⟨by simp [hne.out], hb8⟩
      · have he : l = l' := List.ext_getElem hlen2.out (fun j h1 h2 => hall.out j h1 h2 (by omega))
        have : i = l.length := by omega
        subst this
        go_wp2
        go_ret
        exact ⟨by simp [he], hb⟩
  · have hf : l ≠ l' := fun e => hlen (by rw [e])
    go_enter Try.func12, Try.ntmps12
    go_wp2
    go_ret
    exact ⟨by simp [hf], hA⟩
end Go.Proofs.Ytapkbinlhmddiaa
