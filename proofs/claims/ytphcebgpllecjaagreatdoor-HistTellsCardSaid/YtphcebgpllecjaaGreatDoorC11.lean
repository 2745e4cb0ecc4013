/-
  Walks: the reference of layer 7: rows and histories compared.
-/
import Derived.Laws.OwnMore
import Derived.Laws.MakeOwn
import Derived.MapKept
import Derived.ChangeMaps4
import Derived.Carry
import Derived.Test.YtphcebgpllecjaaGreatDoorC02
import Derived.Test.YtphcebgpllecjaaGreatDoorC09
import Derived.Test.YtphcebgpllecjaaGreatDoorC10
import Derived.Test.YtphcebgpllecjaaGreatDoorC01
set_option linter.unusedVariables false
set_option linter.unusedSimpArgs false
namespace Go.Proofs.YtphcebgpllecjaaGreatDoor
open Go.RowKit Go.Inq
set_option maxHeartbeats 1000000
attribute [local go_sem ↓] Go.wp_at_zero Go.wp_at_succ

theorem ints_any (A A' : Option Addr) (c c' : Nat) (l l' : List Int) (w : World) (h : IntS w (Old w) (.slice A l.length c) l) (h' : IntS w (Old w) (.slice A' l'.length c') l') (hn : l.length ≤ 1000000) (hn' : l'.length ≤ 1000000) :
    Calls Tryz.prog 23 #[.slice A l.length c, .slice A' l'.length c'] w fun e w' => e = .returned (.bool (decide (l = l'))) ∧ Below w.heap.size w w' := by
  rcases Nat.decEq l.length l'.length with hlen | hlen
  rotate_left
  · rw [← hlen] at h' ⊢
    have hlen2 := hide hlen
    clear hn' hlen
    go_enter Tryz.func23, Tryz.ntmps23
    go_wp2
    go_loopw [5] (fun s5 wr => ∃ i : Nat, i ≤ l.length ∧ s5 = .int .i64 i ∧ Hid (∀ j (hj : j < l.length) (hj' : j < l'.length), j < i → l[j] = l'[j]) ∧ Below w.heap.size w wr) (fun s5 _ => l.length - (intOf s5).toNat)
    case atStart => exact ⟨0, Nat.zero_le _, by go_num, fun j _ _ h => absurd h (by omega), Below.refl _ _⟩
    case round =>
      obtain ⟨i, hi, rfl, hall, hb⟩ := hrel
      by_cases hlt : i < l.length
      · have hlt' : i < l'.length := by have := hlen2.out; omega
        have hw := IntS.below h hb
        have hw' := IntS.below h' hb
        obtain ⟨b, off, rfl, hbK, c0⟩ := IntS.at_ hw hlt
        obtain ⟨b', off', rfl, hbK', d0⟩ := IntS.at_ hw' hlt'
        have hi1 : (0 : Int) ≤ (i : Int) := Int.natCast_nonneg _
        have hi2 : (i : Int) < (l.length : Int) := by omega
        by_cases he : l[i] = l'[i]
        · have hstep : Hid (∀ j (hj : j < l.length) (hj' : j < l'.length), j < i + 1 → l[j] = l'[j]) := fun j hj hj' hji => by
            by_cases hje : j = i
            · subst hje; exact he
            · exact hall.out j hj hj' (by omega)
          rw [← he] at d0
          clear he
          generalize l[i] = x at *
          go_wp2
          go_quiet (fail)
          go_wp2
          go_roundw
          case rel => exact ⟨i + 1, by omega, by go_num, hstep, ⟨hb.os, hb.tape, hb.output, hb.size, hb.block⟩⟩
          case measure => simp [intOf]; omega
        · have hf : l ≠ l' := fun e => he (by subst e; rfl)
          replace hf := hide hf
          have hne : (l[i] != l'[i]) = true := by simpa using he
          clear he
          generalize l[i] = x at *
          generalize l'[i] = x' at *
          go_wp2
          go_quiet (fail)
          go_wp2
          go_ret
          exact ⟨by simp [hf.out], ⟨hb.os, hb.tape, hb.output, hb.size, hb.block⟩⟩
      · have he : l = l' := List.ext_getElem hlen2.out (fun j h1 h2 => hall.out j h1 h2 (by omega))
        have : i = l.length := by omega
        subst this
        go_wp2
        go_ret
        exact ⟨by simp [he], hb⟩
  · have hf : l ≠ l' := fun e => hlen (by rw [e])
    go_enter Tryz.func23, Tryz.ntmps23
    go_wp2
    go_ret
    exact ⟨by simp [hf], Below.refl _ _⟩

theorem takes_any (A A' : Option Addr) (c c' : Nat) (l l' : List It) (w : World) (h : ItS w (Old w) (.slice A l.length c) l) (h' : ItS w (Old w) (.slice A' l'.length c') l') (hn : l.length ≤ 1000000) (hn' : l'.length ≤ 1000000) :
    Calls Tryz.prog 24 #[.slice A l.length c, .slice A' l'.length c'] w fun e w' => e = .returned (.bool (decide (l = l'))) ∧ Below w.heap.size w w' := by
  rcases Nat.decEq l.length l'.length with hlen | hlen
  rotate_left
  · rw [← hlen] at h' ⊢
    have hlen2 := hide hlen
    clear hn' hlen
    go_enter Tryz.func24, Tryz.ntmps24
    go_wp2
    go_loopw [5] (fun s5 wr => ∃ i : Nat, i ≤ l.length ∧ s5 = .int .i64 i ∧ Hid (∀ j (hj : j < l.length) (hj' : j < l'.length), j < i → l[j] = l'[j]) ∧ Below w.heap.size w wr) (fun s5 _ => l.length - (intOf s5).toNat)
    case atStart => exact ⟨0, Nat.zero_le _, by go_num, fun j _ _ h => absurd h (by omega), Below.refl _ _⟩
    case round =>
      obtain ⟨i, hi, rfl, hall, hb⟩ := hrel
      by_cases hlt : i < l.length
      · have hlt' : i < l'.length := by have := hlen2.out; omega
        have hw := ItS.below h hb
        have hw' := ItS.below h' hb
        obtain ⟨b, off, rfl, hbK, c0, c1⟩ := ItS.at_ hw hlt
        obtain ⟨b', off', rfl, hbK', d0, d1⟩ := ItS.at_ hw' hlt'
        have hi1 : (0 : Int) ≤ (i : Int) := Int.natCast_nonneg _
        have hi2 : (i : Int) < (l.length : Int) := by omega
        by_cases he : l[i] = l'[i]
        · have hstep : Hid (∀ j (hj : j < l.length) (hj' : j < l'.length), j < i + 1 → l[j] = l'[j]) := fun j hj hj' hji => by
            by_cases hje : j = i
            · subst hje; exact he
            · exact hall.out j hj hj' (by omega)
          rw [← he] at d0 d1
          clear he
          generalize l[i] = x at *
          go_wp2
          go_quiet (fail)
          go_wp2
          go_roundw
          case rel => exact ⟨i + 1, by omega, by go_num, hstep, ⟨hb.os, hb.tape, hb.output, hb.size, hb.block⟩⟩
          case measure => simp [intOf]; omega
        · have hf : l ≠ l' := fun e => he (by subst e; rfl)
          replace hf := hide hf
          generalize l[i] = x at *
          generalize l'[i] = x' at *
          have hways : (x.a == x'.a) = false ∨ ((x.a == x'.a) = true ∧ (x.b == x'.b) = false) := by
            obtain ⟨a0, a1⟩ := x
            obtain ⟨b0, b1⟩ := x'
            simp only [It.mk.injEq] at he
            simp only [beq_iff_eq, beq_eq_false_iff_ne]
            omega
          clear he
          rcases hways with q1 | ⟨q1, q2⟩
          all_goals (
            go_wp2
            go_quiet (fail)
            go_wp2
            go_ret
            exact ⟨by simp [hf.out], ⟨hb.os, hb.tape, hb.output, hb.size, hb.block⟩⟩)
      · have he : l = l' := List.ext_getElem hlen2.out (fun j h1 h2 => hall.out j h1 h2 (by omega))
        have : i = l.length := by omega
        subst this
        go_wp2
        go_ret
        exact ⟨by simp [he], hb⟩
  · have hf : l ≠ l' := fun e => hlen (by rw [e])
    go_enter Tryz.func24, Tryz.ntmps24
    go_wp2
    go_ret
    exact ⟨by simp [hf], Below.refl _ _⟩

/-- A history's row, of few, and short. -/
def SmallH (l : List Txn) : Prop := l.length ≤ 1000000 ∧ ∀ t ∈ l, t.writes.length ≤ 1000000 ∧ t.reads.length ≤ 1000000
set_option maxHeartbeats 2000000 in
theorem same07_any (A A' : Option Addr) (c c' : Nat) (l l' : List Txn) (w : World) (h : TxnS w (Old w) (.slice A l.length c) l) (h' : TxnS w (Old w) (.slice A' l'.length c') l') (hn : SmallH l) (hn' : SmallH l') :
    Calls Tryz.prog 10 #[.agg #[.slice A l.length c], .agg #[.slice A' l'.length c']] w fun e w' => e = .returned (.bool (decide (l = l'))) ∧ Below w.heap.size w w' := by
  have hA : Below w.heap.size w ((w.alloc (.cells #[.slice A l.length c] 24)).alloc (.cells #[.slice A' l'.length c'] 24)) := ((Below.refl _ _).alloc (Nat.le_refl _) _).alloc (by simp) _
  have k0 : Blk ((w.alloc (.cells #[.slice A l.length c] 24)).alloc (.cells #[.slice A' l'.length c'] 24)) w.heap.size 24 #[.slice A l.length c] := (Blk.new _ _ _).alloc _
  have k1 : Blk ((w.alloc (.cells #[.slice A l.length c] 24)).alloc (.cells #[.slice A' l'.length c'] 24)) (w.heap.size + 1) 24 #[.slice A' l'.length c'] := by
    have := Blk.new (w.alloc (.cells #[.slice A l.length c] 24)) 24 #[.slice A' l'.length c']
    simpa using this
  rcases Nat.decEq l.length l'.length with hlen | hlen
  rotate_left
  · rw [← hlen] at h' k1 hA k0 ⊢
    have hlen2 := hide hlen
    have hn1 := hn.1
    replace hn := hide hn.2
    replace hn' := hide hn'.2
    clear hlen
    go_enter Tryz.func10, Tryz.ntmps10
    go_wp2_with fail
    generalize hW : (w.alloc (.cells #[.slice A l.length c] 24)).alloc (.cells #[.slice A' l.length c'] 24) = W at *
    clear hW
    go_loopw [5, 6, 7, 8, 9] (fun s5 _ _ _ _ wr => ∃ i : Nat, i ≤ l.length ∧ s5 = .int .i64 i ∧ Blk wr w.heap.size 24 #[.slice A l.length c] ∧ Blk wr (w.heap.size + 1) 24 #[.slice A' l.length c'] ∧ Hid (∀ j (hj : j < l.length) (hj' : j < l'.length), j < i → l[j] = l'[j]) ∧ Below w.heap.size w wr) (fun s5 _ _ _ _ _ => l.length - (intOf s5).toNat)
    case atStart => exact ⟨0, Nat.zero_le _, by go_num, k0, k1, fun j _ _ h => absurd h (by omega), hA⟩
    case round =>
      obtain ⟨i, hi, rfl, m0, m1, hall, hb⟩ := hrel
      clear k0 k1 hA
      have e0 := m0.cell 0
      have e1 := m1.cell 0
      simp only [List.getElem?_toArray, List.getElem?_cons_zero] at e0 e1
      by_cases hlt : i < l.length
      · have hlt' : i < l'.length := by have := hlen2.out; omega
        have hw := TxnS.below h hb
        have hw' := TxnS.below h' hb
        obtain ⟨b, off, Aw, cw, Ar, cr, rfl, hbK, c0, c1, c2, hw1, hr1⟩ := TxnS.at_ hw hlt
        obtain ⟨b', off', Aw', cw', Ar', cr', rfl, hbK', d0, d1, d2, hw2, hr2⟩ := TxnS.at_ hw' hlt'
        have hi1 : (0 : Int) ≤ (i : Int) := Int.natCast_nonneg _
        have hi2 : (i : Int) < (l.length : Int) := by omega
        have hsx := hide (hn.out _ (List.getElem_mem hlt))
        have hsy := hide (hn'.out _ (List.getElem_mem hlt'))
        have hstep : l[i] = l'[i] → ∀ j (hj : j < l.length) (hj' : j < l'.length), j < i + 1 → l[j] = l'[j] := fun he j hj hj' hji => by
          by_cases hje : j = i
          · subst hje; exact he
          · exact hall.out j hj hj' (by omega)
        have hff : l[i] ≠ l'[i] → l ≠ l' := fun he e => he (by subst e; rfl)
        replace hstep := hide hstep
        replace hff := hide hff
        generalize l[i] = x at *
        generalize l'[i] = y at *
        obtain ⟨xs, xw, xr⟩ := x
        obtain ⟨ys, yw, yr⟩ := y
        dsimp only at *
        have hA2 : Below wr.heap.size wr ((wr.alloc (.cells #[.int .i64 xs, .slice Aw xw.length cw, .slice Ar xr.length cr] 38)).alloc (.cells #[.int .i64 ys, .slice Aw' yw.length cw', .slice Ar' yr.length cr'] 38)) := ((Below.refl _ _).alloc (Nat.le_refl _) _).alloc (by simp) _
        have j0 : Blk ((wr.alloc (.cells #[.int .i64 xs, .slice Aw xw.length cw, .slice Ar xr.length cr] 38)).alloc (.cells #[.int .i64 ys, .slice Aw' yw.length cw', .slice Ar' yr.length cr'] 38)) wr.heap.size 38 #[.int .i64 xs, .slice Aw xw.length cw, .slice Ar xr.length cr] := (Blk.new _ _ _).alloc _
        have j1 : Blk ((wr.alloc (.cells #[.int .i64 xs, .slice Aw xw.length cw, .slice Ar xr.length cr] 38)).alloc (.cells #[.int .i64 ys, .slice Aw' yw.length cw', .slice Ar' yr.length cr'] 38)) (wr.heap.size + 1) 38 #[.int .i64 ys, .slice Aw' yw.length cw', .slice Ar' yr.length cr'] := by
          have := Blk.new (wr.alloc (.cells #[.int .i64 xs, .slice Aw xw.length cw, .slice Ar xr.length cr] 38)) 38 #[.int .i64 ys, .slice Aw' yw.length cw', .slice Ar' yr.length cr']
          simpa using this
        have n0 := (m0.below hA2 m0.lt)
        have n1 := (m1.below hA2 m1.lt)
        replace hw1 := IntS.below hw1 hA2
        replace hw2 := IntS.below hw2 hA2
        replace hr1 := ItS.below hr1 hA2
        replace hr2 := ItS.below hr2 hA2
        have hb2 := hb.trans (hA2.mono hb.size)
        have e1' := (m1.alloc (.cells #[.int .i64 xs, .slice Aw xw.length cw, .slice Ar xr.length cr] 38)).cell 0
        simp only [List.getElem?_toArray, List.getElem?_cons_zero] at e1'
        have hq : Below wr.heap.size wr (wr.alloc (.cells #[.int .i64 xs, .slice Aw xw.length cw, .slice Ar xr.length cr] 38)) := (Below.refl _ _).alloc (Nat.le_refl _) _
        have d0' := (hq.cell (p := ⟨b', off' + i * 3, none⟩) hbK').trans d0
        have d1' := (hq.cell (p := ⟨b', off' + i * 3 + 1, none⟩) hbK').trans d1
        have d2' := (hq.cell (p := ⟨b', off' + i * 3 + 2, none⟩) hbK').trans d2
        clear hq d0 d1 d2 hw hw' h h'
        go_wp2_with fail
        generalize hW1 : (wr.alloc (.cells #[.int .i64 xs, .slice Aw xw.length cw, .slice Ar xr.length cr] 38)).alloc (.cells #[.int .i64 ys, .slice Aw' yw.length cw', .slice Ar' yr.length cr'] 38) = W1 at *
        clear hW1 hA2 m0 m1 e0 e1 e1' c0 c1 c2 d0' d1' d2'
        have a0 := j0.cell 0
        have a1 := j0.cell 1
        have a2 := j0.cell 2
        have b0 := j1.cell 0
        have b1 := j1.cell 1
        have b2 := j1.cell 2
        simp only [List.getElem?_toArray, List.getElem?_cons_zero, List.getElem?_cons_succ] at a0 a1 a2 b0 b1 b2
        refine (ints_any Aw Aw' cw cw' xw yw W1 hw1 hw2 hsx.out.1 hsy.out.1).mono ?_
        rintro e w5 ⟨rfl, hb5⟩
        have p0 := n0.below hb5 n0.lt
        have p1 := n1.below hb5 n1.lt
        have q0 := j0.below hb5 j0.lt
        have q1 := j1.below hb5 j1.lt
        replace hr1 := ItS.below hr1 hb5
        replace hr2 := ItS.below hr2 hb5
        have hb6 := hb2.trans (hb5.mono hb2.size)
        clear hb5 n0 n1 j0 j1 a0 a1 a2 b0 b1 b2 hw1 hw2 hb2 hb
        have a0 := q0.cell 0
        have a2 := q0.cell 2
        have b0 := q1.cell 0
        have b2 := q1.cell 2
        simp only [List.getElem?_toArray, List.getElem?_cons_zero, List.getElem?_cons_succ] at a0 a2 b0 b2
        go_wp2_with fail
        refine (takes_any Ar Ar' cr cr' xr yr w5 hr1 hr2 hsx.out.2 hsy.out.2).mono ?_
        rintro e w6 ⟨rfl, hb7⟩
        have p2 := p0.below hb7 p0.lt
        have p3 := p1.below hb7 p1.lt
        have q2 := q0.below hb7 q0.lt
        have q3 := q1.below hb7 q1.lt
        have hb8 := hb6.trans (hb7.mono hb6.size)
        clear hb7 p0 p1 q0 q1 a0 a2 b0 b2 hr1 hr2 hb6
        have a0 := q2.cell 0
        have b0 := q3.cell 0
        simp only [List.getElem?_toArray, List.getElem?_cons_zero, List.getElem?_cons_succ] at a0 b0
        clear q2 q3
        by_cases g1 : xs = ys
        · subst g1
          by_cases g2 : xw = yw
          · subst g2
            by_cases g3 : xr = yr
            · subst g3
              have hst := hide (hstep.out rfl)
              simp only [decide_true]
              go_wp2
              go_roundw
              case rel => exact ⟨i + 1, by omega, by go_num, p2, p3, hst, hb8⟩
              case measure => simp [intOf]; omega
            · have hne := hide (hff.out (by simp [g3]))
              rw [decide_eq_false g3]
              simp only [decide_true]
              go_wp2
              go_ret
              exact ⟨by simp [hne.out], hb8⟩
          · have hne := hide (hff.out (by simp [g2]))
            rw [decide_eq_false g2]
            go_wp2
            go_ret
            exact ⟨by simp [hne.out], hb8⟩
        · have hne := hide (hff.out (by simp [g1]))
          have hg : (xs != ys) = true := by simpa using g1
          go_wp2
          go_ret
          exact ⟨by simp [hne.out], hb8⟩
      · have he : l = l' := List.ext_getElem hlen2.out (fun j h1 h2 => hall.out j h1 h2 (by omega))
        have : i = l.length := by omega
        subst this
        go_wp2
        go_ret
        exact ⟨by simp [he], hb⟩
  · have hf : l ≠ l' := fun e => hlen (by rw [e])
    go_enter Tryz.func10, Tryz.ntmps10
    go_wp2
    go_ret
    exact ⟨by simp [hf], hA⟩
end Go.Proofs.YtphcebgpllecjaaGreatDoor

namespace Go.Proofs.YtphcebgpllecjaaGreatDoor
open Go.RowKit Go.Inq Go.Shelf
set_option maxHeartbeats 4000000
attribute [local go_sem] Oper.semAt_some
attribute [local go_sem ↓] Go.wp_at_zero Go.wp_at_succ

theorem faults8_any (v : Value) (w : World) : Calls Tryz.prog 25 #[.agg #[v]] w fun e w' => e = .returned (.func (.func 47) #[] #[.pointer (some ⟨w.heap.size, 0, none⟩)]) ∧ w' = w.alloc (.cells #[v] 24) := by
  go_enter Tryz.func25, Tryz.ntmps25
  go_wp2
  go_ret
  exact ⟨rfl, rfl⟩
theorem faults8_stops (Bh n₀ c : Nat) (A : Option Addr) (H : List Txn) (hn : SmallH H) (w : World) (hBn : Bh < n₀) (hnW : n₀ ≤ w.heap.size) (hc : w.cell? ⟨Bh, 0, none⟩ = some (.slice A H.length c)) (hT : TxnS w (fun b => b < n₀) (.slice A H.length c) H) :
    SeqStopsK Fence.wide (3 - 1) Tryz.prog 47 #[.pointer (some ⟨Bh, 0, none⟩)] (fun x : Bool => #[Value.bool x]) (KeepsAll n₀) (fun ys => ys = faultsL H) (fun pre => pre <+: faultsL H) (faultsL H).length w := fun l J Jx W hW hJ _ hY h0 =>
  faults1_in (3 - 1) (by omega) l Bh n₀ c A H hn.1 hn.2 J Jx W hJ hY ((hW.cell (p := ⟨Bh, 0, none⟩) (by show Bh < _; omega)).trans hc) hBn (Nat.le_trans hnW hW.size) (TxnS.keep hT (Agree.below hW fun b h => by omega) (fun b h => h)) h0
set_option maxRecDepth 100000 in
theorem right8_any (A : Option Addr) (c : Nat) (H : List Txn) (w : World) (h : TxnS w (Old w) (.slice A H.length c) H) (hn : SmallH H) :
    Calls Tryz.prog 11 #[.agg #[.slice A H.length c]] w fun e w' => e = .returned (.bool (rightH H)) ∧ Below w.heap.size w w' := by
  refine (callsIn_wide (n := 3)).1 ?_
  have hro : Fence.wide.round = none := rfl
  refine callsIn_of_wp_marks Tryz.func11 rfl trivial ?_ hro
  simp only [Tryz.ntmps11, List.size_toArray, List.length_cons, List.length_nil, Nat.reduceAdd, Nat.reduceSub, Array.replicate_succ, Array.replicate_zero, List.push_toArray, List.append_toArray, List.nil_append, List.cons_append]
  gi_wp2_with fail
  refine ⟨trivial, ?_⟩
  refine (callsIn_wide.2 (faults8_any _ _)).mono ?_
  rintro e w1 ⟨rfl, rfl⟩
  dsimp only
  gi_wp2
  obtain ⟨W0, hW0⟩ : ∃ W0, ((w.alloc (.cells #[.slice A H.length c] 24)).alloc (.cells #[.bool false] 4)).alloc (.cells #[.slice A H.length c] 24) = W0 := ⟨_, rfl⟩
  have hs0 : W0.heap.size = w.heap.size + 3 := by rw [← hW0]; simp
  have hBW : Below w.heap.size w W0 := by rw [← hW0]; exact (((Below.refl _ w).alloc (Nat.le_refl _) _).alloc (by simp) _).alloc (by simp; omega) _
  have k1 : Blk W0 (w.heap.size + 1) 4 #[.bool false] := by
    rw [← hW0]
    have := Blk.new (w.alloc (.cells #[.slice A H.length c] 24)) 4 #[.bool false]
    simp only [World.size_alloc] at this
    exact this.alloc _
  have k2 : Blk W0 (w.heap.size + 2) 24 #[.slice A H.length c] := by
    rw [← hW0]
    have := Blk.new ((w.alloc (.cells #[.slice A H.length c] 24)).alloc (.cells #[.bool false] 4)) 24 #[.slice A H.length c]
    simp only [World.size_alloc] at this
    exact this
  simp only [World.size_alloc]
  rw [hW0]
  have h2 : TxnS W0 (fun b => b < w.heap.size) (.slice A H.length c) H := TxnS.keep h (Agree.below hBW fun b h => h) (fun b h => h)
  have c2 := k2.cell 0
  simp only [List.getElem?_toArray, List.getElem?_cons_zero, List.getElem?_cons_succ] at c2
  have c1 := k1.cell 0
  simp only [List.getElem?_toArray, List.getElem?_cons_zero, List.getElem?_cons_succ] at c1
  have f1 := k1.frozen 0
  clear hW0
  refine wpIn_rangeFunc_ownF hro (by omega) (gf := 47) (lb := #[.pointer (some ⟨w.heap.size + 2, 0, none⟩)]) rfl trivial (enters_of Tryz.func47 (by kernel_rfl) rfl)
    (faults8_stops (w.heap.size + 2) (w.heap.size + 3) c A H hn W0 (by omega) (by omega) c2 (TxnS.fit h2 (fun b h => by omega))) KeepsAll.t (KeepsAll.b (by omega)) (Below.refl _ _) (fun _ => rfl)
    (fun pre W => ((pre.all id = true) ∧ W.cell? ⟨w.heap.size + 1, 0, none⟩ = some (.bool false) ∧ W.frozen? ⟨w.heap.size + 1, 0, none⟩ = false) ∧ Below w.heap.size w W)
    (fun cc pre W => (cc = .ret ∧ false ∈ pre ∧ W.cell? ⟨w.heap.size + 1, 0, none⟩ = some (.bool false)) ∧ Below w.heap.size w W)
    (OwnFrom.and (Own.from (fun s A B row hs hg hr => ⟨hs.1, cell_kept hs.2.1 hg hr, (frozen_kept hs.2.1 hg hr).trans hs.2.2⟩) _) (ownFrom_below (Nat.le_refl _) (by omega)))
    (fun cc => OwnFrom.and (Own.from (fun s A B row hs hg hr => ⟨hs.1, hs.2.1, cell_kept hs.2.2 hg hr⟩) _) (ownFrom_below (Nat.le_refl _) (by omega)))
    ⟨⟨rfl, c1, f1⟩, hBW⟩
    (fun x => { tmps := #[.agg #[.slice A H.length c], .pointer (some ⟨w.heap.size, 0, none⟩), .pointer (some ⟨w.heap.size + 1, 0, none⟩), .bool x, .agg #[.slice A H.length c], .func (.func 47) #[] #[.pointer (some ⟨w.heap.size + 2, 0, none⟩)], .bool x, undef, undef], defers := [] }) ?assign ?body ?done ?stop
  case assign =>
    intro l x W K hK
    gi_wp2
    exact hK
  case body =>
    rintro l pre x W ⟨⟨hp, hcr, hfr⟩, hB⟩ _
    cases x with
    | false =>
      gi_wp2
      exact ⟨KeepsOthers.setCell _ _ _, ⟨rfl, by simp, World.cell?_setCell_same' _ _ _ (by rw [hcr]; rfl)⟩, hB.setCell (p := ⟨w.heap.size + 1, 0, none⟩) (by simp) _⟩
    | true =>
      gi_wp2
      exact ⟨KeepsOthers.refl _, KeepsAll.refl _ _, ⟨by rw [List.all_append, hp]; rfl, hcr, hfr⟩, hB⟩
  case done =>
    rintro D xs W hD rfl ⟨⟨hall, hcr, hfr⟩, hB⟩ hK
    have hall := hide hall
    gi_wp2
    have hK' := (KeepsOthers.setCell W ⟨w.heap.size + 1, 0, none⟩ (.bool true)).same D _ hK rfl
    refine ⟨by simp, .inl ⟨_, _, rfl, run_takeDeferred hK', ?_⟩⟩
    have hc5 := cell_kept (World.cell?_setCell_same' W ⟨w.heap.size + 1, 0, none⟩ (.bool true) (by rw [hcr]; rfl)) (grownBy_putObj' _ D (.deferred none)) (fun r e => by cases e; exact ⟨_, hK', rfl⟩)
    refine ⟨.bool true, ?_, by unfold rightH; rw [hall.out], (hB.setCell (p := ⟨w.heap.size + 1, 0, none⟩) (by simp) _).trans (belowK_b (w := w) (Nat.le_refl _) _ D _ _ (by omega) hK' rfl rfl)⟩
    simp [results, Tryz.f11, go_sem, hc5]
  case stop =>
    rintro D cc pre W hD hpre ⟨⟨rfl, hin, hcr⟩, hB⟩ hK
    have hf := hide (pre_false hpre hin)
    gi_wp2
    refine ⟨by simp, .inl ⟨_, _, rfl, run_takeDeferred hK, ?_⟩⟩
    have hc5 := cell_kept hcr (grownBy_putObj' _ D (.deferred none)) (fun r e => by cases e; exact ⟨_, hK, rfl⟩)
    refine ⟨.bool false, ?_, by unfold rightH; rw [hf.out], hB.trans (belowK_b (w := w) (Nat.le_refl _) W D _ _ (by omega) hK rfl rfl)⟩
    simp [results, Tryz.f11, go_sem, hc5]
end Go.Proofs.YtphcebgpllecjaaGreatDoor

namespace Go.Inq
open Go Go.RowKit

def cellsT (L : List Tx) (vs : List Value) : List Value := ((L.zip vs).map fun p => [.int .i64 p.1.sess, .bool p.1.done, .int .i64 p.1.first, p.2]).flatten
theorem cellsT_nil (vs : List Value) : cellsT [] vs = [] := rfl
theorem cellsT_cons (t : Tx) (L : List Tx) (vo : Value) (vs : List Value) : cellsT (t :: L) (vo :: vs) = .int .i64 t.sess :: .bool t.done :: .int .i64 t.first :: vo :: cellsT L vs := rfl
theorem cellsT_len : ∀ (L : List Tx) (vs : List Value), vs.length = L.length → (cellsT L vs).length = L.length * 4
  | [], _, _ => rfl
  | t :: L, [], h => by simp at h
  | t :: L, vo :: vs, h => by
    rw [cellsT_cons]
    simp only [List.length_cons]
    rw [cellsT_len L vs (by simpa using h)]
    omega
theorem cellsT_at : ∀ (L : List Tx) (vs : List Value) (k : Nat) (t : Tx) (vo : Value), L[k]? = some t → vs[k]? = some vo →
    (cellsT L vs)[k * 4]? = some (.int .i64 t.sess) ∧ (cellsT L vs)[k * 4 + 1]? = some (.bool t.done) ∧ (cellsT L vs)[k * 4 + 2]? = some (.int .i64 t.first) ∧ (cellsT L vs)[k * 4 + 3]? = some vo
  | [], _, k, t, vo, h, _ => by simp at h
  | u :: L, [], k, t, vo, _, h => by simp at h
  | u :: L, x :: vs, 0, t, vo, h1, h2 => by
    simp at h1 h2
    subst h1 h2
    exact ⟨rfl, rfl, rfl, rfl⟩
  | u :: L, x :: vs, k + 1, t, vo, h1, h2 => by
    have := cellsT_at L vs k t vo (by simpa using h1) (by simpa using h2)
    rw [cellsT_cons, show (k + 1) * 4 = k * 4 + 1 + 1 + 1 + 1 by omega]
    simpa using this
theorem cellsT_snoc (L : List Tx) (vs : List Value) (t : Tx) (vo : Value) (h : vs.length = L.length) : cellsT (L ++ [t]) (vs ++ [vo]) = cellsT L vs ++ [.int .i64 t.sess, .bool t.done, .int .i64 t.first, vo] := by
  unfold cellsT
  rw [List.zip_append h.symm]
  simp
theorem cellsT_done : ∀ (L : List Tx) (vs : List Value) (k : Nat) (t : Tx) (b : Bool), L[k]? = some t → vs.length = L.length → cellsT (L.set k (shutT t b)) vs = (cellsT L vs).set (k * 4 + 1) (.bool b)
  | [], _, k, t, b, h, _ => by simp at h
  | u :: L, [], k, t, b, _, h => by simp at h
  | u :: L, x :: vs, 0, t, b, h1, h2 => by
    simp at h1
    subst h1
    rfl
  | u :: L, x :: vs, k + 1, t, b, h1, h2 => by
    rw [List.set_cons_succ, cellsT_cons, cellsT_cons, show (k + 1) * 4 + 1 = (k * 4 + 1) + 1 + 1 + 1 + 1 by omega, cellsT_done L vs k t b (by simpa using h1) (by simpa using h2)]
    rfl
theorem cellsT_ops : ∀ (L : List Tx) (vs : List Value) (k : Nat) (t : Tx) (e : Ev) (vo : Value), L[k]? = some t → vs.length = L.length → cellsT (L.set k (addOp t e)) (vs.set k vo) = (cellsT L vs).set (k * 4 + 3) vo
  | [], _, k, t, e, vo, h, _ => by simp at h
  | u :: L, [], k, t, e, vo, _, h => by simp at h
  | u :: L, x :: vs, 0, t, e, vo, h1, h2 => by
    simp at h1
    subst h1
    rfl
  | u :: L, x :: vs, k + 1, t, e, vo, h1, h2 => by
    rw [List.set_cons_succ, List.set_cons_succ, cellsT_cons, cellsT_cons, show (k + 1) * 4 + 3 = (k * 4 + 3) + 1 + 1 + 1 + 1 by omega, cellsT_ops L vs k t e vo (by simpa using h1) (by simpa using h2)]
    rfl

/-- A row of transactions of the call's own, with rows of ops of its own, all in blocks apart. -/
structure NestT (w : World) (base : Nat) (T E : TypeId) (v : Value) (L : List Tx) (vs : List Value) : Prop where
  len : vs.length = L.length
  row : w.ownsRow base T 4 v L.length (cellsT L vs)
  ops : ∀ (i : Nat) (vo : Value) (t : Tx), vs[i]? = some vo → L[i]? = some t → w.ownsRow base E 4 vo t.ops.length (t.ops.map Ev.enc).flatten
  out : ∀ (i : Nat) (vo : Value) (g : Nat), vs[i]? = some vo → vo.ownBlock = some g → v.ownBlock ≠ some g
  apart : ∀ (i j : Nat) (vo vo' : Value) (g : Nat), i ≠ j → vs[i]? = some vo → vs[j]? = some vo' → vo.ownBlock = some g → vo'.ownBlock ≠ some g
section
variable {w w' : World} {base : Nat} {T E : TypeId} {v : Value} {L : List Tx} {vs : List Value}
theorem NestT.nil (w : World) (base : Nat) (T E : TypeId) : NestT w base T E (.slice none 0 0) [] [] :=
  ⟨rfl, World.ownsRow_nil _ _ _ _, fun i vo t h => by simp at h, fun i vo g h => by simp at h, fun i j vo vo' g _ h => by simp at h⟩
theorem NestT.at_ (h : NestT w base T E v L vs) {i : Nat} (hi : i < L.length) : ∃ vo, vs[i]? = some vo := ⟨vs[i]'(by rw [h.len]; exact hi), List.getElem?_eq_getElem _⟩
theorem NestT.at2 (h : NestT w base T E v L vs) {i : Nat} {vo : Value} (hv : vs[i]? = some vo) : ∃ t, L[i]? = some t := by
  have : i < vs.length := by
    rcases Nat.lt_or_ge i vs.length with g | g
    · exact g
    · rw [List.getElem?_eq_none g] at hv; cases hv
  exact ⟨L[i]'(by rw [← h.len]; exact this), List.getElem?_eq_getElem _⟩
theorem NestT.below {B : Nat} (h : NestT w base T E v L vs) (hb : Below B w w') (hB : w.heap.size ≤ B) : NestT w' base T E v L vs :=
  ⟨h.len, own_below h.row hb hB, fun i vo t h1 h2 => own_below (h.ops i vo t h1 h2) hb hB, h.out, h.apart⟩
theorem NestT.alloc (h : NestT w base T E v L vs) (o : Obj) : NestT (w.alloc o) base T E v L vs :=
  ⟨h.len, h.row.alloc o, fun i vo t h1 h2 => (h.ops i vo t h1 h2).alloc o, h.out, h.apart⟩
theorem NestT.drew (h : NestT w base T E v L vs) : NestT w.drew base T E v L vs := ⟨h.len, h.row, h.ops, h.out, h.apart⟩
theorem NestT.far (h : NestT w base T E v L vs) {p : Addr} (hp : p.block < base) (u : Value) : NestT (w.setCell p u) base T E v L vs :=
  ⟨h.len, own_setCell h.row (fun e => by have := (h.row.lt _ e).1; omega) u, fun i vo t h1 h2 => own_setCell (h.ops i vo t h1 h2) (fun e => by have := ((h.ops i vo t h1 h2).lt _ e).1; omega) u, h.out, h.apart⟩
theorem NestT.grown {row : Option Nat} (h : NestT w base T E v L vs) (hg : w.grownBy w' row) (hr : ∀ k, row = some k → k < base) : NestT w' base T E v L vs :=
  ⟨h.len, h.row.kept hg (by
    cases hv : v.ownBlock with
    | none => exact .inl rfl
    | some g => exact .inr fun e => by have := (h.row.lt g hv).1; have := hr g e.symm; omega), fun i vo t h1 h2 => (h.ops i vo t h1 h2).kept hg (by
    cases hv : vo.ownBlock with
    | none => exact .inl rfl
    | some g => exact .inr fun e => by have := ((h.ops i vo t h1 h2).lt g hv).1; have := hr g e.symm; omega), h.out, h.apart⟩
theorem NestT.lt (h : NestT w base T E v L vs) : ∀ g, v.ownBlock = some g → base ≤ g ∧ g < w.heap.size := fun g hg => h.row.lt g hg
theorem NestT.form (h : NestT w base T E v L vs) : ∃ A c, v = .slice A L.length c := own_slice h.row
/-- Where it is not empty it lies at the head of a block. -/
theorem NestT.head (h : NestT w base T E v L vs) {i : Nat} (hi : i < L.length) : ∃ g cap, v = .slice (some ⟨g, 0, none⟩) L.length cap ∧ base ≤ g ∧ g < w.heap.size := by
  rcases h.row.2 with ⟨_, h0⟩ | ⟨g, cap, cur, hv, hb, hg, _⟩
  · omega
  · exact ⟨g, cap, hv, hb, (Array.getElem?_eq_some_iff.1 hg).1⟩
theorem NestT.cells {g cap : Nat} (h : NestT w base T E (.slice (some ⟨g, 0, none⟩) L.length cap) L vs) {i : Nat} {t : Tx} {vo : Value} (hi : L[i]? = some t) (hv : vs[i]? = some vo) :
    w.cell? ⟨g, i * 4, none⟩ = some (.int .i64 t.sess) ∧ w.cell? ⟨g, i * 4 + 1, none⟩ = some (.bool t.done) ∧ w.cell? ⟨g, i * 4 + 2, none⟩ = some (.int .i64 t.first) ∧ w.cell? ⟨g, i * 4 + 3, none⟩ = some vo := by
  have hl : i < L.length := by
    rcases Nat.lt_or_ge i L.length with g | g
    · exact g
    · rw [List.getElem?_eq_none g] at hi; cases hi
  obtain ⟨h0, h1, h2, h3⟩ := cellsT_at L vs i t vo hi hv
  exact ⟨(h.row.cellAt _ (by omega)).trans h0, (h.row.cellAt _ (by omega)).trans h1, (h.row.cellAt _ (by omega)).trans h2, (h.row.cellAt _ (by omega)).trans h3⟩
theorem NestT.frozen {g cap : Nat} (h : NestT w base T E (.slice (some ⟨g, 0, none⟩) L.length cap) L vs) (j : Nat) : w.frozen? ⟨g, j, none⟩ = false := h.row.frozenAt j
/-- One more behind. -/
theorem NestT.snoc {v' : Value} (h : NestT w base T E v L vs) {t : Tx} (ht : t.ops = []) (hr : w'.ownsRow base T 4 v' (L.length + 1) (cellsT L vs ++ [.int .i64 t.sess, .bool t.done, .int .i64 t.first, .slice none 0 0]))
    (hg : w.grownBy w' v.ownBlock) (hat : v'.ownBlock = v.ownBlock ∨ v'.ownBlock = some w.heap.size) : NestT w' base T E v' (L ++ [t]) (vs ++ [.slice none 0 0]) := by
  have hsp : ∀ {i : Nat} {vo : Value}, (vs ++ [.slice none 0 0])[i]? = some vo → (vs[i]? = some vo ∧ i < vs.length) ∨ (i = vs.length ∧ vo = .slice none 0 0) := fun {i vo} hi => by
    rcases Nat.lt_or_ge i vs.length with g | g
    · rw [List.getElem?_append_left g] at hi; exact .inl ⟨hi, g⟩
    · rw [List.getElem?_append_right g] at hi
      cases hq : i - vs.length with
      | zero => rw [hq] at hi; simp at hi; exact .inr ⟨by omega, hi.symm⟩
      | succ n => rw [hq] at hi; simp at hi
  refine ⟨by simp [h.len], ?_, fun i vo u h1 h2 => ?_, fun i vo g h1 h2 => ?_, fun i j vo vo' g hij h1 h2 h3 => ?_⟩
  · rw [cellsT_snoc L vs t _ h.len, List.length_append]; exact hr
  · rcases hsp h1 with ⟨h3, hl⟩ | ⟨rfl, rfl⟩
    · rw [List.getElem?_append_left (by rw [← h.len]; exact hl)] at h2
      refine (h.ops i vo u h3 h2).kept hg ?_
      cases hv : vo.ownBlock with
      | none => exact .inl rfl
      | some g => exact .inr fun e => h.out i vo g h3 hv e.symm
    · rw [h.len, List.getElem?_append_right (Nat.le_refl _)] at h2
      simp at h2
      subst h2
      rw [ht]
      exact World.ownsRow_nil _ _ _ _
  · rcases hsp h1 with ⟨h3, _⟩ | ⟨_, rfl⟩
    · obtain ⟨u, hu⟩ := h.at2 h3
      rcases hat with e | e
      · rw [e]; exact h.out i vo g h3 h2
      · rw [e]
        intro e2
        injection e2 with e2
        have := ((h.ops i vo u h3 hu).lt g h2).2
        omega
    · cases h2
  · rcases hsp h1 with ⟨h4, _⟩ | ⟨rfl, rfl⟩
    · rcases hsp h2 with ⟨h5, _⟩ | ⟨_, rfl⟩
      · exact h.apart i j vo vo' g hij h4 h5 h3
      · intro e; cases e
    · cases h3
/-- One is shut. -/
theorem NestT.shut {g cap k : Nat} {t : Tx} (h : NestT w base T E (.slice (some ⟨g, 0, none⟩) L.length cap) L vs) (hk : L[k]? = some t) (b : Bool) :
    NestT (w.setCell ⟨g, k * 4 + 1, none⟩ (.bool b)) base T E (.slice (some ⟨g, 0, none⟩) L.length cap) (L.set k (shutT t b)) vs := by
  refine ⟨by simp [h.len], ?_, fun i vo u h1 h2 => ?_, h.out, h.apart⟩
  · rw [cellsT_done L vs k t b hk h.len, List.length_set]
    exact (h.row.stored _ _).1
  · have hu : ∃ u', L[i]? = some u' ∧ u.ops = u'.ops := by
      rw [List.getElem?_set] at h2
      split at h2
      · rename_i e
        subst e
        split at h2
        · injection h2 with h2
          exact ⟨t, hk, by rw [← h2]; rfl⟩
        · cases h2
      · exact ⟨u, h2, rfl⟩
    obtain ⟨u', hu1, hu2⟩ := hu
    rw [hu2]
    exact own_setCell (h.ops i vo u' h1 hu1) (fun e => h.out i vo g h1 e rfl) _
/-- One op more: the row of ops grew, and was stored. -/
theorem NestT.addOp {g cap k : Nat} {t : Tx} {vo v6 : Value} {e : Ev} (h : NestT w base T E (.slice (some ⟨g, 0, none⟩) L.length cap) L vs) (hk : L[k]? = some t) (hv : vs[k]? = some vo)
    (hr : w'.ownsRow base E 4 v6 (t.ops ++ [e]).length ((t.ops ++ [e]).map Ev.enc).flatten) (hg : w.grownBy w' vo.ownBlock) (hat : v6.ownBlock = vo.ownBlock ∨ v6.ownBlock = some w.heap.size) :
    NestT (w'.setCell ⟨g, k * 4 + 3, none⟩ v6) base T E (.slice (some ⟨g, 0, none⟩) L.length cap) (L.set k (Go.Inq.addOp t e)) (vs.set k v6) := by
  have hkv : k < vs.length := by
    rcases Nat.lt_or_ge k vs.length with g | g
    · exact g
    · rw [List.getElem?_eq_none g] at hv; cases hv
  have hgs : g < w.heap.size := (h.lt g rfl).2
  have hvg : vo.ownBlock ≠ some g := fun e => h.out k vo g hv e rfl
  have hv6 : v6.ownBlock ≠ some g := by
    rcases hat with e | e
    · rw [e]; exact hvg
    · rw [e]; intro e2; injection e2 with e2; omega
  have hrow : w'.ownsRow base T 4 (.slice (some ⟨g, 0, none⟩) L.length cap) L.length (cellsT L vs) := h.row.kept hg (.inr fun e => hvg e.symm)
  have hsp : ∀ {i : Nat} {x : Value}, (vs.set k v6)[i]? = some x → (i = k ∧ x = v6) ∨ (i ≠ k ∧ vs[i]? = some x) := fun {i x} hi => by
    rw [List.getElem?_set] at hi
    split at hi
    · rename_i e
      subst e
      (try rw [if_pos hkv] at hi)
      injection hi with hi
      exact .inl ⟨rfl, hi.symm⟩
    · rename_i e
      exact .inr ⟨fun e2 => e e2.symm, hi⟩
  have hold : ∀ {i : Nat} {x : Value} {j : Nat}, i ≠ k → vs[i]? = some x → x.ownBlock = some j → v6.ownBlock ≠ some j := fun {i x j} hik hx hj => by
    rcases hat with e | e
    · rw [e]
      exact h.apart i k x vo j hik hx hv hj
    · rw [e]
      intro e2
      injection e2 with e2
      obtain ⟨u, hu⟩ := h.at2 hx
      have := ((h.ops i x u hx hu).lt j hj).2
      omega
  refine ⟨by simp [h.len], ?_, fun i x u h1 h2 => ?_, fun i x j h1 h2 => ?_, fun i j x y q hij h1 h2 h3 => ?_⟩
  · rw [cellsT_ops L vs k t e v6 hk h.len, List.length_set]
    exact (hrow.stored _ _).1
  · rcases hsp h1 with ⟨rfl, rfl⟩ | ⟨hik, hx⟩
    · rw [List.getElem?_set, if_pos rfl, if_pos (by rw [← h.len]; exact hkv)] at h2
      injection h2 with h2
      subst h2
      exact own_setCell hr (fun e => hv6 e) _
    · rw [List.getElem?_set, if_neg (fun e => hik e.symm)] at h2
      refine own_setCell ((h.ops i x u hx h2).kept hg ?_) (fun e => h.out i x g hx e rfl) _
      cases hq : x.ownBlock with
      | none => exact .inl rfl
      | some j => exact .inr fun e => h.apart i k x vo j hik hx hv hq e.symm
  · rcases hsp h1 with ⟨rfl, rfl⟩ | ⟨hik, hx⟩
    · intro e; injection e with e; subst e; exact hv6 h2
    · exact h.out i x j hx h2
  · rcases hsp h1 with ⟨rfl, rfl⟩ | ⟨hik, hx⟩
    · rcases hsp h2 with ⟨rfl, rfl⟩ | ⟨hjk, hy⟩
      · exact absurd rfl hij
      · intro e; exact hold hjk hy e h3
    · rcases hsp h2 with ⟨rfl, rfl⟩ | ⟨hjk, hy⟩
      · exact hold hik hx h3
      · exact h.apart i j x y q hij hx hy h3
/-- It reads as a slice of transactions. -/
theorem NestT.txs (h : NestT w base T E v L vs) : TxS w (fun b => base ≤ b ∧ b < w.heap.size) v L := by
  have hflat : cellsT L vs = ((L.zip vs).map fun p => [.int .i64 p.1.sess, .bool p.1.done, .int .i64 p.1.first, p.2]).flatten := rfl
  refine SlR.of_own (ys := (L.zip vs).map fun p => [.int .i64 p.1.sess, .bool p.1.done, .int .i64 p.1.first, p.2]) h.row rfl hflat (by simp [h.len]) (fun i cs x h1 h2 => ?_) (fun g hg => h.lt g hg)
  rw [List.getElem?_map] at h1
  cases hz : (L.zip vs)[i]? with
  | none => rw [hz] at h1; cases h1
  | some p =>
    rw [hz] at h1
    injection h1 with h1
    rw [List.getElem?_zip_eq_some] at hz
    obtain ⟨hz1, hz2⟩ := hz
    rw [h2] at hz1
    injection hz1 with hz1
    subst h1
    have ho := h.ops i p.2 x hz2 h2
    exact ⟨rfl, p.2, by rw [hz1], SlR.of_flat ho rfl (fun _ => rfl) (fun g h1 h2 => ⟨h1, h2⟩)⟩
end

def chunksT (L : List Tx) (vs : List Value) : List (List Value) := (L.zip vs).map fun p => [.int .i64 p.1.sess, .bool p.1.done, .int .i64 p.1.first, p.2]
def RawR : World → (Nat → Prop) → List Value → List Value → Prop := fun _ _ cs x => cs = x ∧ ∀ u ∈ cs, u.oneCell' = true
theorem NestT.own {w : World} {base : Nat} {T E : TypeId} {v : Value} {L : List Tx} {vs : List Value} (h : NestT w base T E v L vs) : OwnR 4 RawR w (fun _ => True) base T v (chunksT L vs) := by
  have hl : (chunksT L vs).length = L.length := by simp [chunksT, h.len]
  refine ⟨chunksT L vs, by rw [hl]; exact h.row, rfl, fun i cs x h1 h2 => ?_⟩
  rw [h1] at h2
  injection h2 with h2
  subst h2
  unfold chunksT at h1
  rw [List.getElem?_map] at h1
  cases hz : (L.zip vs)[i]? with
  | none => rw [hz] at h1; cases h1
  | some p =>
    rw [hz] at h1
    injection h1 with h1
    rw [List.getElem?_zip_eq_some] at hz
    obtain ⟨A, c, hv⟩ := own_slice (h.ops i p.2 p.1 hz.2 hz.1)
    subst h1
    refine ⟨rfl, rfl, fun u hu => ?_⟩
    simp at hu
    rcases hu with rfl | rfl | rfl | rfl
    · rfl
    · rfl
    · rfl
    · rw [hv]; rfl
/-- append(out, T{..}): one transaction more, without ops. -/
theorem wpList_append_nest {P : Program} {w : World} {ops : Array Oper} {rest : List Oper} {o : Oper} {a : Act} {Q : Exit → Act → World → Prop}
    (hgd : o.guard = none) (s x : Operand) (t : TypeId) (ho : o.op = .call { callee := .builtin .append, args := #[s, x], argTypes := #[t, t] })
    (base : Nat) (T E : TypeId) (i : TypeInfo) (z : Value) (bytes : Nat) (ht : P.underlying t = some (.slice T)) (hi : P.info? T = some i) (hz : i.zero = some z)
    (hsize : i.size = 4) (hby : i.bytes = bytes) (hzs : z.cells.size = 4)
    (v : Value) (L : List Tx) (vs : List Value) (hs : a.eval s = v) (hN : NestT w base T E v L vs)
    (t0 : Tx) (ht0 : t0.ops = []) (g : Nat) (hx : a.eval x = .slice (some ⟨g, 0, none⟩) 1 1) (hb : Blk w g T #[.int .i64 t0.sess, .bool t0.done, .int .i64 t0.first, .slice none 0 0])
    (h63 : L.length + 1 ≤ maxLen) (hbytes : (L.length + 1) * bytes ≤ 140737488355328) (hbase : base ≤ w.heap.size)
    (h : ∀ v' w', NestT w' base T E v' (L ++ [t0]) (vs ++ [.slice none 0 0]) → w.grownBy w' v.ownBlock → wpList P ops Q rest (a.put o.dst v') w') :
    wpList P ops Q (o :: rest) a w := by
  have hl : (chunksT L vs).length = L.length := by simp [chunksT, hN.len]
  refine wpList_append_list (R := RawR) hgd s x t ho base T i z 4 bytes ht hi hz hsize hby hzs (by decide) v (fun _ => True) (chunksT L vs) hs hN.own _ [[.int .i64 t0.sess, .bool t0.done, .int .i64 t0.first, .slice none 0 0]] hx
    (SlR.one hb rfl ⟨rfl, fun u hu => ?_⟩ trivial) (fun cs x hr => hr.2) (by rw [hl]; exact h63) (by rw [hl]; exact hbytes) hbase (fun w' _ cs x hr => hr) fun v' w' hown hg hat => h v' w' (hN.snoc ht0 ?_ hg hat) hg
  · simp at hu
    rcases hu with rfl | rfl | rfl | rfl <;> rfl
  · obtain ⟨ys, h1, h2, h3⟩ := hown
    have : ys = chunksT L vs ++ [[.int .i64 t0.sess, .bool t0.done, .int .i64 t0.first, .slice none 0 0]] := by
      refine List.ext_getElem h2 fun j g1 g2 => ?_
      exact (h3 j _ _ (List.getElem?_eq_getElem g1) (List.getElem?_eq_getElem g2)).2.1
    rw [this] at h1
    rw [List.length_append, hl, List.flatten_append, show (chunksT L vs).flatten = cellsT L vs from rfl] at h1
    simpa using h1
end Go.Inq

namespace Go.Inq
open Go Go.RowKit

section
variable {w w' : World} {base : Nat} {T E : TypeId} {v : Value} {L : List Tx} {vs : List Value}
theorem cellsT_made (n : Nat) : cellsT (List.replicate n noTx) (List.replicate n (.slice none 0 0)) = (madeCells (Value.agg #[.int .i64 0, .bool false, .int .i64 0, .slice none 0 0]).cells (n * 4)).toList := by
  have hl := cellsT_len (List.replicate n noTx) (List.replicate n (.slice none 0 0)) (by simp)
  rw [List.length_replicate] at hl
  have hz : (Value.agg #[.int .i64 0, .bool false, .int .i64 0, .slice none 0 0]).cells = #[.int .i64 0, .bool false, .int .i64 0, .slice none 0 0] := rfl
  rw [hz]
  clear hz
  refine List.ext_getElem (by rw [hl]; simp [madeCells]) fun i h1 h2 => ?_
  rw [hl] at h1
  obtain ⟨k, j, hk, hj, rfl⟩ : ∃ k j, k < n ∧ j < 4 ∧ i = k * 4 + j := ⟨i / 4, i % 4, by omega, by omega, by omega⟩
  obtain ⟨g0, g1, g2, g3⟩ := cellsT_at (List.replicate n noTx) (List.replicate n (.slice none 0 0)) k noTx (.slice none 0 0) (by simp [hk]) (by simp [hk])
  have hm : (k * 4 + j) % 4 = j := by omega
  have key : ∀ u, (cellsT (List.replicate n noTx) (List.replicate n (.slice none 0 0)))[k * 4 + j]? = some u → (cellsT (List.replicate n noTx) (List.replicate n (.slice none 0 0)))[k * 4 + j] = u := fun u hu => by
    rw [List.getElem?_eq_getElem (by rw [hl]; exact h1)] at hu
    injection hu
  simp only [madeCells, Array.getElem_toList, Array.getElem_map, Array.getElem_range, List.size_toArray, List.length_cons, List.length_nil, Nat.reduceAdd, hm]
  obtain rfl | rfl | rfl | rfl : j = 0 ∨ j = 1 ∨ j = 2 ∨ j = 3 := by omega
  · exact key _ g0
  · exact key _ g1
  · exact key _ g2
  · exact key _ g3
theorem NestT.made {n : Nat} (h : w.ownsRow base T 4 v n (madeCells (Value.agg #[.int .i64 0, .bool false, .int .i64 0, .slice none 0 0]).cells (n * 4)).toList) : NestT w base T E v (List.replicate n noTx) (List.replicate n (.slice none 0 0)) := by
  have hnil : ∀ (i : Nat) (vo : Value), (List.replicate n (Value.slice none 0 0))[i]? = some vo → vo = .slice none 0 0 := fun i vo hi => by
    rw [List.getElem?_replicate] at hi
    split at hi
    · injection hi with hi; exact hi.symm
    · cases hi
  refine ⟨by simp, by rw [cellsT_made, List.length_replicate]; exact h, fun i vo t h1 h2 => ?_, fun i vo g h1 h2 => ?_, fun i j vo vo' g _ h1 _ h3 => ?_⟩
  · rw [hnil i vo h1]
    rw [List.getElem?_replicate] at h2
    split at h2
    · injection h2 with h2; subst h2; exact World.ownsRow_nil _ _ _ _
    · cases h2
  · rw [hnil i vo h1] at h2; cases h2
  · rw [hnil i vo h1] at h3; cases h3
theorem cellsT_reset : ∀ (L : List Tx) (vs : List Value) (k : Nat) (s : Int) (d : Bool) (f : Int) (o : List Ev) (vo : Value), vs.length = L.length → k < L.length →
    cellsT (L.set k ⟨s, d, f, o⟩) (vs.set k vo) = ((((cellsT L vs).set (k * 4) (.int .i64 s)).set (k * 4 + 1) (.bool d)).set (k * 4 + 2) (.int .i64 f)).set (k * 4 + 3) vo
  | [], _, k, _, _, _, _, _, _, h => by simp at h
  | u :: L, [], k, _, _, _, _, _, h, _ => by simp at h
  | u :: L, x :: vs, 0, s, d, f, o, vo, h1, h2 => rfl
  | u :: L, x :: vs, k + 1, s, d, f, o, vo, h1, h2 => by
    rw [List.set_cons_succ, List.set_cons_succ, cellsT_cons, cellsT_cons, cellsT_reset L vs k s d f o vo (by simpa using h1) (by simpa using h2)]
    rw [show (k + 1) * 4 + 3 = (k * 4 + 3) + 1 + 1 + 1 + 1 by omega, show (k + 1) * 4 + 2 = (k * 4 + 2) + 1 + 1 + 1 + 1 by omega, show (k + 1) * 4 + 1 = (k * 4 + 1) + 1 + 1 + 1 + 1 by omega, show (k + 1) * 4 = k * 4 + 1 + 1 + 1 + 1 by omega]
    rfl
/-- One is told anew, without ops. -/
theorem NestT.reset {g cap k N : Nat} (hN : L.length = N) (h : NestT w base T E (.slice (some ⟨g, 0, none⟩) N cap) L vs) (hk : k < N) (s : Int) (d : Bool) (f : Int) :
    NestT ((((w.setCell ⟨g, k * 4, none⟩ (.int .i64 s)).setCell ⟨g, k * 4 + 1, none⟩ (.bool d)).setCell ⟨g, k * 4 + 2, none⟩ (.int .i64 f)).setCell ⟨g, k * 4 + 3, none⟩ (.slice none 0 0)) base T E (.slice (some ⟨g, 0, none⟩) N cap) (L.set k ⟨s, d, f, []⟩) (vs.set k (.slice none 0 0)) := by
  subst hN
  have hkv : k < vs.length := by rw [h.len]; exact hk
  have hsp : ∀ {i : Nat} {x : Value}, (vs.set k (.slice none 0 0))[i]? = some x → (i = k ∧ x = .slice none 0 0) ∨ (i ≠ k ∧ vs[i]? = some x) := fun {i x} hi => by
    rw [List.getElem?_set] at hi
    split at hi
    · rename_i e
      subst e
      (try rw [if_pos hkv] at hi)
      injection hi with hi
      exact .inl ⟨rfl, hi.symm⟩
    · rename_i e
      exact .inr ⟨fun e2 => e e2.symm, hi⟩
  refine ⟨by simp [h.len], ?_, fun i x u h1 h2 => ?_, fun i x j h1 h2 => ?_, fun i j x y q hij h1 h2 h3 => ?_⟩
  · rw [cellsT_reset L vs k s d f [] _ h.len hk, List.length_set]
    exact ((((h.row.stored _ _).1.stored _ _).1.stored _ _).1.stored _ _).1
  · rcases hsp h1 with ⟨rfl, rfl⟩ | ⟨hik, hx⟩
    · rw [List.getElem?_set, if_pos rfl, if_pos hk] at h2
      injection h2 with h2
      subst h2
      exact World.ownsRow_nil _ _ _ _
    · rw [List.getElem?_set, if_neg (fun e => hik e.symm)] at h2
      have hne : x.ownBlock ≠ some g := fun e => h.out i x g hx e rfl
      exact own_setCell (own_setCell (own_setCell (own_setCell (h.ops i x u hx h2) hne _) hne _) hne _) hne _
  · rcases hsp h1 with ⟨rfl, rfl⟩ | ⟨hik, hx⟩
    · cases h2
    · exact h.out i x j hx h2
  · rcases hsp h1 with ⟨rfl, rfl⟩ | ⟨hik, hx⟩
    · cases h3
    · rcases hsp h2 with ⟨rfl, rfl⟩ | ⟨hjk, hy⟩
      · intro e; cases e
      · exact h.apart i j x y q hij hx hy h3
theorem NestT.cellsN {g cap N : Nat} (hN : L.length = N) (h : NestT w base T E (.slice (some ⟨g, 0, none⟩) N cap) L vs) {i : Nat} {t : Tx} {vo : Value} (hi : L[i]? = some t) (hv : vs[i]? = some vo) :
    w.cell? ⟨g, i * 4, none⟩ = some (.int .i64 t.sess) ∧ w.cell? ⟨g, i * 4 + 1, none⟩ = some (.bool t.done) ∧ w.cell? ⟨g, i * 4 + 2, none⟩ = some (.int .i64 t.first) ∧ w.cell? ⟨g, i * 4 + 3, none⟩ = some vo := by
  subst hN
  exact h.cells hi hv
theorem NestT.frozenN {g cap N : Nat} (hN : L.length = N) (h : NestT w base T E (.slice (some ⟨g, 0, none⟩) N cap) L vs) (j : Nat) : w.frozen? ⟨g, j, none⟩ = false := by
  subst hN
  exact h.frozen j
theorem NestT.addOpN {g cap k N : Nat} {t : Tx} {vo v6 : Value} {e : Ev} (hN : L.length = N) (h : NestT w base T E (.slice (some ⟨g, 0, none⟩) N cap) L vs) (hk : L[k]? = some t) (hv : vs[k]? = some vo)
    (hr : w'.ownsRow base E 4 v6 (t.ops ++ [e]).length ((t.ops ++ [e]).map Ev.enc).flatten) (hg : w.grownBy w' vo.ownBlock) (hat : v6.ownBlock = vo.ownBlock ∨ v6.ownBlock = some w.heap.size) :
    NestT (w'.setCell ⟨g, k * 4 + 3, none⟩ v6) base T E (.slice (some ⟨g, 0, none⟩) N cap) (L.set k (Go.Inq.addOp t e)) (vs.set k v6) := by
  subst hN
  exact h.addOp hk hv hr hg hat
end

/-- A history's transactions as far as they are told. -/
def fillT (H : List Txn) (n : Nat) : List Tx := (txsOf H).take n ++ List.replicate (H.length - n) noTx
theorem fillT_len {H : List Txn} {n : Nat} (h : n ≤ H.length) : (fillT H n).length = H.length := by
  unfold fillT
  rw [List.length_append, List.length_take, txsOf_len, List.length_replicate]
  omega
theorem fillT_zero (H : List Txn) : fillT H 0 = List.replicate H.length noTx := by simp [fillT]
theorem fillT_all (H : List Txn) : fillT H H.length = txsOf H := by
  unfold fillT
  rw [Nat.sub_self, List.replicate_zero, List.append_nil, List.take_of_length_le (by rw [txsOf_len]; exact Nat.le_refl _)]
theorem fillT_step {H : List Txn} {n : Nat} (h : n < H.length) : (fillT H n).set n (txOf H[n] n) = fillT H (n + 1) := by
  have hl : ((txsOf H).take n).length = n := by rw [List.length_take, txsOf_len]; omega
  unfold fillT
  rw [List.set_append_right _ _ (by omega), hl, Nat.sub_self, show H.length - n = (H.length - (n + 1)) + 1 by omega, List.replicate_succ, List.set_cons_zero,
    List.take_succ_eq_append_getElem (by rw [txsOf_len]; exact h), txsOf_at, List.append_assoc]
  rfl
def rdOps (t : Txn) (j : Nat) : List Ev := (t.reads.take j).map fun x => ⟨1, t.sess, x.a, x.b + 1⟩
def wrOps (t : Txn) (n j : Nat) : List Ev := rdOps t t.reads.length ++ (t.writes.take j).map fun k => ⟨2, t.sess, k, (n : Int) + 1⟩
theorem rdOps_step {t : Txn} {j : Nat} (h : j < t.reads.length) : rdOps t (j + 1) = rdOps t j ++ [⟨1, t.sess, t.reads[j].a, t.reads[j].b + 1⟩] := by
  unfold rdOps; rw [List.take_succ_eq_append_getElem h, List.map_append]; rfl
theorem wrOps_step {t : Txn} {n j : Nat} (h : j < t.writes.length) : wrOps t n (j + 1) = wrOps t n j ++ [⟨2, t.sess, t.writes[j], (n : Int) + 1⟩] := by
  unfold wrOps; rw [List.take_succ_eq_append_getElem h, List.map_append, List.append_assoc]; rfl
theorem wrOps_zero (t : Txn) (n : Nat) : wrOps t n 0 = rdOps t t.reads.length := by simp [wrOps]
theorem wrOps_all (t : Txn) (n : Nat) : wrOps t n t.writes.length = opsOf t n := by
  unfold wrOps rdOps opsOf; rw [List.take_length, List.take_length]
theorem rdOps_len (t : Txn) (j : Nat) : (rdOps t j).length ≤ t.reads.length := by unfold rdOps; simp [List.length_take]; omega
theorem wrOps_len (t : Txn) (n j : Nat) : (wrOps t n j).length ≤ t.reads.length + t.writes.length := by
  unfold wrOps
  rw [List.length_append, List.length_map, List.length_take]
  have := rdOps_len t t.reads.length
  omega
end Go.Inq

namespace Go.Inq
open Go Go.RowKit
section
variable {P : Program} {k : TypeId} {α : Type} {enc : α → Value} {w : World} {g : Nat}
/-- The first entry with this key. -/
def keyAt (x : Int) : List (Int × α) → Option (Nat × α)
  | [] => none
  | (y, v) :: r => if x = y then some (0, v) else (keyAt x r).map fun p => (p.1 + 1, p.2)
/-- Entries that are these pairs. -/
def ReadsI (enc : α → Value) : List MapEntry → List (Int × α) → Prop
  | [], [] => True
  | e :: es, (y, v) :: r => e.key = .int .i64 y ∧ e.val = enc v ∧ ReadsI enc es r
  | _, _ => False
theorem find_now (x : Int) : ∀ (es : List MapEntry) (l : List (Int × α)) (i : Nat), ReadsI enc es l → Instr.findNow (.int .i64) (.int .i64 x) es i = some ((keyAt x l).map fun p => (i + p.1, enc p.2))
  | [], [], i, _ => by simp [Instr.findNow, keyAt]
  | [], _ :: _, _, h => h.elim
  | _ :: _, [], _, h => h.elim
  | e :: es, (y, v) :: r, i, h => by
    obtain ⟨h1, h2, h3⟩ := h
    unfold Instr.findNow
    have hs : Instr.sameNow (.int .i64) (.int .i64 x) e.key = some (x == y) := by rw [h1]; simp [Instr.sameNow]
    rw [hs]
    by_cases hx : x = y
    · subst hx
      simp [keyAt, h2]
    · have : (x == y) = false := by simpa using hx
      rw [this]
      dsimp only
      rw [find_now x es r (i + 1) h3]
      simp only [keyAt, if_neg hx]
      congr 1
      cases keyAt x r with
      | none => rfl
      | some p => simp; omega
theorem find_keyI (hk : P.underlying k = some (.int .i64)) (x : Int) (w : World) (es : List MapEntry) (l : List (Int × α)) (h : ReadsI enc es l) : (Instr.findKey k (.int .i64 x) es).run P w = .ok ((keyAt x l).map fun p => (p.1, enc p.2)) w := by
  unfold Instr.findKey
  simp only [Sem.run_bind, run_underlying hk, Result.andThen_ok]
  rw [find_now x es l 0 h]
  simp
theorem check_keyI (hk : P.underlying k = some (.int .i64)) (e : Bool) (x : Int) (w : World) : (Instr.checkKey e 10000 k (.int .i64 x)).run P w = .ok () w := by
  rw [Instr.checkKey]
  simp only [Sem.run_bind, run_underlying hk, Result.andThen_ok]
  rfl
def putI (x : Int) (v : α) : List (Int × α) → List (Int × α)
  | [] => [(x, v)]
  | (y, u) :: r => if x = y then (x, v) :: r else (y, u) :: putI x v r
theorem keyAt_put (x : Int) (v : α) (y : Int) : ∀ l : List (Int × α), (keyAt y (putI x v l)).map (·.2) = if y = x then some v else (keyAt y l).map (·.2)
  | [] => by
    by_cases h : y = x <;> simp [putI, keyAt, h]
  | (z, u) :: r => by
    have ih := keyAt_put x v y r
    unfold putI
    by_cases hz : x = z
    · subst hz
      rw [if_pos rfl]
      by_cases hy : y = x
      · simp [keyAt, hy]
      · simp [keyAt, hy]
    · rw [if_neg hz]
      by_cases hy : y = z
      · subst hy
        simp [keyAt, Ne.symm hz]
      · simp only [keyAt, if_neg hy, Option.map_map]
        have e : ((fun p : Nat × α => p.2) ∘ fun p : Nat × α => (p.1 + 1, p.2)) = fun p => p.2 := rfl
        rw [e]
        exact ih
theorem put_mem {x : Int} {v : α} {y : Int} : ∀ {l : List (Int × α)}, y ∈ (putI x v l).map (·.1) → y = x ∨ y ∈ l.map (·.1)
  | [], h => by simp [putI] at h; exact .inl h
  | (z, u) :: r, h => by
    unfold putI at h
    split at h
    · rename_i hz
      simp only [List.map_cons, List.mem_cons] at h ⊢
      rcases h with h | h
      · exact .inl h
      · exact .inr (.inr h)
    · simp only [List.map_cons, List.mem_cons] at h ⊢
      rcases h with h | h
      · exact .inr (.inl h)
      · rcases put_mem h with h | h
        · exact .inl h
        · exact .inr (.inr h)
theorem put_nodup {x : Int} {v : α} : ∀ {l : List (Int × α)}, (l.map (·.1)).Nodup → ((putI x v l).map (·.1)).Nodup
  | [], _ => by simp [putI]
  | (z, u) :: r, h => by
    simp only [List.map_cons, List.nodup_cons] at h
    unfold putI
    split
    · rename_i hz
      subst hz
      simpa using h
    · rename_i hz
      simp only [List.map_cons, List.nodup_cons]
      refine ⟨fun hm => ?_, put_nodup h.2⟩
      rcases put_mem hm with e | e
      · exact hz e.symm
      · exact h.1 e
theorem keyAt_some {x : Int} : ∀ {l : List (Int × α)} {i : Nat} {u : α} {es : List MapEntry}, keyAt x l = some (i, u) → ReadsI enc es l → (es[i]?).map (·.key) = some (.int .i64 x)
  | [], _, _, _, h, _ => by simp [keyAt] at h
  | (y, w) :: r, i, u, [], _, h => h.elim
  | (y, w) :: r, i, u, e :: es, h, hr => by
    obtain ⟨h1, h2, h3⟩ := hr
    unfold keyAt at h
    by_cases hx : x = y
    · rw [if_pos hx] at h
      injection h with h
      injection h with h4 h5
      subst h4 hx
      simp [h1]
    · rw [if_neg hx] at h
      cases ha : keyAt x r with
      | none => rw [ha] at h; simp at h
      | some p =>
        rw [ha] at h
        simp at h
        obtain ⟨rfl, rfl⟩ := h
        have := keyAt_some (i := p.1) (u := p.2) ha h3
        simpa using this
theorem readsI_modify {x : Int} {v : α} : ∀ {l : List (Int × α)} {i : Nat} {u : α} {es : List MapEntry}, keyAt x l = some (i, u) → ReadsI enc es l →
    ReadsI enc (es.modify i fun e => { e with key := .int .i64 x, val := enc v }) (putI x v l)
  | [], _, _, _, h, _ => by simp [keyAt] at h
  | (y, w) :: r, i, u, [], _, h => h.elim
  | (y, w) :: r, i, u, e :: es, h, hr => by
    obtain ⟨h1, h2, h3⟩ := hr
    unfold keyAt at h
    unfold putI
    by_cases hx : x = y
    · rw [if_pos hx] at h ⊢
      injection h with h
      injection h with h4 h5
      subst h4
      rw [List.modify_zero_cons]
      exact ⟨rfl, rfl, h3⟩
    · rw [if_neg hx] at h ⊢
      cases ha : keyAt x r with
      | none => rw [ha] at h; simp at h
      | some p =>
        rw [ha] at h
        simp at h
        obtain ⟨rfl, rfl⟩ := h
        rw [List.modify_succ_cons]
        exact ⟨h1, h2, readsI_modify (i := p.1) (u := p.2) ha h3⟩
theorem readsI_push {x : Int} {v : α} {c : Nat} : ∀ {l : List (Int × α)} {es : List MapEntry}, keyAt x l = none → ReadsI enc es l → ReadsI enc (es ++ [⟨.int .i64 x, enc v, c⟩]) (putI x v l)
  | [], [], _, _ => ⟨rfl, rfl, trivial⟩
  | [], e :: es, _, h => h.elim
  | (y, w) :: r, [], _, h => h.elim
  | (y, w) :: r, e :: es, h, hr => by
    obtain ⟨h1, h2, h3⟩ := hr
    unfold keyAt at h
    unfold putI
    by_cases hx : x = y
    · rw [if_pos hx] at h; cases h
    · rw [if_neg hx] at h ⊢
      exact ⟨h1, h2, readsI_push (by simpa using h) h3⟩
def dropI (x : Int) : List (Int × α) → List (Int × α)
  | [] => []
  | (y, u) :: r => if x = y then r else (y, u) :: dropI x r
theorem drop_mem {x y : Int} : ∀ {l : List (Int × α)}, y ∈ (dropI x l).map (·.1) → y ∈ l.map (·.1)
  | [], h => h
  | (z, u) :: r, h => by
    unfold dropI at h
    split at h
    · simp only [List.map_cons, List.mem_cons]; exact .inr h
    · simp only [List.map_cons, List.mem_cons] at h ⊢
      rcases h with h | h
      · exact .inl h
      · exact .inr (drop_mem h)
theorem drop_nodup {x : Int} : ∀ {l : List (Int × α)}, (l.map (·.1)).Nodup → ((dropI x l).map (·.1)).Nodup
  | [], _ => by simp [dropI]
  | (z, u) :: r, h => by
    simp only [List.map_cons, List.nodup_cons] at h
    unfold dropI
    split
    · exact h.2
    · simp only [List.map_cons, List.nodup_cons]
      exact ⟨fun hm => h.1 (drop_mem hm), drop_nodup h.2⟩
theorem keyAt_none {x : Int} : ∀ {l : List (Int × α)}, x ∉ l.map (·.1) → keyAt x l = none
  | [], _ => rfl
  | (z, u) :: r, h => by
    simp only [List.map_cons, List.mem_cons, not_or] at h
    unfold keyAt
    rw [if_neg h.1, keyAt_none h.2]
    rfl
theorem keyAt_drop (x y : Int) : ∀ {l : List (Int × α)}, (l.map (·.1)).Nodup → (keyAt y (dropI x l)).map (·.2) = if y = x then none else (keyAt y l).map (·.2)
  | [], _ => by
    by_cases h : y = x <;> simp [dropI, keyAt, h]
  | (z, u) :: r, h => by
    simp only [List.map_cons, List.nodup_cons] at h
    have ih := keyAt_drop x y h.2
    unfold dropI
    by_cases hz : x = z
    · subst hz
      rw [if_pos rfl]
      by_cases hy : y = x
      · subst hy
        rw [if_pos rfl, keyAt_none h.1]
        rfl
      · rw [if_neg hy]
        simp only [keyAt, if_neg hy, Option.map_map]
        rfl
    · rw [if_neg hz]
      by_cases hy : y = z
      · subst hy
        simp [keyAt, Ne.symm hz]
      · simp only [keyAt, if_neg hy, Option.map_map]
        have e : ((fun p : Nat × α => p.2) ∘ fun p : Nat × α => (p.1 + 1, p.2)) = fun p => p.2 := rfl
        rw [e]
        exact ih
theorem readsI_drop {x : Int} : ∀ {l : List (Int × α)} {i : Nat} {u : α} {es : List MapEntry}, keyAt x l = some (i, u) → ReadsI enc es l → ReadsI enc (es.eraseIdx i) (dropI x l)
  | [], _, _, _, h, _ => by simp [keyAt] at h
  | (y, w) :: r, i, u, [], _, h => h.elim
  | (y, w) :: r, i, u, e :: es, h, hr => by
    obtain ⟨h1, h2, h3⟩ := hr
    unfold keyAt at h
    unfold dropI
    by_cases hx : x = y
    · rw [if_pos hx] at h ⊢
      injection h with h
      injection h with h4 h5
      subst h4
      exact h3
    · rw [if_neg hx] at h ⊢
      cases ha : keyAt x r with
      | none => rw [ha] at h; simp at h
      | some p =>
        rw [ha] at h
        simp at h
        obtain ⟨rfl, rfl⟩ := h
        exact ⟨h1, h2, readsI_drop (i := p.1) (u := p.2) ha h3⟩
theorem drop_none {x : Int} : ∀ {l : List (Int × α)}, keyAt x l = none → dropI x l = l
  | [], _ => rfl
  | (z, u) :: r, h => by
    unfold keyAt at h
    unfold dropI
    split at h
    · cases h
    · rename_i hz
      rw [if_neg hz, drop_none (by simpa using h)]

/-- Block g is a map that has, of each number, what B has. -/
def MapN (enc : α → Value) (w : World) (g : Nat) (B : Int → Option α) : Prop :=
  ∃ es clock l, w.heap[g]? = some (.map es clock) ∧ ReadsI enc es.toList l ∧ (l.map (·.1)).Nodup ∧ ∀ x, (keyAt x l).map (·.2) = B x
def elemOr (enc : α → Value) (z : Value) : Option α → Value
  | some v => enc v
  | none => z
theorem MapN.lt {B : Int → Option α} (h : MapN enc w g B) : g < w.heap.size := by
  obtain ⟨es, c, l, h1, _⟩ := h
  exact (Array.getElem?_eq_some_iff.1 h1).1
theorem MapN.new (w : World) : MapN enc (w.alloc (.map #[] 0)) w.heap.size (fun _ => none) := ⟨#[], 0, [], (MapKept.heap_alloc w _).1, trivial, by simp, fun _ => rfl⟩
theorem MapN.agree {w' : World} {B : Int → Option α} (h : MapN enc w g B) (ha : w'.heap[g]? = w.heap[g]?) : MapN enc w' g B := by
  obtain ⟨es, c, l, h1, h2⟩ := h
  exact ⟨es, c, l, ha.trans h1, h2⟩
theorem MapN.below {w' : World} {n : Nat} {B : Int → Option α} (h : MapN enc w g B) (hb : Below n w w') (hg : g < n) : MapN enc w' g B := h.agree (hb.block g hg)
theorem MapN.same {B B' : Int → Option α} (h : MapN enc w g B) (hB : ∀ x, B x = B' x) : MapN enc w g B' := by
  obtain ⟨es, c, l, h1, h2, h3, h4⟩ := h
  exact ⟨es, c, l, h1, h2, h3, fun x => (h4 x).trans (hB x)⟩
theorem MapN.lookup (hk : P.underlying k = some (.int .i64)) {t e : TypeId} {z : Value} (ht : P.underlying t = some (.map k e)) (hz : ∀ w, (zeroValue e).run P w = .ok z w) {B : Int → Option α} (h : MapN enc w g B) (x : Int) :
    (Instr.lookup t (.map (some g)) (.int .i64 x) true).run P w = .ok (.tuple #[elemOr enc z (B x), .bool (B x).isSome]) w := by
  obtain ⟨es, c, l, h1, h2, hn, h3⟩ := h
  have hf := find_keyI hk x w es.toList l h2
  have hB := h3 x
  unfold Instr.lookup
  simp only [Sem.run_bind, run_underlying ht, Result.andThen_ok, MapKept.run_getObj_map h1, Sem.run_pure, check_keyI hk, hf]
  cases ha : keyAt x l with
  | none =>
    rw [ha] at hB
    rw [← hB]
    simp [hz, elemOr]
  | some p =>
    rw [ha] at hB
    rw [← hB]
    simp [elemOr]
theorem MapN.update (hk : P.underlying k = some (.int .i64)) {t e : TypeId} (ht : P.underlying t = some (.map k e)) {B : Int → Option α} (h : MapN enc w g B) (x : Int) (v : α) :
    ∃ es c, (Instr.mapUpdate t (.map (some g)) (.int .i64 x) (enc v)).run P w = .ok () (ChangeMaps.setBlock w g (.map es c)) ∧ MapN enc (ChangeMaps.setBlock w g (.map es c)) g (fun y => if y = x then some v else B y) := by
  have hg := h.lt
  obtain ⟨es, c, l, h1, h2, hn, h3⟩ := h
  have hf := find_keyI hk x w es.toList l h2
  have hs : Instr.sameBits 10000 (.int .i64 x) (.int .i64 x) = true := by simp [Instr.sameBits]
  cases ha : keyAt x l with
  | none =>
    refine ⟨es.push ⟨.int .i64 x, enc v, c⟩, c + 1, ?_, ⟨es.push ⟨.int .i64 x, enc v, c⟩, c + 1, putI x v l, ?_, ?_, put_nodup hn, fun y => ?_⟩⟩
    · unfold Instr.mapUpdate
      simp only [Sem.run_bind, run_underlying ht, Result.andThen_ok, MapKept.run_getObj_map h1, check_keyI hk, hf, ha, Option.map_none]
      exact MapKept.run_setObj_map _ h1
    · unfold ChangeMaps.setBlock; simp [hg]
    · rw [Array.toList_push]; exact readsI_push ha h2
    · rw [keyAt_put, h3]
  | some p =>
    obtain ⟨i, u⟩ := p
    have hkey := keyAt_some ha h2
    refine ⟨es.modify i fun e => { e with key := .int .i64 x, val := enc v }, c, ?_, ⟨es.modify i fun e => { e with key := .int .i64 x, val := enc v }, c, putI x v l, ?_, ?_, put_nodup hn, fun y => ?_⟩⟩
    · unfold Instr.mapUpdate
      simp only [Sem.run_bind, run_underlying ht, Result.andThen_ok, MapKept.run_getObj_map h1, check_keyI hk, hf, ha, Option.map_some]
      have hk2 : ((es[i]?).map (·.key)).getD (.int .i64 x) = .int .i64 x := by
        rw [← Array.getElem?_toList, hkey]; rfl
      rw [hk2]
      unfold Instr.keyThatStays
      rw [hs]
      simp only [if_true, Sem.run_pure, Result.andThen_ok]
      exact MapKept.run_setObj_map _ h1
    · unfold ChangeMaps.setBlock; simp [hg]
    · rw [Array.toList_modify]; exact readsI_modify ha h2
    · rw [keyAt_put, h3]
theorem MapN.delete (hk : P.underlying k = some (.int .i64)) {t e : TypeId} (ht : P.underlying t = some (.map k e)) (ty : TypeId) {B : Int → Option α} (h : MapN enc w g B) (x : Int) :
    ∃ es c, (Builtin.delete_ #[t, k] ty #[.map (some g), .int .i64 x]).run P w = .ok (.tuple #[]) (ChangeMaps.setBlock w g (.map es c)) ∧ MapN enc (ChangeMaps.setBlock w g (.map es c)) g (fun y => if y = x then none else B y) := by
  have hg := h.lt
  obtain ⟨es, c, l, h1, h2, hn, h3⟩ := h
  have hf := find_keyI hk x w es.toList l h2
  cases ha : keyAt x l with
  | none =>
    refine ⟨es, c, ?_, ⟨es, c, dropI x l, ?_, by rw [drop_none ha]; exact h2, drop_nodup hn, fun y => by rw [keyAt_drop x y hn, h3]⟩⟩
    · unfold Builtin.delete_
      simp [run_underlying ht, Result.andThen, MapKept.run_getObj_map h1, check_keyI hk, hf, ha, MapKept.run_setObj_map _ h1]
      rfl
    · unfold ChangeMaps.setBlock; simp [hg]
  | some p =>
    obtain ⟨i, u⟩ := p
    refine ⟨es.eraseIdxIfInBounds i, c, ?_, ⟨es.eraseIdxIfInBounds i, c, dropI x l, ?_, ?_, drop_nodup hn, fun y => by rw [keyAt_drop x y hn, h3]⟩⟩
    · unfold Builtin.delete_
      simp [run_underlying ht, Result.andThen, MapKept.run_getObj_map h1, check_keyI hk, hf, ha, MapKept.run_setObj_map _ h1]
      rfl
    · unfold ChangeMaps.setBlock; simp [hg]
    · rw [Array.toList_eraseIdxIfInBounds]; exact readsI_drop ha h2
/-- delete(m, x), at the operation. -/
theorem wpList_deleteN {P : Program} {w : World} {ops : Array Oper} {rest : List Oper} {o : Oper} {a : Act} {Q : Exit → Act → World → Prop} (hg : o.guard = none) (m x : Operand) (t k : TypeId)
    (hop : o.op = Op.call { callee := Callee.builtin Builtin.delete, args := #[m, x], argTypes := #[t, k] }) (w' : World) (mv xv : Value) (hm : a.eval m = mv) (hx : a.eval x = xv)
    (hrun : (Builtin.delete_ #[t, k] o.type #[mv, xv]).run P w = .ok (.tuple #[]) w') (hK : wpList P ops Q rest (a.put o.dst (.tuple #[])) w') : wpList P ops Q (o :: rest) a w := by
  refine wpList_plain hg fun K' hK' => ?_
  unfold Oper.wp
  simp [execOp, hop, resolve, invoke, builtin, hm, hx, hrun, Result.andThen]
  exact hK' _ _ hK
end
end Go.Inq

namespace Go.Inq
open Go Go.RowKit
def It.key (x : It) : Value := .agg #[.int .i64 x.a, .int .i64 x.b]
/-- What is asked of the key's type: a struct, told apart by its two numbers. -/
structure PairKey (P : Program) (k : TypeId) : Prop where
  kind : ∃ fs, P.underlying k = some (.struct fs)
  check : ∀ (e : Bool) (x : It) (w : World), (Instr.checkKey e 10000 k x.key).run P w = .ok () w
  eq : ∀ (x y : It) (w : World), (Op.equal k x.key y.key).run P w = .ok (decide (x = y)) w
section
variable {P : Program} {k : TypeId} {α : Type} {enc : α → Value} {w : World} {g : Nat}

/-- The first entry with this key. -/
def atKey (x : It) : List (It × α) → Option (Nat × α)
  | [] => none
  | (y, v) :: r => if x = y then some (0, v) else (atKey x r).map fun p => (p.1 + 1, p.2)
/-- Entries that are these pairs. -/
def Reads (enc : α → Value) : List MapEntry → List (It × α) → Prop
  | [], [] => True
  | e :: es, (y, v) :: r => e.key = y.key ∧ e.val = enc v ∧ Reads enc es r
  | _, _ => False
theorem find_asking (K : PairKey P k) (x : It) (w : World) : ∀ (es : List MapEntry) (l : List (It × α)) (i : Nat), Reads enc es l →
    (Instr.findAsking k x.key es i).run P w = .ok ((atKey x l).map fun p => (i + p.1, enc p.2)) w
  | [], [], i, _ => by simp [Instr.findAsking, atKey]
  | e :: es, (y, v) :: r, i, h => by
    obtain ⟨h1, h2, h3⟩ := h
    unfold Instr.findAsking
    simp only [Sem.run_bind, h1, K.eq, Result.andThen_ok, atKey]
    by_cases hx : x = y
    · simp [hx, h2]
    · simp only [hx, decide_false, Bool.false_eq_true, if_false]
      rw [find_asking K x w es r (i + 1) h3]
      congr 1
      cases atKey x r with
      | none => rfl
      | some p => simp; omega
theorem find_key (K : PairKey P k) (x : It) (w : World) (es : List MapEntry) (l : List (It × α)) (h : Reads enc es l) : (Instr.findKey k x.key es).run P w = .ok ((atKey x l).map fun p => (p.1, enc p.2)) w := by
  obtain ⟨fs, hk⟩ := K.kind
  unfold Instr.findKey
  simp only [Sem.run_bind, run_underlying hk, Result.andThen_ok]
  cases es with
  | nil =>
    cases l with
    | nil => simp [Instr.findNow, atKey]
    | cons a r => exact h.elim
  | cons e es =>
    have : Instr.findNow (.struct fs) x.key (e :: es) 0 = none := by simp [Instr.findNow, Instr.sameNow]
    rw [this]
    have := find_asking K x w (e :: es) l 0 h
    simpa using this

/-- The entries with this one put. -/
def putL (x : It) (v : α) : List (It × α) → List (It × α)
  | [] => [(x, v)]
  | (y, u) :: r => if x = y then (x, v) :: r else (y, u) :: putL x v r
theorem atKey_put (x : It) (v : α) (y : It) : ∀ l : List (It × α), (atKey y (putL x v l)).map (·.2) = if y = x then some v else (atKey y l).map (·.2)
  | [] => by
    by_cases h : y = x <;> simp [putL, atKey, h]
  | (z, u) :: r => by
    have ih := atKey_put x v y r
    unfold putL
    by_cases hz : x = z
    · subst hz
      rw [if_pos rfl]
      by_cases hy : y = x
      · simp [atKey, hy]
      · simp [atKey, hy]
    · rw [if_neg hz]
      by_cases hy : y = z
      · subst hy
        simp [atKey, Ne.symm hz]
      · simp only [atKey, if_neg hy, Option.map_map]
        have e : ((fun p : Nat × α => p.2) ∘ fun p : Nat × α => (p.1 + 1, p.2)) = fun p => p.2 := rfl
        rw [e]
        exact ih
theorem atKey_some {x : It} : ∀ {l : List (It × α)} {i : Nat} {u : α} {es : List MapEntry}, atKey x l = some (i, u) → Reads enc es l → (es[i]?).map (·.key) = some x.key
  | [], _, _, _, h, _ => by simp [atKey] at h
  | (y, w) :: r, i, u, [], _, h => h.elim
  | (y, w) :: r, i, u, e :: es, h, hr => by
    obtain ⟨h1, h2, h3⟩ := hr
    unfold atKey at h
    by_cases hx : x = y
    · rw [if_pos hx] at h
      injection h with h
      injection h with h4 h5
      subst h4 hx
      simp [h1]
    · rw [if_neg hx] at h
      cases ha : atKey x r with
      | none => rw [ha] at h; simp at h
      | some p =>
        rw [ha] at h
        simp at h
        obtain ⟨rfl, rfl⟩ := h
        have := atKey_some (i := p.1) (u := p.2) ha h3
        simpa using this
theorem reads_modify {x : It} {v : α} : ∀ {l : List (It × α)} {i : Nat} {u : α} {es : List MapEntry}, atKey x l = some (i, u) → Reads enc es l →
    Reads enc (es.modify i fun e => { e with key := x.key, val := enc v }) (putL x v l)
  | [], _, _, _, h, _ => by simp [atKey] at h
  | (y, w) :: r, i, u, [], _, h => h.elim
  | (y, w) :: r, i, u, e :: es, h, hr => by
    obtain ⟨h1, h2, h3⟩ := hr
    unfold atKey at h
    unfold putL
    by_cases hx : x = y
    · rw [if_pos hx] at h ⊢
      injection h with h
      injection h with h4 h5
      subst h4
      rw [List.modify_zero_cons]
      exact ⟨rfl, rfl, h3⟩
    · rw [if_neg hx] at h ⊢
      cases ha : atKey x r with
      | none => rw [ha] at h; simp at h
      | some p =>
        rw [ha] at h
        simp at h
        obtain ⟨rfl, rfl⟩ := h
        rw [List.modify_succ_cons]
        exact ⟨h1, h2, reads_modify (i := p.1) (u := p.2) ha h3⟩
theorem reads_push {x : It} {v : α} {c : Nat} : ∀ {l : List (It × α)} {es : List MapEntry}, atKey x l = none → Reads enc es l → Reads enc (es ++ [⟨x.key, enc v, c⟩]) (putL x v l)
  | [], [], _, _ => ⟨rfl, rfl, trivial⟩
  | [], e :: es, _, h => h.elim
  | (y, w) :: r, [], _, h => h.elim
  | (y, w) :: r, e :: es, h, hr => by
    obtain ⟨h1, h2, h3⟩ := hr
    unfold atKey at h
    unfold putL
    by_cases hx : x = y
    · rw [if_pos hx] at h; cases h
    · rw [if_neg hx] at h ⊢
      exact ⟨h1, h2, reads_push (by simpa using h) h3⟩

/-- What a look-up hands back. -/
def valOr (enc : α → Value) (z : Value) : Option α → Value
  | some v => enc v
  | none => z
/-- Block g is a map that has, of each key, what B has. -/
def MapF (enc : α → Value) (w : World) (g : Nat) (B : It → Option α) : Prop :=
  ∃ es clock l, w.heap[g]? = some (.map es clock) ∧ Reads enc es.toList l ∧ ∀ x, (atKey x l).map (·.2) = B x
theorem MapF.lt {B : It → Option α} (h : MapF enc w g B) : g < w.heap.size := by
  obtain ⟨es, c, l, h1, _⟩ := h
  exact (Array.getElem?_eq_some_iff.1 h1).1
theorem MapF.new (w : World) : MapF enc (w.alloc (.map #[] 0)) w.heap.size (fun _ => none) := ⟨#[], 0, [], (MapKept.heap_alloc w _).1, trivial, fun _ => rfl⟩
theorem MapF.agree {w' : World} {B : It → Option α} (h : MapF enc w g B) (ha : w'.heap[g]? = w.heap[g]?) : MapF enc w' g B := by
  obtain ⟨es, c, l, h1, h2, h3⟩ := h
  exact ⟨es, c, l, ha.trans h1, h2, h3⟩
theorem MapF.below {w' : World} {n : Nat} {B : It → Option α} (h : MapF enc w g B) (hb : Below n w w') (hg : g < n) : MapF enc w' g B := h.agree (hb.block g hg)
theorem MapF.same {B B' : It → Option α} (h : MapF enc w g B) (hB : ∀ x, B x = B' x) : MapF enc w g B' := by
  obtain ⟨es, c, l, h1, h2, h3⟩ := h
  exact ⟨es, c, l, h1, h2, fun x => (h3 x).trans (hB x)⟩
theorem MapF.lookup (K : PairKey P k) {t e : TypeId} {z : Value} (ht : P.underlying t = some (.map k e)) (hz : ∀ w, (zeroValue e).run P w = .ok z w) {B : It → Option α} (h : MapF enc w g B) (x : It) :
    (Instr.lookup t (.map (some g)) x.key true).run P w = .ok (.tuple #[valOr enc z (B x), .bool (B x).isSome]) w := by
  obtain ⟨es, c, l, h1, h2, h3⟩ := h
  have hf := find_key K x w es.toList l h2
  have hB := h3 x
  unfold Instr.lookup
  simp only [Sem.run_bind, run_underlying ht, Result.andThen_ok, MapKept.run_getObj_map h1, Sem.run_pure, K.check, hf]
  cases ha : atKey x l with
  | none =>
    rw [ha] at hB
    rw [← hB]
    simp [hz, valOr]
  | some p =>
    rw [ha] at hB
    rw [← hB]
    simp [valOr]
theorem MapF.lookup1 (K : PairKey P k) {t e : TypeId} {z : Value} (ht : P.underlying t = some (.map k e)) (hz : ∀ w, (zeroValue e).run P w = .ok z w) {B : It → Option α} (h : MapF enc w g B) (x : It) :
    (Instr.lookup t (.map (some g)) x.key false).run P w = .ok (valOr enc z (B x)) w := by
  obtain ⟨es, c, l, h1, h2, h3⟩ := h
  have hf := find_key K x w es.toList l h2
  have hB := h3 x
  unfold Instr.lookup
  simp only [Sem.run_bind, run_underlying ht, Result.andThen_ok, MapKept.run_getObj_map h1, Sem.run_pure, K.check, hf]
  cases ha : atKey x l with
  | none =>
    rw [ha] at hB
    rw [← hB]
    simp [hz, valOr]
  | some p =>
    rw [ha] at hB
    rw [← hB]
    simp [valOr]
theorem MapF.update (K : PairKey P k) {t e : TypeId} (ht : P.underlying t = some (.map k e)) {B : It → Option α} (h : MapF enc w g B) (x : It) (v : α) :
    ∃ es c, (Instr.mapUpdate t (.map (some g)) x.key (enc v)).run P w = .ok () (ChangeMaps.setBlock w g (.map es c)) ∧ MapF enc (ChangeMaps.setBlock w g (.map es c)) g (fun y => if y = x then some v else B y) := by
  have hg := h.lt
  obtain ⟨es, c, l, h1, h2, h3⟩ := h
  have hf := find_key K x w es.toList l h2
  have hs : Instr.sameBits 10000 x.key x.key = true := by simp [It.key, Instr.sameBits]
  cases ha : atKey x l with
  | none =>
    refine ⟨es.push ⟨x.key, enc v, c⟩, c + 1, ?_, ⟨es.push ⟨x.key, enc v, c⟩, c + 1, putL x v l, ?_, ?_, fun y => ?_⟩⟩
    · unfold Instr.mapUpdate
      simp only [Sem.run_bind, run_underlying ht, Result.andThen_ok, MapKept.run_getObj_map h1, K.check, hf, ha, Option.map_none]
      exact MapKept.run_setObj_map _ h1
    · unfold ChangeMaps.setBlock; simp [hg]
    · rw [Array.toList_push]; exact reads_push ha h2
    · rw [atKey_put, h3]
  | some p =>
    obtain ⟨i, u⟩ := p
    have hk := atKey_some ha h2
    refine ⟨es.modify i fun e => { e with key := x.key, val := enc v }, c, ?_, ⟨es.modify i fun e => { e with key := x.key, val := enc v }, c, putL x v l, ?_, ?_, fun y => ?_⟩⟩
    · unfold Instr.mapUpdate
      simp only [Sem.run_bind, run_underlying ht, Result.andThen_ok, MapKept.run_getObj_map h1, K.check, hf, ha, Option.map_some]
      have hk2 : ((es[i]?).map (·.key)).getD x.key = x.key := by
        rw [← Array.getElem?_toList, hk]; rfl
      rw [hk2]
      unfold Instr.keyThatStays
      rw [hs]
      simp only [if_true, Sem.run_pure, Result.andThen_ok]
      exact MapKept.run_setObj_map _ h1
    · unfold ChangeMaps.setBlock; simp [hg]
    · rw [Array.toList_modify]; exact reads_modify ha h2
    · rw [atKey_put, h3]
end
end Go.Inq

namespace Go.Proofs.YtphcebgpllecjaaGreatDoor
open Go.RowKit Go.Inq
set_option maxHeartbeats 1000000
attribute [local go_sem ↓] Go.wp_at_zero Go.wp_at_succ

theorem mayT_bad {t : Tx} {i : Nat} (hi : i < t.ops.length) (h : mayE t.ops[i] = false) : mayT t = false := by
  unfold mayT
  rw [Bool.and_eq_false_iff]
  left
  rw [← Bool.not_eq_true, List.all_eq_true]
  intro hall
  rw [hall _ (List.getElem_mem hi)] at h
  cases h
theorem mayT_all {t : Tx} (h : ∀ i (hi : i < t.ops.length), mayE t.ops[i] = true) : mayT t = belowB t.sess 8 := by
  unfold mayT
  rw [List.all_eq_true.2 fun e he => by
    obtain ⟨j, hj, rfl⟩ := List.getElem_of_mem he
    exact h j hj]
  rfl

set_option maxRecDepth 100000 in
theorem rmay7_any (t : Tx) (A : Option Addr) (c : Nat) (w : World) (h : EvS w (Old w) (.slice A t.ops.length c) t.ops) (hn : t.ops.length ≤ 1000000) :
    Calls Tryz.prog 40 #[.agg #[.int .i64 t.sess, .bool t.done, .int .i64 t.first, .slice A t.ops.length c]] w fun e w' => e = .returned (.bool (mayT t)) ∧ Below w.heap.size w w' := by
  have hbad := hide (fun i hi => mayT_bad (t := t) (i := i) hi)
  have hgood := hide (mayT_all (t := t))
  obtain ⟨ts, td, tf, l⟩ := t
  dsimp only at *
  have hA : Below w.heap.size w (w.alloc (.cells #[.int .i64 ts, .bool td, .int .i64 tf, .slice A l.length c] 54)) := (Below.refl _ _).alloc (Nat.le_refl _) _
  have kA : Blk (w.alloc (.cells #[.int .i64 ts, .bool td, .int .i64 tf, .slice A l.length c] 54)) w.heap.size 54 _ := Blk.new _ _ _
  go_enter Tryz.func40, Tryz.ntmps40
  go_wp2_with fail
  generalize w.alloc (.cells #[.int .i64 ts, .bool td, .int .i64 tf, .slice A l.length c] 54) = W at *
  go_loopw [3, 4] (fun s3 _ wr => ∃ i : Nat, i ≤ l.length ∧ s3 = .int .i64 i ∧ Blk wr w.heap.size 54 #[.int .i64 ts, .bool td, .int .i64 tf, .slice A l.length c] ∧ Hid (∀ j (hj : j < l.length), j < i → mayE l[j] = true) ∧ Below w.heap.size w wr) (fun s3 _ _ => l.length - (intOf s3).toNat)
  case atStart => exact ⟨0, Nat.zero_le _, by go_num, kA, fun j _ h => absurd h (by omega), hA⟩
  case round =>
    obtain ⟨i, hi, rfl, kB, hall, hb⟩ := hrel
    clear kA hA
    have e3 := kB.cell 3
    simp only [List.getElem?_toArray, List.getElem?_cons_zero, List.getElem?_cons_succ] at e3
    have hi1 : (0 : Int) ≤ (i : Int) := Int.natCast_nonneg _
    by_cases hlt : i < l.length
    · have hw := EvS.below h hb
      obtain ⟨b, off, rfl, hbK, c0, c1, c2, c3⟩ := EvS.at_ hw hlt
      have hi2 : (i : Int) < (l.length : Int) := by omega
      have hbd := hide (hbad.out i hlt)
      have hok : mayE l[i] = true → ∀ j (hj : j < l.length), j < i + 1 → mayE l[j] = true := fun g j hj hji => by
        by_cases hje : j = i
        · subst hje; exact g
        · exact hall.out j hj (by omega)
      generalize l[i] = x at *
      have hr := rright_any x wr
      have hmay : mayE x = (x.right && itemB x.kind) := rfl
      rw [hmay] at hbd hok
      clear hmay hall
      go_wp2_with fail
      refine hr.mono ?_
      rintro e w2 ⟨rfl, hb2⟩
      have kC := kB.below hb2 kB.lt
      have hb3 := hb.trans (hb2.mono hb.size)
      have d0 := (hb2.cell (p := ⟨b, off + i * 4, none⟩) hbK).trans c0
      clear hb2 kB c0 c1 c2 c3 e3 hw
      have e3 := kC.cell 3
      simp only [List.getElem?_toArray, List.getElem?_cons_zero, List.getElem?_cons_succ] at e3
      cases hxr : x.right with
      | false =>
        have hb4 := hide (hbd.out (by rw [hxr]; rfl))
        clear hbd hok
        go_wp2
        go_ret
        exact ⟨by rw [hb4.out]; rfl, hb3⟩
      | true =>
        rw [hxr, Bool.true_and] at hbd hok
        by_cases h1 : x.kind = 1
        · have hx1 : (x.kind != 1) = false := by simpa using h1
          have hok2 := hide (hok (by rw [h1]; rfl))
          clear hbd hok h1
          go_wp2
          go_roundw
          case rel => exact ⟨i + 1, by omega, by go_num, kC, hok2, hb3⟩
          case measure => simp [intOf]; omega
        · have hx1 : (x.kind != 1) = true := by simpa using h1
          by_cases h2 : x.kind = 2
          · have hx2 : (x.kind != 2) = false := by simpa using h2
            have hok2 := hide (hok (by rw [h2]; rfl))
            clear hbd hok h1 h2
            go_wp2
            go_roundw
            case rel => exact ⟨i + 1, by omega, by go_num, kC, hok2, hb3⟩
            case measure => simp [intOf]; omega
          · have hx2 : (x.kind != 2) = true := by simpa using h2
            have hb4 := hide (hbd.out (by unfold itemB; simp [h1, h2]))
            clear hbd hok h1 h2
            go_wp2
            go_ret
            exact ⟨by rw [hb4.out]; rfl, hb3⟩
    · have : i = l.length := by omega
      subst this
      have hg := hide (hgood.out fun j hj => hall.out j hj hj)
      have e0 := kB.cell 0
      simp only [List.getElem?_toArray, List.getElem?_cons_zero, List.getElem?_cons_succ] at e0
      clear hgood hbad
      by_cases h0 : 0 ≤ ts
      · have g0 : decide (0 ≤ ts) = true := by simpa using h0
        go_wp2
        go_ret
        exact ⟨by rw [hg.out]; unfold belowB; rw [g0, Bool.true_and]; congr 3; simp; omega, hb⟩
      · have g0 : decide (0 ≤ ts) = false := by simpa using h0
        go_wp2
        go_ret
        exact ⟨by rw [hg.out]; unfold belowB; rw [g0, Bool.false_and]; rfl, hb⟩

theorem wr_hit {l : List Ev} {i : Nat} (hi : i < l.length) {x : It} (h : isW x l[i] = true) : wr l (i + 1) x = wr l i x + 1 := by rw [wr_step hi, if_pos h]
theorem wr_miss {l : List Ev} {i : Nat} (hi : i < l.length) {x : It} (h : isW x l[i] = false) : wr l (i + 1) x = wr l i x := by rw [wr_step hi, if_neg (by simp [h])]; rfl
set_option maxRecDepth 100000 in
theorem writes7_any (t : Tx) (A : Option Addr) (c : Nat) (m : Nat) (x : It) (w : World) (h : EvS w (Old w) (.slice A t.ops.length c) t.ops) (hm : m ≤ t.ops.length) (hn : t.ops.length ≤ 1000000) :
    Calls Tryz.prog 63 #[.agg #[.int .i64 t.sess, .bool t.done, .int .i64 t.first, .slice A t.ops.length c], .int .i64 m, .int .i64 x.a, .int .i64 x.b] w fun e w' => e = .returned (.int .i64 (wr t.ops m x)) ∧ Below w.heap.size w w' := by
  obtain ⟨ts, td, tf, l⟩ := t
  dsimp only at *
  have hA : Below w.heap.size w (w.alloc (.cells #[.int .i64 ts, .bool td, .int .i64 tf, .slice A l.length c] 54)) := (Below.refl _ _).alloc (Nat.le_refl _) _
  have kA : Blk (w.alloc (.cells #[.int .i64 ts, .bool td, .int .i64 tf, .slice A l.length c] 54)) w.heap.size 54 _ := Blk.new _ _ _
  have hle := hide (wr_le l · x)
  go_enter Tryz.func63, Tryz.ntmps63
  go_wp2_with fail
  generalize w.alloc (.cells #[.int .i64 ts, .bool td, .int .i64 tf, .slice A l.length c] 54) = W at *
  go_loopw [9, 10] (fun s9 s10 wr' => ∃ i : Nat, i ≤ m ∧ s10 = .int .i64 i ∧ s9 = .int .i64 (wr l i x) ∧ Blk wr' w.heap.size 54 #[.int .i64 ts, .bool td, .int .i64 tf, .slice A l.length c] ∧ Below w.heap.size w wr') (fun _ s10 _ => m - (intOf s10).toNat)
  case atStart => exact ⟨0, Nat.zero_le _, by go_num, by rw [wr_zero]; go_num, kA, hA⟩
  case round =>
    obtain ⟨i, hi, rfl, rfl, kB, hb⟩ := hrel
    clear kA hA
    have e3 := kB.cell 3
    simp only [List.getElem?_toArray, List.getElem?_cons_zero, List.getElem?_cons_succ] at e3
    have hi1 : (0 : Int) ≤ (i : Int) := Int.natCast_nonneg _
    by_cases hlt : i < m
    · have hw := EvS.below h hb
      have hlt2 : i < l.length := by omega
      obtain ⟨b, off, rfl, hbK, c0, c1, c2, c3⟩ := EvS.at_ hw hlt2
      have hi2 : (i : Int) < (l.length : Int) := by omega
      have hi3 : (i : Int) < (m : Int) := by omega
      have hq : Go.Inq.wr l i x ≤ 1000000 := by have := hle.out i; omega
      have hh := hide (wr_hit (x := x) hlt2)
      have hms := hide (wr_miss (x := x) hlt2)
      have hisw : isW x l[i] = (l[i].kind == 2 && l[i].key == x.a && l[i].val == x.b) := rfl
      rw [hisw] at hh hms
      clear hisw hw
      generalize l[i] = y at *
      generalize hwi : Go.Inq.wr l i x = n at *
      cases g1 : (y.kind == 2) with
      | false =>
        rw [g1] at hms
        have hs := hide (hms.out rfl)
        clear hh hms
        go_wp2
        go_roundw
        case rel => exact ⟨i + 1, by omega, by go_num, by rw [hs.out], kB, hb⟩
        case measure => simp [intOf]; omega
      | true =>
        rw [g1] at hms hh
        cases g2 : (y.key == x.a) with
        | false =>
          rw [g2] at hms
          have hs := hide (hms.out rfl)
          clear hh hms
          go_wp2
          go_roundw
          case rel => exact ⟨i + 1, by omega, by go_num, by rw [hs.out], kB, hb⟩
          case measure => simp [intOf]; omega
        | true =>
          rw [g2] at hms hh
          cases g3 : (y.val == x.b) with
          | false =>
            rw [g3] at hms
            have hs := hide (hms.out rfl)
            clear hh hms
            go_wp2
            go_roundw
            case rel => exact ⟨i + 1, by omega, by go_num, by rw [hs.out], kB, hb⟩
            case measure => simp [intOf]; omega
          | true =>
            rw [g3] at hh
            have hs := hide (hh.out rfl)
            clear hh hms
            go_wp2
            go_roundw
            case rel => exact ⟨i + 1, by omega, by go_num, by rw [hs.out]; go_num, kB, hb⟩
            case measure => simp [intOf]; omega
    · have : i = m := by omega
      subst this
      go_wp2
      go_ret
      exact ⟨rfl, hb⟩

set_option maxRecDepth 100000 in
theorem number7_any (l : List Tx) (A : Option Addr) (c : Nat) (n : Nat) (w : World) (h : TxS w (Old w) (.slice A l.length c) l) (hm : n ≤ l.length) (hn : l.length ≤ 1000000) :
    Calls Tryz.prog 86 #[.slice A l.length c, .int .i64 n] w fun e w' => e = .returned (.int .i64 (numR7 l n)) ∧ w = w' := by
  have hle := hide (num7_le l ·)
  go_enter Tryz.func86, Tryz.ntmps86
  go_wp2_with fail
  go_loop [5, 6] (fun s5 s6 => ∃ i : Nat, i ≤ n ∧ s6 = .int .i64 i ∧ s5 = .int .i64 (numR7 l i)) (fun _ s6 => n - (intOf s6).toNat)
  case atStart => exact ⟨0, Nat.zero_le _, by go_num, by go_num⟩
  case round =>
    obtain ⟨i, hi, rfl, rfl⟩ := hrel
    have hi1 : (0 : Int) ≤ (i : Int) := Int.natCast_nonneg _
    by_cases hlt : i < n
    · have hlt2 : i < l.length := by omega
      obtain ⟨b, off, A', c', rfl, hbK, c0, c1, c2, c3, -⟩ := TxS.at_ h hlt2
      have hi2 : (i : Int) < (l.length : Int) := by omega
      have hi3 : (i : Int) < (n : Int) := by omega
      have hq : numR7 l i ≤ 1000000 := by have := hle.out i; omega
      have hst := num7_step hlt2
      generalize l[i] = y at *
      generalize hwi : numR7 l i = k at *
      cases hd : y.done with
      | false =>
        rw [hd] at c1 hst
        replace hst := hide hst
        go_wp2
        go_round
        case rel => exact ⟨i + 1, by omega, by go_num, by rw [hst.out]; rfl⟩
        case measure => simp [intOf]; omega
      | true =>
        rw [hd] at c1 hst
        replace hst := hide hst
        go_wp2
        go_round
        case rel => exact ⟨i + 1, by omega, by go_num, by rw [hst.out]; go_num⟩
        case measure => simp [intOf]; omega
    · have : i = n := by omega
      subst this
      go_wp2
      go_ret
      exact ⟨rfl, rfl⟩
end Go.Proofs.YtphcebgpllecjaaGreatDoor
