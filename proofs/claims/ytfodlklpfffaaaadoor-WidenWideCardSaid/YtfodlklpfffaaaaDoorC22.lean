/-
  Walks: layer 30's reference: are two states alike?
-/
import Derived.Test.YtfodlklpfffaaaaDoorC14
import Derived.Test.YtfodlklpfffaaaaDoorC05
set_option linter.unusedVariables false
set_option linter.unusedSimpArgs false
namespace Go.Proofs.YtfodlklpfffaaaaDoor
open Go.RowKit Go.Inq
set_option maxHeartbeats 8000000
attribute [local go_sem ↓] Go.wp_at_zero Go.wp_at_succ

/-- A state that can be held against another one. -/
def FewWd (s : Wd) : Prop := s.path.length ≤ 1000000 ∧ s.left.length ≤ 1000000 ∧ ∀ l ∈ s.left, l.length ≤ 1000000
theorem wd_eq {s s' : Wd} (h1 : s.width = s'.width) (h2 : s.cut = s'.cut) (h3 : s.path = s'.path) (h4 : s.left = s'.left) : s = s' := by
  cases s; cases s'; simp only at h1 h2 h3 h4; subst h1 h2 h3 h4; rfl
set_option maxRecDepth 100000 in
theorem same30_any (s s' : Wd) (v v' : Value) (w : World) (hv : WdS w (Old w) v s) (hv' : WdS w (Old w) v' s') (hs : FewWd s) (hs' : FewWd s') :
    Calls Tryd.prog 8 #[v, v'] w fun e w' => e = .returned (.bool (decide (s = s'))) ∧ Below w.heap.size w w' := by
  obtain ⟨Ap, cp, Al, cl, rfl, hP, hL⟩ := hv.form
  obtain ⟨Ap', cp', Al', cl', rfl, hP', hL'⟩ := hv'.form
  obtain ⟨hs1, hs2, hs3⟩ := hs
  obtain ⟨hs1', hs2', hs3'⟩ := hs'
  clear hv hv'
  obtain ⟨W0, hW0⟩ : ∃ W0, (w.alloc (.cells #[.int .i64 s.width, .bool s.cut, .slice Ap s.path.length cp, .slice Al s.left.length cl] 39)).alloc (.cells #[.int .i64 s'.width, .bool s'.cut, .slice Ap' s'.path.length cp', .slice Al' s'.left.length cl'] 39) = W0 := ⟨_, rfl⟩
  have hb := below_two hW0
  have k1 := Blk.two1 hW0
  have k2 := Blk.two2 hW0
  have hP0 := hP.below hb
  have hP0' := hP'.below hb
  have hL0 := hL.below hb
  have hL0' := hL'.below hb
  clear hP hP' hL hL'
  have e0 := k1.cell 0
  have e1 := k1.cell 1
  have e2 := k1.cell 2
  have e3 := k1.cell 3
  have d0 := k2.cell 0
  have d1 := k2.cell 1
  have d2 := k2.cell 2
  have d3 := k2.cell 3
  simp only [List.getElem?_toArray, List.getElem?_cons_zero, List.getElem?_cons_succ] at e0 e1 e2 e3 d0 d1 d2 d3
  replace hs3 := hide hs3
  replace hs3' := hide hs3'
  replace hL0 := hide hL0
  replace hL0' := hide hL0'
  go_enter Tryd.func8, Tryd.ntmps8
  go_wp2_with fail
  clear hW0 e0 e1 e2 e3 d0 d1 d2 d3
  refine (ints_any Ap Ap' cp cp' s.path s'.path W0 hP0 hP0' hs1 hs1').mono ?_
  rintro e W1 ⟨rfl, hb1⟩
  replace k1 := k1.below hb1 k1.lt
  replace k2 := k2.below hb1 k2.lt
  replace hb := hb.trans (hb1.mono hb.size)
  replace hL0 := hide (hL0.out.below hb1)
  replace hL0' := hide (hL0'.out.below hb1)
  clear hP0 hP0' hb1
  have e0 := k1.cell 0
  have e1 := k1.cell 1
  have e3 := k1.cell 3
  have d0 := k2.cell 0
  have d1 := k2.cell 1
  have d3 := k2.cell 3
  simp only [List.getElem?_toArray, List.getElem?_cons_zero, List.getElem?_cons_succ] at e0 e1 e3 d0 d1 d3
  have hne : Hid (s ≠ s' → decide (s = s') = false) := hide fun h => by simpa using h
  have hyes := hide (wd_eq (s := s) (s' := s'))
  have hpp : Hid (decide (s.path = s'.path) = true ↔ s.path = s'.path) := hide (by simp)
  generalize decide (s.path = s'.path) = pb at *
  go_upto_region 2 with fail
  go_cut [37] (fun s37 wz => ∃ bb : Bool, s37 = .bool bb ∧ Hid (bb = true → s ≠ s') ∧ Hid (bb = false → s.width = s'.width ∧ s.cut = s'.cut ∧ s.path = s'.path ∧ s.left.length = s'.left.length) ∧ W1 = wz)
  case first =>
    by_cases q1 : s.width = s'.width
    rotate_left
    · have hr : Hid (s = s' → False) := hide (fun e : s = s' => q1 (by rw [e]))
      have q1b : (s.width != s'.width) = true := by simpa using q1
      clear q1
      go_wp2
      go_meet
      exact ⟨true, rfl, hide (fun _ e => hr.out e), hide (fun h => by cases h), rfl⟩
    have q1b : (s.width != s'.width) = false := by simpa using q1
    rcases Bool.eq_false_or_eq_true s.cut with hc1 | hc1 <;> rcases Bool.eq_false_or_eq_true s'.cut with hc2 | hc2
    all_goals
      rw [hc1] at e1
      rw [hc2] at d1
    rotate_left
    · have hr : Hid (s = s' → False) := hide (fun e : s = s' => by rw [e, hc2] at hc1; cases hc1)
      clear q1 hc1 hc2
      go_wp2
      go_meet
      exact ⟨true, rfl, hide (fun _ e => hr.out e), hide (fun h => by cases h), rfl⟩
    · have hr : Hid (s = s' → False) := hide (fun e : s = s' => by rw [e, hc2] at hc1; cases hc1)
      clear q1 hc1 hc2
      go_wp2
      go_meet
      exact ⟨true, rfl, hide (fun _ e => hr.out e), hide (fun h => by cases h), rfl⟩
    all_goals
      have hc := hide (hc1.trans hc2.symm)
      clear hc1 hc2
      cases pb with
      | false =>
        have hr : Hid (s = s' → False) := hide (fun e : s = s' => by have := hpp.out.2 (by rw [e]); cases this)
        clear q1 hpp
        go_wp2
        go_meet
        exact ⟨true, rfl, hide (fun _ e => by cases hr.out e), hide (fun h => by cases h), rfl⟩
      | true =>
        by_cases q4 : s.left.length = s'.left.length
        · have q4b : ((s.left.length : Int) != (s'.left.length : Int)) = false := by simp; omega
          have q4c : (s.left.length != s'.left.length) = false := by simpa using q4
          have hall4 := hide (And.intro q1 (And.intro hc.out (And.intro (hpp.out.1 rfl) q4)))
          clear q1 q4 hc hpp
          go_wp2
          go_meet
          exact ⟨false, rfl, hide (fun h => by cases h), hide (fun _ => hall4.out), rfl⟩
        · have hr : Hid (s = s' → False) := hide (fun e : s = s' => q4 (by rw [e]))
          have q4b : ((s.left.length : Int) != (s'.left.length : Int)) = true := by simp; omega
          have q4c : (s.left.length != s'.left.length) = true := by simpa using q4
          clear q1 q4 hc hpp
          go_wp2
          go_meet
          exact ⟨true, rfl, hide (fun _ e => hr.out e), hide (fun h => by cases h), rfl⟩
  case rest =>
  obtain ⟨bb, rfl, hb1, hb2, rfl⟩ := hcut
  cases bb with
  | true =>
    have hr := hide (hne.out (hb1.out rfl))
    go_wp2
    go_ret
    exact ⟨by rw [hr.out]; rfl, hb⟩
  | false =>
    obtain ⟨q1, q2, q3, q4⟩ := hb2.out rfl
    replace hyes := hide (hyes.out q1 q2 q3)
    clear q1 q2 q3 hpp hb1 hb2
    have q5 : s'.left.length ≤ s.left.length := by omega
    have q6 : s.left.length ≤ s'.left.length := by omega
    have hyes2 : Hid ((∀ j (hj : j < s.left.length) (hj' : j < s'.left.length), s.left[j] = s'.left[j]) → decide (s = s') = true) := hide (fun h => by
      simp only [decide_eq_true_eq]
      exact hyes.out (List.ext_getElem q4 h))
    clear q4 hyes
    clear e0 e1 e3 d0 d1 d3
    have e3 := k1.cell 3
    have d3 := k2.cell 3
    have e0 := k1.cell 0
    have e1 := k1.cell 1
    have d0 := k2.cell 0
    have d1 := k2.cell 1
    simp only [List.getElem?_toArray, List.getElem?_cons_zero, List.getElem?_cons_succ] at e0 e1 e3 d0 d1 d3
    replace hb := hide hb
    go_upto_region 5 with fail
    go_loopw [6] (fun s6 wr => ∃ i : Nat, i ≤ s.left.length ∧ s6 = .int .i64 i ∧ Hid (∀ j (hj : j < s.left.length) (hj' : j < s'.left.length), j < i → s.left[j] = s'.left[j]) ∧ Below W1.heap.size W1 wr) (fun s6 _ => s.left.length - (intOf s6).toNat)
    case atStart => exact ⟨0, Nat.zero_le _, by go_num, fun j _ _ h => absurd h (by omega), Below.refl _ _⟩
    case round =>
      obtain ⟨i, hi, rfl, hall, hbr⟩ := hrel
      obtain ⟨Wr, rfl⟩ : ∃ Wr, Wr = wr := ⟨_, rfl⟩
      have hi1 : (0 : Int) ≤ (i : Int) := Int.natCast_nonneg _
      have m1 := k1.below hbr k1.lt
      have m2 := k2.below hbr k2.lt
      have hLr := hide (hL0.out.below hbr)
      have hLr' := hide (hL0'.out.below hbr)
      clear e3 d3 e0 e1 d0 d1
      have e3 := m1.cell 3
      have d3 := m2.cell 3
      simp only [List.getElem?_toArray, List.getElem?_cons_zero, List.getElem?_cons_succ] at e3 d3
      by_cases hlt : i < s.left.length
      · have hlt' : i < s'.left.length := by omega
        have hi2 : (i : Int) < (s.left.length : Int) := by omega
        have hi3 : (i : Int) < (s'.left.length : Int) := by omega
        obtain ⟨b, off, A1, c1, rfl, -, x1, hI⟩ := hLr.out.at_ hlt
        obtain ⟨b', off', A2, c2, rfl, -, x2, hI'⟩ := hLr'.out.at_ hlt'
        have hg1 := hs3.out _ (List.getElem_mem hlt)
        have hg2 := hs3'.out _ (List.getElem_mem hlt')
        have hne2 : Hid (s.left[i] ≠ s'.left[i] → decide (s = s') = false) := hide (fun h => hne.out fun e => h (by subst e; rfl))
        have hstp : Hid (s.left[i] = s'.left[i] → ∀ j (hj : j < s.left.length) (hj' : j < s'.left.length), j < i + 1 → s.left[j] = s'.left[j]) := hide (fun e j hj hj' hlt => by
          by_cases h : j = i
          · subst h; exact e
          · exact hall j hj hj' (by omega))
        generalize s.left[i] = l1 at *
        generalize s'.left[i] = l2 at *
        have hI0 := hide (hI.keep (w' := Wr.drew) (K' := Old Wr.drew) (Agree.drew _ _) (fun _ h => h))
        have hI0' := hide (hI'.keep (w' := Wr.drew) (K' := Old Wr.drew) (Agree.drew _ _) (fun _ h => h))
        clear hLr hLr' hI hI'
        replace hall := hide hall
        go_upto_region 7 with fail
        refine wp_region_plan [0, 1, 2, 3, 4, 5, 6, 7, 8, 9] [10, 11] (by kernel_rfl) (by kernel_rfl) (fun _ _ d _ _ h => by cases d <;> exact h) ?_
        simp only [List.filterMap_cons, List.filterMap_nil, List.getElem?_cons_zero, List.getElem?_cons_succ]
        repeat still_step
        refine wpStill_nil ?_
        go_wp2_with fail
        refine (ints_any A1 A2 c1 c2 l1 l2 _ hI0.out hI0'.out hg1 hg2).mono ?_
        rintro e W2 ⟨rfl, hb2⟩
        have hbr2 := hbr.drew.trans (hb2.mono (show W1.heap.size ≤ Wr.drew.heap.size from hbr.size))
        by_cases he : l1 = l2
        · have hd : decide (l1 = l2) = true := by simpa using he
          have hs2 := hide (hstp.out he)
          clear he
          rw [hd]
          go_wp2
          go_roundw
          case rel => exact ⟨i + 1, by omega, by go_num, hs2.out, hbr2⟩
          case measure => simp [intOf]; omega
        · have hd : decide (l1 = l2) = false := by simpa using he
          have hr := hide (hne2.out he)
          clear he
          rw [hd]
          go_wp2
          go_ret
          exact ⟨by rw [hr.out]; rfl, hb.out.trans (hbr2.mono hb.out.size)⟩
      · have hr := hide (hyes2.out fun j hj hj' => hall j hj hj' (by omega))
        replace hall := hide hall
        go_wp2
        go_ret
        exact ⟨by rw [hr.out]; rfl, hb.out.trans (hbr.mono hb.out.size)⟩
end Go.Proofs.YtfodlklpfffaaaaDoor
