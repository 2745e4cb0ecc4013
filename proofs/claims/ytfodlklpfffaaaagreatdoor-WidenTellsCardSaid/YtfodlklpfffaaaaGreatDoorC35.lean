/-
  Walks: layer 30's reference: are two states alike?
-/
import Derived.Test.YtfodlklpfffaaaaGreatDoorProg
import Derived.Test.YtfodlklpfffaaaaGreatDoorC31
import Derived.Test.YtfodlklpfffaaaaGreatDoorC02
import Derived.Test.YtfodlklpfffaaaaGreatDoorC08
import Derived.Test.YtfodlklpfffaaaaGreatDoorC03
import Derived.Test.YtfodlklpfffaaaaGreatDoorC16
set_option linter.unusedVariables false
set_option linter.unusedSimpArgs false
namespace Go.Proofs.YtfodlklpfffaaaaGreatDoor
open Go.RowKit Go.Inq
set_option maxHeartbeats 8000000
attribute [local go_sem ↓] Go.wp_at_zero Go.wp_at_succ

/-- A state that can be held against another one. -/
def FewWd (s : Wd) : Prop := s.path.length ≤ 1000000 ∧ s.left.length ≤ 1000000 ∧ ∀ l ∈ s.left, l.length ≤ 1000000
theorem wd_eq {s s' : Wd} (h1 : s.width = s'.width) (h2 : s.cut = s'.cut) (h3 : s.path = s'.path) (h4 : s.left = s'.left) : s = s' := by
  cases s; cases s'; simp only at h1 h2 h3 h4; subst h1 h2 h3 h4; rfl
set_option maxRecDepth 100000 in
theorem same30_any (s s' : Wd) (v v' : Value) (w : World) (hv : WdS w (Old w) v s) (hv' : WdS w (Old w) v' s') (hs : FewWd s) (hs' : FewWd s') :
    Calls Tryz.prog 11 #[v, v'] w fun e w' => e = .returned (.bool (decide (s = s'))) ∧ Below w.heap.size w w' := by
  obtain ⟨Ap, cp, Al, cl, rfl, hP, hL⟩ := hv.form
  obtain ⟨Ap', cp', Al', cl', rfl, hP', hL'⟩ := hv'.form
  obtain ⟨hs1, hs2, hs3⟩ := hs
  obtain ⟨hs1', hs2', hs3'⟩ := hs'
  clear hv hv'
  obtain ⟨W0, hW0⟩ : ∃ W0, (w.alloc (.cells #[.int .i64 s.width, .bool s.cut, .slice Ap s.path.length cp, .slice Al s.left.length cl] 32)).alloc (.cells #[.int .i64 s'.width, .bool s'.cut, .slice Ap' s'.path.length cp', .slice Al' s'.left.length cl'] 32) = W0 := ⟨_, rfl⟩
  have hb := below_two hW0
  have k1 := Blk.two1 hW0
  have k2 := Blk.two2 hW0
  have hP0 := hP.below hb
  have hP0' := hP'.below hb
  have hL0 := hL.below hb
  have hL0' := hL'.below hb
  clear hP hP' hL hL'
  have e0 := k1.cell 0
  have e1 := k1.cell 1
  have e2 := k1.cell 2
  have e3 := k1.cell 3
  have d0 := k2.cell 0
  have d1 := k2.cell 1
  have d2 := k2.cell 2
  have d3 := k2.cell 3
  simp only [List.getElem?_toArray, List.getElem?_cons_zero, List.getElem?_cons_succ] at e0 e1 e2 e3 d0 d1 d2 d3
  replace hs3 := hide hs3
  replace hs3' := hide hs3'
  replace hL0 := hide hL0
  replace hL0' := hide hL0'
  go_enter Tryz.func11, Tryz.ntmps11
  go_wp2_with fail
  clear hW0 e0 e1 e2 e3 d0 d1 d2 d3
  refine (ints_any Ap Ap' cp cp' s.path s'.path W0 hP0 hP0' hs1 hs1').mono ?_
  rintro e W1 ⟨rfl, hb1⟩
  replace k1 := k1.below hb1 k1.lt
  replace k2 := k2.below hb1 k2.lt
  replace hb := hb.trans (hb1.mono hb.size)
  replace hL0 := hide (hL0.out.below hb1)
  replace hL0' := hide (hL0'.out.below hb1)
  clear hP0 hP0' hb1
  have e0 := k1.cell 0
  have e1 := k1.cell 1
  have e3 := k1.cell 3
  have d0 := k2.cell 0
  have d1 := k2.cell 1
  have d3 := k2.cell 3
  simp only [List.getElem?_toArray, List.getElem?_cons_zero, List.getElem?_cons_succ] at e0 e1 e3 d0 d1 d3
  have hne : Hid (s ≠ s' → decide (s = s') = false) := hide fun h => by simpa using h
  have hyes := hide (wd_eq (s := s) (s' := s'))
  have hpp : Hid (decide (s.path = s'.path) = true ↔ s.path = s'.path) := hide (by simp)
  generalize decide (s.path = s'.path) = pb at *
  go_upto_region 2 with fail
  go_cut [37] (fun s37 wz => ∃ bb : Bool, s37 = .bool bb ∧ Hid (bb = true → s ≠ s') ∧ Hid (bb = false → s.width = s'.width ∧ s.cut = s'.cut ∧ s.path = s'.path ∧ s.left.length = s'.left.length) ∧ W1 = wz)
  case first =>
    by_cases q1 : s.width = s'.width
    rotate_left
    · have hr : Hid (s = s' → False) := hide (fun e : s = s' => q1 (by rw [e]))
      have q1b : (s.width != s'.width) = true := by simpa using q1
      clear q1
      go_wp2
      go_meet
      exact ⟨true, rfl, hide (fun _ e => hr.out e), hide (fun h => by cases h), rfl⟩
    have q1b : (s.width != s'.width) = false := by simpa using q1
    rcases Bool.eq_false_or_eq_true s.cut with hc1 | hc1 <;> rcases Bool.eq_false_or_eq_true s'.cut with hc2 | hc2
    all_goals
      rw [hc1] at e1
      rw [hc2] at d1
    rotate_left
    · have hr : Hid (s = s' → False) := hide (fun e : s = s' => by rw [e, hc2] at hc1; cases hc1)
      clear q1 hc1 hc2
      go_wp2
      go_meet
      exact ⟨true, rfl, hide (fun _ e => hr.out e), hide (fun h => by cases h), rfl⟩
    · have hr : Hid (s = s' → False) := hide (fun e : s = s' => by rw [e, hc2] at hc1; cases hc1)
      clear q1 hc1 hc2
      go_wp2
      go_meet
      exact ⟨true, rfl, hide (fun _ e => hr.out e), hide (fun h => by cases h), rfl⟩
    all_goals
      have hc := hide (hc1.trans hc2.symm)
      clear hc1 hc2
      cases pb with
      | false =>
        have hr : Hid (s = s' → False) := hide (fun e : s = s' => by have := hpp.out.2 (by rw [e]); cases this)
        clear q1 hpp
        go_wp2
        go_meet
        exact ⟨true, rfl, hide (fun _ e => by cases hr.out e), hide (fun h => by cases h), rfl⟩
      | true =>
        by_cases q4 : s.left.length = s'.left.length
        · have q4b : ((s.left.length : Int) != (s'.left.length : Int)) = false := by simp; omega
          have q4c : (s.left.length != s'.left.length) = false := by simpa using q4
          have hall4 := hide (And.intro q1 (And.intro hc.out (And.intro (hpp.out.1 rfl) q4)))
          clear q1 q4 hc hpp
          go_wp2
          go_meet
          exact ⟨false, rfl, hide (fun h => by cases h), hide (fun _ => hall4.out), rfl⟩
        · have hr : Hid (s = s' → False) := hide (fun e : s = s' => q4 (by rw [e]))
          have q4b : ((s.left.length : Int) != (s'.left.length : Int)) = true := by simp; omega
          have q4c : (s.left.length != s'.left.length) = true := by simpa using q4
          clear q1 q4 hc hpp
          go_wp2
          go_meet
          exact ⟨true, rfl, hide (fun _ e => hr.out e), hide (fun h => by cases h), rfl⟩
  case rest =>
  obtain ⟨bb, rfl, hb1, hb2, rfl⟩ := hcut
  cases bb with
  | true =>
    have hr := hide (hne.out (hb1.out rfl))
    go_wp2
    go_ret
    exact ⟨by rw [hr.out]; rfl, hb⟩
  | false =>
    obtain ⟨q1, q2, q3, q4⟩ := hb2.out rfl
    replace hyes := hide (hyes.out q1 q2 q3)
    clear q1 q2 q3 hpp hb1 hb2
    have q5 : s'.left.length ≤ s.left.length := by omega
    have q6 : s.left.length ≤ s'.left.length := by omega
    have hyes2 : Hid ((∀ j (hj : j < s.left.length) (hj' : j < s'.left.length), s.left[j] = s'.left[j]) → decide (s = s') = true) := hide (fun h => by
      simp only [decide_eq_true_eq]
      exact hyes.out (List.ext_getElem q4 h))
    clear q4 hyes
    clear e0 e1 e3 d0 d1 d3
    have e3 := k1.cell 3
    have d3 := k2.cell 3
    have e0 := k1.cell 0
    have e1 := k1.cell 1
    have d0 := k2.cell 0
    have d1 := k2.cell 1
    simp only [List.getElem?_toArray, List.getElem?_cons_zero, List.getElem?_cons_succ] at e0 e1 e3 d0 d1 d3
    replace hb := hide hb
    go_upto_region 5 with fail
    go_loopw [6] (fun s6 wr => ∃ i : Nat, i ≤ s.left.length ∧ s6 = .int .i64 i ∧ Hid (∀ j (hj : j < s.left.length) (hj' : j < s'.left.length), j < i → s.left[j] = s'.left[j]) ∧ Below W1.heap.size W1 wr) (fun s6 _ => s.left.length - (intOf s6).toNat)
    case atStart => exact ⟨0, Nat.zero_le _, by go_num, fun j _ _ h => absurd h (by omega), Below.refl _ _⟩
    case round =>
      obtain ⟨i, hi, rfl, hall, hbr⟩ := hrel
      obtain ⟨Wr, rfl⟩ : ∃ Wr, Wr = wr := ⟨_, rfl⟩
      have hi1 : (0 : Int) ≤ (i : Int) := Int.natCast_nonneg _
      have m1 := k1.below hbr k1.lt
      have m2 := k2.below hbr k2.lt
      have hLr := hide (hL0.out.below hbr)
      have hLr' := hide (hL0'.out.below hbr)
      clear e3 d3 e0 e1 d0 d1
      have e3 := m1.cell 3
      have d3 := m2.cell 3
      simp only [List.getElem?_toArray, List.getElem?_cons_zero, List.getElem?_cons_succ] at e3 d3
      by_cases hlt : i < s.left.length
      · have hlt' : i < s'.left.length := by omega
        have hi2 : (i : Int) < (s.left.length : Int) := by omega
        have hi3 : (i : Int) < (s'.left.length : Int) := by omega
        obtain ⟨b, off, A1, c1, rfl, -, x1, hI⟩ := hLr.out.at_ hlt
        obtain ⟨b', off', A2, c2, rfl, -, x2, hI'⟩ := hLr'.out.at_ hlt'
        have hg1 := hs3.out _ (List.getElem_mem hlt)
        have hg2 := hs3'.out _ (List.getElem_mem hlt')
        have hne2 : Hid (s.left[i] ≠ s'.left[i] → decide (s = s') = false) := hide (fun h => hne.out fun e => h (by subst e; rfl))
        have hstp : Hid (s.left[i] = s'.left[i] → ∀ j (hj : j < s.left.length) (hj' : j < s'.left.length), j < i + 1 → s.left[j] = s'.left[j]) := hide (fun e j hj hj' hlt => by
          by_cases h : j = i
          · subst h; exact e
          · exact hall j hj hj' (by omega))
        generalize s.left[i] = l1 at *
        generalize s'.left[i] = l2 at *
        have hI0 := hide (hI.keep (w' := Wr.drew) (K' := Old Wr.drew) (Agree.drew _ _) (fun _ h => h))
        have hI0' := hide (hI'.keep (w' := Wr.drew) (K' := Old Wr.drew) (Agree.drew _ _) (fun _ h => h))
        clear hLr hLr' hI hI'
        replace hall := hide hall
        go_upto_region 7 with fail
        refine wp_region_plan [0, 1, 2, 3, 4, 5, 6, 7, 8, 9] [10, 11] (by kernel_rfl) (by kernel_rfl) (fun _ _ d _ _ h => by cases d <;> exact h) ?_
        simp only [List.filterMap_cons, List.filterMap_nil, List.getElem?_cons_zero, List.getElem?_cons_succ]
        repeat still_step
        refine wpStill_nil ?_
        go_wp2_with fail
        refine (ints_any A1 A2 c1 c2 l1 l2 _ hI0.out hI0'.out hg1 hg2).mono ?_
        rintro e W2 ⟨rfl, hb2⟩
        have hbr2 := hbr.drew.trans (hb2.mono (show W1.heap.size ≤ Wr.drew.heap.size from hbr.size))
        by_cases he : l1 = l2
        · have hd : decide (l1 = l2) = true := by simpa using he
          have hs2 := hide (hstp.out he)
          clear he
          rw [hd]
          go_wp2
          go_roundw
          case rel => exact ⟨i + 1, by omega, by go_num, hs2.out, hbr2⟩
          case measure => simp [intOf]; omega
        · have hd : decide (l1 = l2) = false := by simpa using he
          have hr := hide (hne2.out he)
          clear he
          rw [hd]
          go_wp2
          go_ret
          exact ⟨by rw [hr.out]; rfl, hb.out.trans (hbr2.mono hb.out.size)⟩
      · have hr := hide (hyes2.out fun j hj hj' => hall j hj hj' (by omega))
        replace hall := hide hall
        go_wp2
        go_ret
        exact ⟨by rw [hr.out]; rfl, hb.out.trans (hbr.mono hb.out.size)⟩
end Go.Proofs.YtfodlklpfffaaaaGreatDoor

namespace Go.Proofs.YtfodlklpfffaaaaGreatDoor
open Go.RowKit Go.Inq
set_option maxHeartbeats 8000000
attribute [local go_sem ↓] Go.wp_at_zero Go.wp_at_succ

theorem rsame24_nil (w : World) : Calls Tryz.prog 34 #[.slice none 0 0, .slice none 0 0] w fun e w' => e = .returned (.bool true) ∧ w = w' := by
  go_enter Tryz.func34, Tryz.ntmps34
  go_wp2_with fail
  go_loop [5] (fun s5 => s5 = .int .i64 0) (fun _ => 0)
  case atStart => rfl
  case round =>
    subst hrel
    go_wp2
    go_ret
    exact ⟨rfl, rfl⟩
theorem rsame23_nil (w : World) : Calls Tryz.prog 35 #[.slice none 0 0, .slice none 0 0] w fun e w' => e = .returned (.bool true) ∧ w = w' := by
  go_enter Tryz.func35, Tryz.ntmps35
  go_wp2_with fail
  go_loop [5] (fun s5 => s5 = .int .i64 0) (fun _ => 0)
  case atStart => rfl
  case round =>
    subst hrel
    go_wp2
    go_ret
    exact ⟨rfl, rfl⟩
set_option maxRecDepth 100000 in
theorem rsame28_any (said said' : Int) (A A' : Option Addr) (c c' : Nat) (l l' : List Int) (w : World) (h : IntS w (Old w) (.slice A l.length c) l) (h' : IntS w (Old w) (.slice A' l'.length c') l') (hn : l.length ≤ 1000000) (hn' : l'.length ≤ 1000000) :
    Calls Tryz.prog 13 #[.agg #[.int .i64 said, .slice A l.length c, .slice none 0 0, .slice none 0 0], .agg #[.int .i64 said', .slice A' l'.length c', .slice none 0 0, .slice none 0 0]] w
      fun e w' => e = .returned (.bool (said == said' && decide (l = l'))) ∧ Below w.heap.size w w' := by
  obtain ⟨W0, hW0⟩ : ∃ W0, (w.alloc (.cells #[.int .i64 said, .slice A l.length c, .slice none 0 0, .slice none 0 0] 43)).alloc (.cells #[.int .i64 said', .slice A' l'.length c', .slice none 0 0, .slice none 0 0] 43) = W0 := ⟨_, rfl⟩
  have hb := below_two hW0
  have k0 := Blk.two1 hW0
  have k1 := Blk.two2 hW0
  have hc := hide (ints_any A A' c c' l l' W0 (h.below hb) (h'.below hb) hn hn')
  have a1 := k0.cell 1
  have b1 := k1.cell 1
  simp only [List.getElem?_toArray, List.getElem?_cons_zero, List.getElem?_cons_succ] at a1 b1
  clear h h'
  generalize decide (l = l') = q at *
  generalize hs : (said == said') = sb
  replace hs := hide hs
  go_enter Tryz.func13, Tryz.ntmps13
  go_wp2_with fail
  clear hW0
  refine hc.out.mono ?_
  rintro e w1 ⟨rfl, hb1⟩
  have m0 := k0.below hb1 k0.lt
  have m1 := k1.below hb1 k1.lt
  have hz := hb.trans (hb1.mono hb.size)
  clear hc a1 b1 k0 k1 hb1 hb
  have a0 := m0.cell 0
  have b0 := m1.cell 0
  have a2 := m0.cell 2
  have b2 := m1.cell 2
  have a3 := m0.cell 3
  have b3 := m1.cell 3
  simp only [List.getElem?_toArray, List.getElem?_cons_zero, List.getElem?_cons_succ] at a0 b0 a2 b2 a3 b3
  go_wp2_with fail
  refine (rsame24_nil w1).mono ?_
  rintro e w2 ⟨rfl, rfl⟩
  go_wp2_with fail
  refine (rsame23_nil w1).mono ?_
  rintro e w2 ⟨rfl, rfl⟩
  have hs := hs.out
  cases sb <;> cases q
  all_goals
    go_wp2
    go_ret
    exact ⟨rfl, hz⟩
set_option maxRecDepth 100000 in
theorem plainO30_any (said : Int) (A : Option Addr) (n c : Nat) (w : World) :
    Calls Tryz.prog 14 #[.agg #[.int .i64 said, .slice A n c, .slice none 0 0, .slice none 0 0]] w fun e w' => e = .returned (.agg #[.int .i64 said, .slice A n c, .slice none 0 0, .slice none 0 0]) ∧ Below w.heap.size w w' := by
  go_enter Tryz.func14, Tryz.ntmps14
  go_upto_region 2 with fail
  obtain ⟨W0, hW0⟩ : ∃ W0, ((w.alloc (.cells #[.int .i64 said, .slice A n c, .slice none 0 0, .slice none 0 0] 37)).alloc (.cells #[.int .i64 0, .slice none 0 0, .slice none 0 0, .slice none 0 0] 43)).alloc (.cells #[.int .i64 said, .slice A n c, .slice none 0 0, .slice none 0 0] 43) = W0 := ⟨_, rfl⟩
  rw [hW0]
  have hb := below_three hW0
  have k0 := Blk.three1 hW0
  have k1 := Blk.three2 hW0
  have k2 := Blk.three3 hW0
  clear hW0
  have a2 := k0.cell 2
  have a3 := k0.cell 3
  have c0 := k2.cell 0
  have c1 := k2.cell 1
  have c2 := k2.cell 2
  have c3 := k2.cell 3
  have d0 := k1.cell 0
  have d1 := k1.cell 1
  have d2 := k1.cell 2
  have d3 := k1.cell 3
  have f0 := k1.frozen 0
  have f1 := k1.frozen 1
  have f2 := k1.frozen 2
  have f3 := k1.frozen 3
  simp only [List.getElem?_toArray, List.getElem?_cons_zero, List.getElem?_cons_succ] at a2 a3 c0 c1 c2 c3 d0 d1 d2 d3
  have j3 := (((k1.set_ 0 (.int .i64 said)).set_ 1 (.slice A n c)).set_ 2 (.slice none 0 0)).set_ 3 (.slice none 0 0)
  simp only [List.setIfInBounds_toArray, List.set_cons_zero, List.set_cons_succ] at j3
  have y0 := j3.cell 0
  have y1 := j3.cell 1
  have y2 := j3.cell 2
  have y3 := j3.cell 3
  simp only [List.getElem?_toArray, List.getElem?_cons_zero, List.getElem?_cons_succ] at y0 y1 y2 y3
  have hz := hide ((((hb.setCell (p := ⟨w.heap.size + 1, 0, none⟩) (by simp) (.int .i64 said)).setCell (p := ⟨w.heap.size + 1, 1, none⟩) (by simp) (.slice A n c)).setCell (p := ⟨w.heap.size + 1, 2, none⟩) (by simp) (.slice none 0 0)).setCell (p := ⟨w.heap.size + 1, 3, none⟩) (by simp) (.slice none 0 0))
  clear j3 hb
  go_wp2_with fail
  go_loop [4] (fun s4 => s4 = .int .i64 0) (fun _ => 0)
  case atStart => rfl
  case round =>
    subst hrel
    go_wp2_with fail
    go_loop [5] (fun s5 => s5 = .int .i64 0) (fun _ => 0)
    case atStart => rfl
    case round =>
      subst hrel
      go_wp2_with fail
      exact bodyPost_ret (v := .agg #[.int .i64 said, .slice A n c, .slice none 0 0, .slice none 0 0]) (by simp [results, Tryz.results14, go_sem, y0, y1, y2, y3]) rfl ⟨rfl, hz.out⟩
/-- Is a state short? -/
def fewS (s : Wd) : Bool := decide (s.path.length ≤ 40) && decide (s.left.length ≤ 40) && s.left.all fun l => decide (l.length ≤ 40)
set_option maxRecDepth 100000 in
theorem fewS30_any (v : Value) (s : Wd) (w : World) (hv : WdS w (Old w) v s) :
    Calls Tryz.prog 7 #[v] w fun e w' => e = .returned (.bool (fewS s)) ∧ Below w.heap.size w w' := by
  obtain ⟨Ap, cp, Al, cl, rfl, hP, hL⟩ := hv.form
  obtain ⟨W0, hW0⟩ : ∃ W0, w.alloc (.cells #[.int .i64 s.width, .bool s.cut, .slice Ap s.path.length cp, .slice Al s.left.length cl] 28) = W0 := ⟨_, rfl⟩
  have hb := below_allocEq (Below.refl w.heap.size w) hW0 (Nat.le_refl _)
  have k0 := Blk.newEq hW0
  have c2 := k0.cell 2
  have c3 := k0.cell 3
  simp only [List.getElem?_toArray, List.getElem?_cons_zero, List.getElem?_cons_succ] at c2 c3
  have hL0 := hide (hL.below hb)
  have hf : Hid (fewS s = (decide (s.path.length ≤ 40) && decide (s.left.length ≤ 40) && s.left.all fun l => decide (l.length ≤ 40))) := hide rfl
  obtain ⟨width, cut, path, left⟩ := s
  dsimp only at *
  generalize fewS ⟨width, cut, path, left⟩ = r at *
  clear hP hL hv
  go_enter Tryz.func7, Tryz.ntmps7
  by_cases h1 : path.length ≤ 40
  · have h1b : decide (40 < path.length) = false := decide_eq_false (by omega)
    have h1c : decide ((path.length : Int) > 40) = false := decide_eq_false (by omega)
    by_cases h2 : left.length ≤ 40
    · have h2b : decide (40 < left.length) = false := decide_eq_false (by omega)
      have h2c : decide ((left.length : Int) > 40) = false := decide_eq_false (by omega)
      have hf2 : Hid (r = left.all fun l => decide (l.length ≤ 40)) := hide (by rw [hf.out]; simp [h1, h2])
      have hl40 : left.length ≤ 40 := h2
      clear h1 h2 hf
      go_wp2_with fail
      clear hW0
      go_loop [3] (fun s3 => ∃ i : Nat, i ≤ left.length ∧ s3 = .int .i64 i ∧ Hid (∀ j (hj : j < left.length), j < i → left[j].length ≤ 40)) (fun s3 => left.length - (intOf s3).toNat)
      case atStart => exact ⟨0, Nat.zero_le _, by go_num, hide (fun j _ h => absurd h (by omega))⟩
      case round =>
        obtain ⟨i, hi, rfl, hall⟩ := hrel
        have hi1 : (0 : Int) ≤ (i : Int) := Int.natCast_nonneg _
        by_cases hlt : i < left.length
        · have hi2 : (i : Int) < (left.length : Int) := by omega
          obtain ⟨bl, ol, Ar, cr, hA, -, d0, -⟩ := hL0.out.at_ hlt
          subst hA
          have hbad : Hid (¬ left[i].length ≤ 40 → r = false) := hide (fun g => by
            rw [hf2.out, List.all_eq_false]
            exact ⟨left[i], List.getElem_mem hlt, by simpa using g⟩)
          have hst : Hid (left[i].length ≤ 40 → ∀ j (hj : j < left.length), j < i + 1 → left[j].length ≤ 40) := hide (fun g j hj hji => by
            by_cases e : j = i
            · subst e; exact g
            · exact hall.out j hj (by omega))
          generalize left[i].length = n at *
          by_cases hn : n ≤ 40
          · have hnb : decide (40 < n) = false := decide_eq_false (by omega)
            have hnc : decide ((n : Int) > 40) = false := decide_eq_false (by omega)
            have hg := hide (hst.out hn)
            clear hbad hst hall hf2 hn
            go_wp2
            go_round
            case rel => exact ⟨i + 1, by omega, by go_num, hg⟩
            case measure => simp [intOf]; omega
          · have hnb : decide (40 < n) = true := decide_eq_true (by omega)
            have hnc : decide ((n : Int) > 40) = true := decide_eq_true (by omega)
            have hg := hbad.out hn
            subst hg
            clear hbad hst hall hf2 hn
            go_wp2
            go_ret
            exact ⟨rfl, hb⟩
        · have hg : r = true := by
            rw [hf2.out, List.all_eq_true]
            intro x hx
            obtain ⟨j, hj, rfl⟩ := List.getElem_of_mem hx
            exact decide_eq_true (hall.out j hj (by omega))
          subst hg
          clear hall hf2
          go_wp2
          go_ret
          exact ⟨rfl, hb⟩
    · have h2b : decide (40 < left.length) = true := decide_eq_true (by omega)
      have h2c : decide ((left.length : Int) > 40) = true := decide_eq_true (by omega)
      have hg : r = false := by rw [hf.out]; simp [h2]
      subst hg
      clear h1 h2 hf
      go_wp2
      go_ret
      exact ⟨rfl, hb⟩
  · have h1b : decide (40 < path.length) = true := decide_eq_true (by omega)
    have h1c : decide ((path.length : Int) > 40) = true := decide_eq_true (by omega)
    have hg : r = false := by rw [hf.out]; simp [h1]
    subst hg
    clear h1 hf
    go_wp2
    go_ret
    exact ⟨rfl, hb⟩
end Go.Proofs.YtfodlklpfffaaaaGreatDoor

namespace Go.Proofs.YtfodlklpfffaaaaGreatDoor
open Go.RowKit Go.Inq
set_option maxHeartbeats 2000000
attribute [local go_sem ↓] Go.wp_at_zero Go.wp_at_succ

/-- At most N transactions, with few reads and writes. -/
def fewN (N : Nat) (l : List Txn) : Bool := decide (l.length ≤ N) && l.all fun t => decide (t.writes.length ≤ 20) && decide (t.reads.length ≤ 20)
def fewH (l : List Txn) : Bool := fewN 40 l
theorem fewN_len {N : Nat} {l : List Txn} (h : fewN N l = true) : l.length ≤ N := by
  unfold fewN at h
  rw [Bool.and_eq_true] at h
  simpa using h.1
theorem fewN_small {N : Nat} (hN : N ≤ 40) {l : List Txn} (h : fewN N l = true) : SmallH l := by
  unfold fewN at h
  rw [Bool.and_eq_true, List.all_eq_true] at h
  have h1 : l.length ≤ N := by simpa using h.1
  refine ⟨by omega, fun t ht => ?_⟩
  have := h.2 t ht
  simp at this
  omega
theorem fewH_small {l : List Txn} (h : fewH l = true) : SmallH l := fewN_small (Nat.le_refl _) h
theorem fewN_bad {N : Nat} {l : List Txn} {i : Nat} (hi : i < l.length) (h : 20 < l[i].writes.length ∨ 20 < l[i].reads.length) : fewN N l = false := by
  rw [← Bool.not_eq_true]
  intro g
  unfold fewN at g
  rw [Bool.and_eq_true, List.all_eq_true] at g
  have := g.2 _ (List.getElem_mem hi)
  simp at this
  omega
theorem fewN_many {N : Nat} {l : List Txn} (h : N < l.length) : fewN N l = false := by
  unfold fewN; rw [show decide (l.length ≤ N) = false by simpa using h]; rfl
theorem fewN_good {N : Nat} {l : List Txn} (h : l.length ≤ N) (hall : ∀ i (hi : i < l.length), l[i].writes.length ≤ 20 ∧ l[i].reads.length ≤ 20) : fewN N l = true := by
  unfold fewN
  rw [Bool.and_eq_true, List.all_eq_true]
  refine ⟨by simpa using h, fun t ht => ?_⟩
  obtain ⟨i, hi, rfl⟩ := List.getElem_of_mem ht
  have := hall i hi
  simp
  omega
set_option maxRecDepth 100000 in
theorem few8n_any (N : Nat) (A : Option Addr) (c : Nat) (H : List Txn) (w : World) (h : TxnS w (Old w) (.slice A H.length c) H) (hn : H.length ≤ maxLen) (hns : ∀ t ∈ H, t.writes.length ≤ maxLen ∧ t.reads.length ≤ maxLen) :
    Calls Tryz.prog 6 #[.agg #[.slice A H.length c], .int .i64 (N : Int)] w fun e w' => e = .returned (.bool (fewN N H)) ∧ Below w.heap.size w w' := by
  unfold maxLen at hn hns
  have hA : Below w.heap.size w (w.alloc (.cells #[.slice A H.length c] 24)) := (Below.refl _ _).alloc (Nat.le_refl _) _
  have kh : Blk (w.alloc (.cells #[.slice A H.length c] 24)) w.heap.size 24 #[.slice A H.length c] := Blk.new _ _ _
  have h1 := TxnS.below h hA
  have y0 := kh.cell 0
  simp only [List.getElem?_toArray, List.getElem?_cons_zero] at y0
  have hl1 : (0 : Int) ≤ (H.length : Int) := Int.natCast_nonneg _
  replace hns := hide hns
  by_cases hm : N < H.length
  · have hr := hide (fewN_many hm)
    have hmb : decide ((H.length : Int) > (N : Int)) = true := by simp; omega
    have hmb2 : decide (N < H.length) = true := by simp; omega
    clear hm
    go_enter Tryz.func6, Tryz.ntmps6
    go_wp2
    go_ret
    exact ⟨by rw [hr.out]; rfl, hA⟩
  · have hmb : decide ((H.length : Int) > (N : Int)) = false := by simp; omega
    have hmb2 : decide (N < H.length) = false := by simp; omega
    have hbad := hide (fun i => fewN_bad (N := N) (l := H) (i := i))
    have hgood := hide (fewN_good (N := N) (l := H) (by omega))
    go_enter Tryz.func6, Tryz.ntmps6
    go_wp2_with fail
    generalize w.alloc (.cells #[.slice A H.length c] 24) = W at *
    go_loop [5] (fun s5 => ∃ i : Nat, i ≤ H.length ∧ s5 = .int .i64 i ∧ Hid (∀ j (hj : j < H.length), j < i → H[j].writes.length ≤ 20 ∧ H[j].reads.length ≤ 20)) (fun s5 => H.length - (intOf s5).toNat)
    case atStart => exact ⟨0, Nat.zero_le _, by go_num, fun j hj h => absurd h (by omega)⟩
    case round =>
      obtain ⟨i, hi, rfl, hall⟩ := hrel
      have hi1 : (0 : Int) ≤ (i : Int) := Int.natCast_nonneg _
      by_cases hlt : i < H.length
      · have hi2 : (i : Int) < (H.length : Int) := by omega
        obtain ⟨b, off, Aw, cw, Ar, cr, rfl, hbK, d0, d1, d2, hws, hrs⟩ := TxnS.at_ h1 hlt
        have hb := hide (hbad.out i hlt)
        have hsm := hns.out _ (List.getElem_mem hlt)
        have hst : Hid (H[i].writes.length ≤ 20 ∧ H[i].reads.length ≤ 20 → ∀ j (hj : j < H.length), j < i + 1 → H[j].writes.length ≤ 20 ∧ H[j].reads.length ≤ 20) := fun g j hj hji => by
          by_cases e : j = i
          · subst e; exact g
          · exact hall.out j hj (by omega)
        clear hall hws hrs
        generalize H[i] = t at *
        obtain ⟨ts, ws, rs⟩ := t
        dsimp only at *
        by_cases g1 : 20 < ws.length
        · have g1b : decide ((ws.length : Int) > 20) = true := by simp; omega
          have hr := hide (hb.out (.inl g1))
          clear g1 hb hst
          go_wp2
          go_ret
          exact ⟨by rw [hr.out]; rfl, hA⟩
        · have g1b : decide ((ws.length : Int) > 20) = false := by simp; omega
          by_cases g2 : 20 < rs.length
          · have g2b : decide ((rs.length : Int) > 20) = true := by simp; omega
            have hr := hide (hb.out (.inr g2))
            clear g2 hb hst
            go_wp2
            go_ret
            exact ⟨by rw [hr.out]; rfl, hA⟩
          · have g2b : decide ((rs.length : Int) > 20) = false := by simp; omega
            have hr := hide (hst.out ⟨by omega, by omega⟩)
            clear hb hst
            go_wp2
            go_round
            case rel => exact ⟨i + 1, by omega, by go_num, hr⟩
            case measure => simp [intOf]; omega
      · have hr := hide (hgood.out fun j hj => hall.out j hj (by omega))
        go_wp2
        go_ret
        exact ⟨by rw [hr.out]; rfl, hA⟩
theorem few8_any (A : Option Addr) (c : Nat) (H : List Txn) (w : World) (h : TxnS w (Old w) (.slice A H.length c) H) (hn : H.length ≤ maxLen) (hns : ∀ t ∈ H, t.writes.length ≤ maxLen ∧ t.reads.length ≤ maxLen) :
    Calls Tryz.prog 6 #[.agg #[.slice A H.length c], .int .i64 40] w fun e w' => e = .returned (.bool (fewH H)) ∧ Below w.heap.size w w' := few8n_any 40 A c H w h hn hns
end Go.Proofs.YtfodlklpfffaaaaGreatDoor

namespace Go.Inq
open Go
section
variable {P : Program} {ops : Array Oper} {Q : Exit → Act → World → Prop} {a b a0 : Act}

theorem wpAny_inv {Inv : (Nat → Bool) → (Nat → Value) → World → Prop} (hB : floatB ops = true)
    (hstep : ∀ i o, ops[i]? = some o → ∀ (L : Nat → Bool) (vs : Nat → Value) w, L i = false → (∀ j, waitsT .any ops ops.size i j = true → L j = true) → (∀ k, waitsT .any ops ops.size k i = true → L k = false) → Inv L vs w → wpList P ops (fun e a' w' => e = .normal ∧ ∃ v, a' = (acV ops a0 vs i).put o.dst v ∧ Inv (fun j => L j || decide (j = i)) (updV vs i v) w') [o] (acV ops a0 vs i) w)
    (hend : ∀ (L : Nat → Bool) (vs : Nat → Value) w, (∀ j, j < ops.size → L j = true) → Inv L vs w → Q .normal (acV ops a0 vs ops.size) w) :
    ∀ (fuel : Nat) (listed : Array Bool) (a : Act) (w : World) (vs : Nat → Value), Closed .any ops listed → listed.size = ops.size → lacks ops.size (fun j => listed.getD j false) = fuel → Flo ops a0 vs (fun j => listed.getD j false) a →
      Inv (fun j => listed.getD j false) vs w → wpAny P .any ops Q fuel listed a w := by
  have hnone : ∀ (listed : Array Bool), listed.size = ops.size → Region.ready .any ops listed = [] → ∀ i, i < ops.size → listed.getD i false = true := by
    intro listed hsz hr i
    induction i using Nat.strongRecOn with
    | _ i ih =>
      intro hi
      cases hl : listed.getD i false with
      | true => rfl
      | false =>
        exfalso
        have ho : ops[i]? = some ops[i] := Array.getElem?_eq_getElem hi
        have hm : i ∈ Region.ready .any ops listed := by
          rw [mem_ready]
          refine ⟨?_, ops[i], ho, fun e he hb => ?_⟩
          · have hi2 : i < listed.size := by omega
            simp only [Array.getD_eq_getD_getElem?, Array.getElem?_eq_getElem hi2, Option.getD_some] at hl ⊢
            exact hl
          · have h1 := floatB_after hB ho e he hb
            exact ih e.on h1 (by omega)
        rw [hr] at hm
        cases hm
  have hfin : ∀ (listed : Array Bool) (a : Act) (w : World) (vs : Nat → Value), listed.size = ops.size → (∀ i, i < ops.size → listed.getD i false = true) → Flo ops a0 vs (fun j => listed.getD j false) a → Inv (fun j => listed.getD j false) vs w → Q .normal a w := by
    intro listed a w vs hlsz hall hf hI
    have hac := acV_flo (a0 := a0) hB vs ops.size
    have : a = acV ops a0 vs ops.size := by
      have h1 : a.tmps = (acV ops a0 vs ops.size).tmps := by
        refine Array.ext_getElem? fun t => ?_
        refine hf.agree hac fun j o hj _ => ?_
        have hjs := (Array.getElem?_eq_some_iff.1 hj).1
        rw [hall j hjs]
        simp [hjs]
      have h2 : a.defers = (acV ops a0 vs ops.size).defers := by rw [hf.defers, hac.defers]
      cases a
      cases hx : acV ops a0 vs ops.size
      rw [hx] at h1 h2
      simp only at h1 h2
      rw [h1, h2]
    rw [this]
    exact hend _ vs w hall hI
  intro fuel
  induction fuel with
  | zero =>
    intro listed a w vs hcl hsz hlk hf hI
    have hall := lacks_all _ _ hlk
    refine ⟨?_, hfin listed a w vs hsz hall hf hI⟩
    rw [List.eq_nil_iff_forall_not_mem]
    intro i hi
    obtain ⟨h1, o, ho, _⟩ := mem_ready.1 hi
    have his := (Array.getElem?_eq_some_iff.1 ho).1
    have h2 := hall i his
    have hi2 : i < listed.size := by omega
    simp only [Array.getD_eq_getD_getElem?, Array.getElem?_eq_getElem hi2, Option.getD_some] at h1 h2
    rw [h1] at h2
    cases h2
  | succ fuel ih =>
    intro listed a w vs hcl hsz hlk hf hI
    refine ⟨fun hr => hfin listed a w vs hsz (hnone listed hsz hr) hf hI, fun i hi => ?_⟩
    obtain ⟨h1, o, ho, hall⟩ := mem_ready.1 hi
    have his := (Array.getElem?_eq_some_iff.1 ho).1
    have hi2 : i < listed.size := by omega
    have hun : listed.getD i false = false := by
      simp only [Array.getD_eq_getD_getElem?, Array.getElem?_eq_getElem hi2, Option.getD_some] at h1 ⊢
      exact h1
    have hset : ∀ j, (listed.setIfInBounds i true).getD j false = (listed.getD j false || decide (j = i)) := fun j => by
      by_cases hji : j = i
      · subst hji
        simp [Array.getD_eq_getD_getElem?, hi2]
      · rw [getD_set_ne false (Ne.symm hji)]
        simp [hji]
    have hsel := fun cs b => Region.noSelect_spec (ops := ops) (by unfold floatB at hB; rw [Bool.and_eq_true] at hB; exact hB.1) i o cs b ho
    have hac := acV_flo (a0 := a0) hB vs i
    refine wpOp_rel (b := acV ops a0 vs i) (R := fun v w' => Inv (fun j => listed.getD j false || decide (j = i)) (updV vs i v) w') ho hsel (fun t ht => ?_) (by rw [hf.size, hac.size]) (fun v w' hS' => ?_) (hstep i o ho (fun j => listed.getD j false) vs w hun (fun j hj => hcl.ready hj hi) (fun k hk => by
      cases hlk : listed.getD k false with
      | false => rfl
      | true =>
        have := hcl.waits _ _ _ hk hlk
        rw [hun] at this
        cases this) hI)
    · refine hf.agree hac fun j oj hj hd => ?_
      rcases (floatB_pair hB ho hj hd).2 ht with ⟨h2, h3⟩ | ⟨h2, h3⟩ | h2
      · rw [hcl.ready h3 hi]
        simp [h2]
      · have h4 : decide (j < i) = false := by simp; omega
        rw [h4]
        cases hlj : listed.getD j false with
        | false => rfl
        | true =>
          have := hcl.waits _ _ _ h3 hlj
          rw [hun] at this
          cases this
      · subst h2
        rw [hun]
        simp
    · have hf2 : Flo ops a0 (updV vs i v) (fun j => listed.getD j false) a := hf.congr fun j hj => by
        unfold updV
        rw [if_neg]
        rintro rfl
        rw [hun] at hj
        cases hj
      have hput := hf2.put hB ho hset
      have hvi : updV vs i v i = v := by simp [updV]
      rw [hvi] at hput
      refine ih (listed.setIfInBounds i true) _ w' (updV vs i v) (hcl.set_ hi) (by rw [Array.size_setIfInBounds]; exact hsz) ?_ hput ?_
      · have := lacks_one (f := fun j => listed.getD j false) (g := fun j => (listed.setIfInBounds i true).getD j false) hun hset ops.size his
        omega
      · have : (fun j => (listed.setIfInBounds i true).getD j false) = fun j => listed.getD j false || decide (j = i) := funext hset
        rw [this]
        exact hS'

/-- A REGION THAT DRAWS ITS ORDER, BY AN INVARIANT OVER WHAT IS DONE: dp i are done ahead of i, nd i are not. -/
theorem wp_region_inv {id : Nat} {w : World} {l : List Oper} (Inv : (Nat → Bool) → (Nat → Value) → World → Prop) (dp nd : Nat → List Nat) (hm : P.follows .mixedOrders = true) (hB : floatB l.toArray = true)
    (hdp : ((List.range l.length).all fun i => (dp i).all fun j => waitsT .any l.toArray l.length i j) = true) (hnd : ((List.range l.length).all fun i => (nd i).all fun k => waitsT .any l.toArray l.length k i) = true)
    (h0 : Inv (fun _ => false) (fun _ => undef) w.drew)
    (hstep : ∀ i o, l[i]? = some o → ∀ (L : Nat → Bool) (vs : Nat → Value) w, L i = false → (∀ j ∈ dp i, L j = true) → (∀ k ∈ nd i, L k = false) → Inv L vs w → wpList P l.toArray (RelEnd (fun v w' => Inv (fun j => L j || decide (j = i)) (updV vs i v) w') (acV l.toArray a vs i) o.dst) [o] (acV l.toArray a vs i) w)
    (hend : ∀ (L : Nat → Bool) (vs : Nat → Value) w, (∀ j, j < l.length → L j = true) → Inv L vs w → Q .normal (acV l.toArray a vs l.length) w) : (Code.region id l.toArray true).wp P Q a w := by
  have hsz : l.toArray.size = l.length := by simp
  have hget : ∀ i : Nat, l.toArray[i]? = l[i]? := fun i => List.getElem?_toArray ..
  refine wp_region_any hm ?_
  refine wpAny_inv (Inv := Inv) hB (fun i o ho L vs w h1 h2 h3 hI => ?_) (fun L vs w h1 h2 => by rw [hsz]; exact hend L vs w (by rw [← hsz]; exact h1) h2) _ _ a _ (fun _ => undef) (Closed.start _ _ _) (by simp) ?_ (Flo.start fun j => getD_replicate_false _ _) ?_
  · have ho' : l[i]? = some o := by rw [← hget]; exact ho
    have hil : i < l.length := (List.getElem?_eq_some_iff.1 ho').1
    refine hstep i o ho' L vs w h1 (fun j hj => h2 j ?_) (fun k hk => h3 k ?_) hI
    · rw [hsz]
      exact List.all_eq_true.1 (List.all_eq_true.1 hdp i (List.mem_range.2 hil)) j hj
    · rw [hsz]
      exact List.all_eq_true.1 (List.all_eq_true.1 hnd i (List.mem_range.2 hil)) k hk
  · have : (fun j => (Array.replicate l.toArray.size false).getD j false) = fun _ => false := funext fun j => getD_replicate_false _ _
    rw [this, lacks_none]
  · have : (fun j => (Array.replicate l.toArray.size false).getD j false) = fun _ => false := funext fun j => getD_replicate_false _ _
    rw [this]
    exact h0
end
end Go.Inq
