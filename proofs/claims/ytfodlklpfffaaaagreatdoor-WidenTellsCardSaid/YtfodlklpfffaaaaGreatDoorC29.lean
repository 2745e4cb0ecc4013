/-
  Walks: a state's copy: layer 30's reference, and its law.
-/
import Derived.Test.YtfodlklpfffaaaaGreatDoorC27
import Derived.Test.YtfodlklpfffaaaaGreatDoorC28
set_option linter.unusedVariables false
set_option linter.unusedSimpArgs false
namespace Go.Proofs.YtfodlklpfffaaaaGreatDoor
open Go.RowKit Go.Inq
set_option maxHeartbeats 8000000
attribute [local go_sem ↓] Go.wp_at_zero Go.wp_at_succ

theorem LeftO.base {w : World} {base base' : Nat} {v : Value} {l : List (List Int)} (h : LeftO w base v l) (hb : base' ≤ base) : LeftO w base' v l := by
  obtain ⟨ts, h1, h2, h3⟩ := h
  exact ⟨ts, h1, own_base' h2 hb, fun j t x e1 e2 => IntS.keep (h3 j t x e1 e2) (Agree.refl _ _) (fun b g => ⟨Nat.le_trans hb g.1, g.2⟩)⟩
theorem OwnI.base {w : World} {base base' : Nat} {v : Value} {l : List Int} (h : OwnI w base v l) (hb : base' ≤ base) : OwnI w base' v l := own_base' h hb
/-- What a copy is. -/
def CopyOut (w : World) (s : Wd) (e : Ending) (w' : World) : Prop :=
  ∃ vp vl, e = .returned (.agg #[.int .i64 s.width, .bool s.cut, vp, vl]) ∧ OwnI w' w.heap.size vp s.path ∧ LeftO w' w.heap.size vl s.left ∧ Below w.heap.size w w'
set_option maxRecDepth 100000 in
theorem rcopied30_any (v : Value) (s : Wd) (w : World) (hv : WdS w (Old w) v s) (hs : SmallWd s) (hll : s.left.length ≤ 900000) : Calls Tryz.prog 27 #[v] w (CopyOut w s) := by
  obtain ⟨ii, hii, hi1, hi2, hi3⟩ := info_parts infoI10
  obtain ⟨il, hil, hl1, hl2, hl3⟩ := info_parts infoS30
  obtain ⟨Ap, cp, Al, cl, rfl, hP, hL⟩ := hv.form
  obtain ⟨hs1, hs2, hs3⟩ := hs
  replace hs3 := hide hs3
  clear hv
  go_enter Tryz.func27, Tryz.ntmps27
  go_upto_region 2 with fail
  obtain ⟨W0, hW0⟩ : ∃ W0, ((w.alloc (.cells #[.int .i64 s.width, .bool s.cut, .slice Ap s.path.length cp, .slice Al s.left.length cl] 32)).alloc (.cells #[.int .i64 0, .bool false, .slice none 0 0, .slice none 0 0] 32)).alloc (.cells #[.int .i64 s.width, .bool s.cut, .slice none 0 0, .slice none 0 0] 32) = W0 := ⟨_, rfl⟩
  rw [hW0]
  have hB := below_three hW0
  have k0 := Blk.three1 hW0
  have k1 := Blk.three2 hW0
  have k2 := Blk.three3 hW0
  have s0 := size_three hW0
  have hP0 := hide (hP.below hB)
  replace hL := hide hL
  clear hW0 hP
  have c2 := k0.cell 2
  have d2 := k2.cell 2
  have f2 := k2.frozen 2
  simp only [List.getElem?_toArray, List.getElem?_cons_zero, List.getElem?_cons_succ] at c2 d2
  have hnil := hide (World.ownsRow_nil W0 (w.heap.size + 3) 3 1)
  have h63 : 0 + s.path.length ≤ maxLen := by unfold maxLen; omega
  have hbb : (0 + s.path.length) * 8 ≤ 140737488355328 := by omega
  have hbs : w.heap.size + 3 ≤ W0.heap.size := by omega
  replace s0 := hide s0
  go_wp2_with (at_builtin; go_loud (refine wpList_append_flat (enc := Go.Inq.encI) rfl (.tmp 12) (.tmp 14) 25 rfl (w.heap.size + 3) 3 ii _ 1 8 Tryz.underlying25 hii hi1 hi2 hi3 rfl (by decide) (.slice none 0 0) (Old W0) ([] : List Int) rfl hnil.out (fun _ => rfl) _ s.path rfl hP0.out Go.Inq.encI_one h63 hbb hbs ?_); intro vp w1 hown1 hg1 hat1; replace hown1 : OwnI w1 (w.heap.size + 3) vp s.path := hown1; have e2 := (k2.grown hg1 (by simp [Value.ownBlock])).cell 2; have ef := (k2.grown hg1 (by simp [Value.ownBlock])).frozen 2; simp only [List.getElem?_toArray, List.getElem?_cons_zero, List.getElem?_cons_succ] at e2; obtain ⟨Ao, co, rfl⟩ := hown1.form)
  have q2 := (k2.grown hg1 (by simp [Value.ownBlock])).set_ 2 (.slice Ao s.path.length co)
  simp only [List.setIfInBounds_toArray, List.set_cons_zero, List.set_cons_succ] at q2
  have hne : (Value.slice Ao s.path.length co).ownBlock ≠ some (w.heap.size + 1 + 1) := fun e => by have := (hown1.lt _ e).1; omega
  have hOP : OwnI (w1.setCell ⟨w.heap.size + 1 + 1, 2, none⟩ (.slice Ao s.path.length co)) (w.heap.size + 3) (.slice Ao s.path.length co) s.path := own_setCell hown1 (p := ⟨w.heap.size + 1 + 1, 2, none⟩) hne _
  have hb1 : Below (w.heap.size + 2) W0 (w1.setCell ⟨w.heap.size + 1 + 1, 2, none⟩ (.slice Ao s.path.length co)) := (below_grown (Below.refl (w.heap.size + 2) W0) hg1 (by omega) (fun k hk => by simp [Value.ownBlock] at hk)).setCell (p := ⟨w.heap.size + 1 + 1, 2, none⟩) (by simp; try omega) _
  generalize w1.setCell ⟨w.heap.size + 1 + 1, 2, none⟩ (.slice Ao s.path.length co) = w2 at *
  clear hnil hg1 ef e2 hat1 hown1 k2 c2 d2 f2 hP0 hne
  go_loopw [4, 5] (fun s4 s5 wr => ∃ (i : Nat) (vl : Value), i ≤ s.left.length ∧ s4 = .int .i64 i ∧ Blk wr (w.heap.size + 1 + 1) 32 #[.int .i64 s.width, .bool s.cut, .slice Ao s.path.length co, vl] ∧ OwnI wr (w.heap.size + 3) (.slice Ao s.path.length co) s.path ∧ LeftO wr (w.heap.size + 3) vl (s.left.take i) ∧ Below (w.heap.size + 2) W0 wr) (fun s4 _ _ => s.left.length - (intOf s4).toNat)
  case atStart => exact ⟨0, .slice none 0 0, Nat.zero_le _, by go_num, q2, hOP, by rw [List.take_zero]; exact LeftO.nil _ _, hb1⟩
  case round =>
    clear q2 hOP hb1
    obtain ⟨i, vl, hi, rfl, q2, hOP, hLO, hb⟩ := hrel
    have hii1 : (0 : Int) ≤ (i : Int) := Int.natCast_nonneg _
    have m0 := k0.below hb (by omega)
    have c3 := m0.cell 3
    have e3 := q2.cell 3
    have ef := q2.frozen 3
    simp only [List.getElem?_toArray, List.getElem?_cons_zero, List.getElem?_cons_succ] at c3 e3
    have hsz0 : W0.heap.size = w.heap.size + 3 := s0.out
    have hbF := hB.trans (hb.mono (by omega))
    have hszr := hbF.size
    by_cases hlt : i < s.left.length
    · have hi2' : (i : Int) < (s.left.length : Int) := by omega
      obtain ⟨bl, ol, Ar, cr, hA, hblo, d0, hrow⟩ := (hL.out.below hbF).at_ hlt
      subst hA
      have hrl := hs3.out _ (List.getElem_mem hlt)
      have hrl9 : 0 + s.left[i].length ≤ maxLen := by unfold maxLen; omega
      have hrlb : (0 + s.left[i].length) * 8 ≤ 140737488355328 := by omega
      have htk := hide (take_snoc' hlt)
      have hlt3 : (s.left.take i).length + 1 ≤ 1000000 := by rw [List.length_take]; omega
      generalize s.left[i] = row at *
      have hnil := hide (World.ownsRow_nil wr (w.heap.size + 3) 3 1)
      have hszb : w.heap.size + 3 ≤ wr.heap.size := by have := hb.size; omega
      obtain ⟨Ax, cx, rfl⟩ := hLO.form
      generalize s.left.take i = L at *
      replace hrow := hide hrow
      replace hLO := hide hLO
      replace hOP := hide hOP
      go_wp2_with (at_builtin; first
        | (refine wpList_append_flat (enc := Go.Inq.encI) rfl (.tmp 24) (.tmp 29) 25 rfl (w.heap.size + 3) 3 ii _ 1 8 Tryz.underlying25 hii hi1 hi2 hi3 rfl (by decide) (.slice none 0 0) (Old wr) ([] : List Int) rfl hnil.out (fun _ => rfl) _ row rfl hrow.out Go.Inq.encI_one hrl9 hrlb hszb ?_
           intro v1 w3 hown1 hg1 hat1
           replace hown1 : OwnI w3 (w.heap.size + 3) v1 row := hown1
           obtain ⟨A1, c1, rfl⟩ := hown1.form
           have hb3 : Below wr.heap.size wr w3 := below_grown (Below.refl wr.heap.size wr) hg1 (Nat.le_refl _) (fun k hk => by simp [Value.ownBlock] at hk)
           have q3 := q2.below hb3 q2.lt
           have hLO3 := hLO.out.below hb3 (Nat.le_refl _)
           have hOP3 := hide (own_below hOP.out hb3 (Nat.le_refl _))
           have hb5 := hb.trans (hb3.mono (by omega))
           have e3' := q3.cell 3
           simp only [List.getElem?_toArray, List.getElem?_cons_zero, List.getElem?_cons_succ] at e3'
           have hsl1 := hide hown1.slK
           have hsz5 : w.heap.size + 3 ≤ w3.heap.size := Nat.le_trans hszb hb3.size
           replace hLO3 := hide hLO3
           replace hown1 := hide hown1
           clear hat1 hg1)
        | (refine wpList_pushL rfl (.tmp 32) (.tmp 34) 26 rfl (w.heap.size + 3) il _ Tryz.underlying26 hil hl1 hl2 hl3 rfl (.slice Ax L.length cx) L rfl hLO3.out (.slice A1 row.length c1) row hsl1.out rfl hlt3 hsz5 w3 (Below.refl _ _) ?_
           intro v4 w4 hLO4 hA4 hb4 hat4 hE4
           have q4 := q3.below hb4 (by omega)
           have e4 := q4.cell 3
           have f4 := q4.frozen 3
           simp only [List.getElem?_toArray, List.getElem?_cons_zero, List.getElem?_cons_succ] at e4
           obtain ⟨A4, c4, hv4⟩ := hLO4.form
           rw [List.length_append, List.length_singleton] at hv4
           subst hv4))
      have q5 := q4.set_ 3 (.slice A4 (L.length + 1) c4)
      simp only [List.setIfInBounds_toArray, List.set_cons_zero, List.set_cons_succ] at q5
      have hne4 : (Value.slice A4 (L.length + 1) c4).ownBlock ≠ some (w.heap.size + 1 + 1) := fun e => by have := (hLO4.lt _ e).1; omega
      have hLO5 := hLO4.set_ (i := 3) q4 (by decide) hne4 (.slice A4 (L.length + 1) c4)
      have hOP5 := (OwnI.keepK hOP3.out hA4).keepK (IntK.set_ (i := 3) q4 (by decide) (.slice A4 (L.length + 1) c4))
      have hb6 := (hb5.trans (hb4.mono (by omega))).setCell (p := ⟨w.heap.size + 1 + 1, 3, none⟩) (by simp) (.slice A4 (L.length + 1) c4)
      go_roundw
      case rel => exact ⟨i + 1, .slice A4 (L.length + 1) c4, by omega, by go_num, q5, hOP5, by rw [htk.out]; exact hLO5, hb6⟩
      case measure => simp [intOf]; omega
    · obtain rfl : i = s.left.length := by omega
      obtain ⟨Ax, cx, hvx⟩ := hLO.form
      rw [List.take_length] at hLO hvx
      subst hvx
      have m1 := k1.below hb (by omega)
      have q0 := q2.cell 0
      have q1 := q2.cell 1
      have q22 := q2.cell 2
      have x0 := m1.cell 0
      have x1 := m1.cell 1
      have x2 := m1.cell 2
      have x3 := m1.cell 3
      have f0 := m1.frozen 0
      have f1 := m1.frozen 1
      have f2 := m1.frozen 2
      have f3 := m1.frozen 3
      simp only [List.getElem?_toArray, List.getElem?_cons_zero, List.getElem?_cons_succ] at q0 q1 q22 x0 x1 x2 x3
      have j1 := ((m1.set_ 0 (.int .i64 s.width)).set_ 1 (.bool s.cut)).set_ 2 (.slice Ao s.path.length co)
      have j3 := j1.set_ 3 (.slice Ax s.left.length cx)
      have m10 := m1.set_ 0 (.int .i64 s.width)
      have m11 := m10.set_ 1 (.bool s.cut)
      simp only [List.setIfInBounds_toArray, List.set_cons_zero, List.set_cons_succ] at j1 j3 m10 m11
      have y0 := j3.cell 0
      have y1 := j3.cell 1
      have y2 := j3.cell 2
      have y3 := j3.cell 3
      simp only [List.getElem?_toArray, List.getElem?_cons_zero, List.getElem?_cons_succ] at y0 y1 y2 y3
      have hlo := hLO.lt
      have hR := hide ((((hLO.set_ (i := 0) m1 (by decide) (fun e => by have := (hlo _ e).1; omega) (.int .i64 s.width)).set_ (i := 1) m10 (by decide) (fun e => by have := (hlo _ e).1; omega) (.bool s.cut)).set_ (i := 2) m11 (by decide) (fun e => by have := (hlo _ e).1; omega) (.slice Ao s.path.length co)).set_ (i := 3) j1 (by decide) (fun e => by have := (hlo _ e).1; omega) (.slice Ax s.left.length cx) |>.base (base' := w.heap.size) (by omega))
      have hQ := hide ((((hOP.keepK (IntK.set_ (i := 0) m1 (by decide) (.int .i64 s.width))).keepK (IntK.set_ (i := 1) m10 (by decide) (.bool s.cut))).keepK (IntK.set_ (i := 2) m11 (by decide) (.slice Ao s.path.length co))).keepK (IntK.set_ (i := 3) j1 (by decide) (.slice Ax s.left.length cx)) |>.base (base' := w.heap.size) (by omega))
      have hz := hide ((((hbF.setCell (p := ⟨w.heap.size + 1, 0, none⟩) (by simp) (.int .i64 s.width)).setCell (p := ⟨w.heap.size + 1, 1, none⟩) (by simp) (.bool s.cut)).setCell (p := ⟨w.heap.size + 1, 2, none⟩) (by simp) (.slice Ao s.path.length co)).setCell (p := ⟨w.heap.size + 1, 3, none⟩) (by simp) (.slice Ax s.left.length cx))
      clear j1 j3 m10 m11 hlo hLO hOP
      go_wp2_with fail
      exact bodyPost_ret (v := .agg #[.int .i64 s.width, .bool s.cut, .slice Ao s.path.length co, .slice Ax s.left.length cx]) (by simp [results, Tryz.results27, go_sem, y0, y1, y2, y3]) rfl ⟨_, _, rfl, hQ.out, hR.out, hz.out⟩
set_option maxRecDepth 100000 in
theorem deep30_any (v : Value) (s : Wd) (w : World) (hv : WdS w (Old w) v s) (hs : SmallWd s) (hll : s.left.length ≤ 900000) : Calls Tryz.prog 8 #[v] w (CopyOut w s) := by
  obtain ⟨ii, hii, hi1, hi2, hi3⟩ := info_parts infoI10
  obtain ⟨il, hil, hl1, hl2, hl3⟩ := info_parts infoS30
  obtain ⟨Ap, cp, Al, cl, rfl, hP, hL⟩ := hv.form
  obtain ⟨hs1, hs2, hs3⟩ := hs
  replace hs3 := hide hs3
  clear hv
  go_enter Tryz.func8, Tryz.ntmps8
  go_upto_region 2 with fail
  obtain ⟨W0, hW0⟩ : ∃ W0, ((w.alloc (.cells #[.int .i64 s.width, .bool s.cut, .slice Ap s.path.length cp, .slice Al s.left.length cl] 28)).alloc (.cells #[.int .i64 0, .bool false, .slice none 0 0, .slice none 0 0] 32)).alloc (.cells #[.int .i64 s.width, .bool s.cut, .slice none 0 0, .slice none 0 0] 32) = W0 := ⟨_, rfl⟩
  rw [hW0]
  have hB := below_three hW0
  have k0 := Blk.three1 hW0
  have k1 := Blk.three2 hW0
  have k2 := Blk.three3 hW0
  have s0 := size_three hW0
  have hP0 := hide (hP.below hB)
  replace hL := hide hL
  clear hW0 hP
  have c2 := k0.cell 2
  have d2 := k2.cell 2
  have f2 := k2.frozen 2
  simp only [List.getElem?_toArray, List.getElem?_cons_zero, List.getElem?_cons_succ] at c2 d2
  have hnil := hide (World.ownsRow_nil W0 (w.heap.size + 3) 3 1)
  have h63 : 0 + s.path.length ≤ maxLen := by unfold maxLen; omega
  have hbb : (0 + s.path.length) * 8 ≤ 140737488355328 := by omega
  have hbs : w.heap.size + 3 ≤ W0.heap.size := by omega
  replace s0 := hide s0
  go_wp2_with (at_builtin; go_loud (refine wpList_append_flat (enc := Go.Inq.encI) rfl (.tmp 12) (.tmp 14) 25 rfl (w.heap.size + 3) 3 ii _ 1 8 Tryz.underlying25 hii hi1 hi2 hi3 rfl (by decide) (.slice none 0 0) (Old W0) ([] : List Int) rfl hnil.out (fun _ => rfl) _ s.path rfl hP0.out Go.Inq.encI_one h63 hbb hbs ?_); intro vp w1 hown1 hg1 hat1; replace hown1 : OwnI w1 (w.heap.size + 3) vp s.path := hown1; have e2 := (k2.grown hg1 (by simp [Value.ownBlock])).cell 2; have ef := (k2.grown hg1 (by simp [Value.ownBlock])).frozen 2; simp only [List.getElem?_toArray, List.getElem?_cons_zero, List.getElem?_cons_succ] at e2; obtain ⟨Ao, co, rfl⟩ := hown1.form)
  have q2 := (k2.grown hg1 (by simp [Value.ownBlock])).set_ 2 (.slice Ao s.path.length co)
  simp only [List.setIfInBounds_toArray, List.set_cons_zero, List.set_cons_succ] at q2
  have hne : (Value.slice Ao s.path.length co).ownBlock ≠ some (w.heap.size + 1 + 1) := fun e => by have := (hown1.lt _ e).1; omega
  have hOP : OwnI (w1.setCell ⟨w.heap.size + 1 + 1, 2, none⟩ (.slice Ao s.path.length co)) (w.heap.size + 3) (.slice Ao s.path.length co) s.path := own_setCell hown1 (p := ⟨w.heap.size + 1 + 1, 2, none⟩) hne _
  have hb1 : Below (w.heap.size + 2) W0 (w1.setCell ⟨w.heap.size + 1 + 1, 2, none⟩ (.slice Ao s.path.length co)) := (below_grown (Below.refl (w.heap.size + 2) W0) hg1 (by omega) (fun k hk => by simp [Value.ownBlock] at hk)).setCell (p := ⟨w.heap.size + 1 + 1, 2, none⟩) (by simp; try omega) _
  generalize w1.setCell ⟨w.heap.size + 1 + 1, 2, none⟩ (.slice Ao s.path.length co) = w2 at *
  clear hnil hg1 ef e2 hat1 hown1 k2 c2 d2 f2 hP0 hne
  go_loopw [4, 5] (fun s4 s5 wr => ∃ (i : Nat) (vl : Value), i ≤ s.left.length ∧ s4 = .int .i64 i ∧ Blk wr (w.heap.size + 1 + 1) 32 #[.int .i64 s.width, .bool s.cut, .slice Ao s.path.length co, vl] ∧ OwnI wr (w.heap.size + 3) (.slice Ao s.path.length co) s.path ∧ LeftO wr (w.heap.size + 3) vl (s.left.take i) ∧ Below (w.heap.size + 2) W0 wr) (fun s4 _ _ => s.left.length - (intOf s4).toNat)
  case atStart => exact ⟨0, .slice none 0 0, Nat.zero_le _, by go_num, q2, hOP, by rw [List.take_zero]; exact LeftO.nil _ _, hb1⟩
  case round =>
    clear q2 hOP hb1
    obtain ⟨i, vl, hi, rfl, q2, hOP, hLO, hb⟩ := hrel
    have hii1 : (0 : Int) ≤ (i : Int) := Int.natCast_nonneg _
    have m0 := k0.below hb (by omega)
    have c3 := m0.cell 3
    have e3 := q2.cell 3
    have ef := q2.frozen 3
    simp only [List.getElem?_toArray, List.getElem?_cons_zero, List.getElem?_cons_succ] at c3 e3
    have hsz0 : W0.heap.size = w.heap.size + 3 := s0.out
    have hbF := hB.trans (hb.mono (by omega))
    have hszr := hbF.size
    by_cases hlt : i < s.left.length
    · have hi2' : (i : Int) < (s.left.length : Int) := by omega
      obtain ⟨bl, ol, Ar, cr, hA, hblo, d0, hrow⟩ := (hL.out.below hbF).at_ hlt
      subst hA
      have hrl := hs3.out _ (List.getElem_mem hlt)
      have hrl9 : 0 + s.left[i].length ≤ maxLen := by unfold maxLen; omega
      have hrlb : (0 + s.left[i].length) * 8 ≤ 140737488355328 := by omega
      have htk := hide (take_snoc' hlt)
      have hlt3 : (s.left.take i).length + 1 ≤ 1000000 := by rw [List.length_take]; omega
      generalize s.left[i] = row at *
      have hnil := hide (World.ownsRow_nil wr (w.heap.size + 3) 3 1)
      have hszb : w.heap.size + 3 ≤ wr.heap.size := by have := hb.size; omega
      obtain ⟨Ax, cx, rfl⟩ := hLO.form
      generalize s.left.take i = L at *
      replace hrow := hide hrow
      replace hLO := hide hLO
      replace hOP := hide hOP
      go_wp2_with (at_builtin; first
        | (refine wpList_append_flat (enc := Go.Inq.encI) rfl (.tmp 24) (.tmp 29) 25 rfl (w.heap.size + 3) 3 ii _ 1 8 Tryz.underlying25 hii hi1 hi2 hi3 rfl (by decide) (.slice none 0 0) (Old wr) ([] : List Int) rfl hnil.out (fun _ => rfl) _ row rfl hrow.out Go.Inq.encI_one hrl9 hrlb hszb ?_
           intro v1 w3 hown1 hg1 hat1
           replace hown1 : OwnI w3 (w.heap.size + 3) v1 row := hown1
           obtain ⟨A1, c1, rfl⟩ := hown1.form
           have hb3 : Below wr.heap.size wr w3 := below_grown (Below.refl wr.heap.size wr) hg1 (Nat.le_refl _) (fun k hk => by simp [Value.ownBlock] at hk)
           have q3 := q2.below hb3 q2.lt
           have hLO3 := hLO.out.below hb3 (Nat.le_refl _)
           have hOP3 := hide (own_below hOP.out hb3 (Nat.le_refl _))
           have hb5 := hb.trans (hb3.mono (by omega))
           have e3' := q3.cell 3
           simp only [List.getElem?_toArray, List.getElem?_cons_zero, List.getElem?_cons_succ] at e3'
           have hsl1 := hide hown1.slK
           have hsz5 : w.heap.size + 3 ≤ w3.heap.size := Nat.le_trans hszb hb3.size
           replace hLO3 := hide hLO3
           replace hown1 := hide hown1
           clear hat1 hg1)
        | (refine wpList_pushL rfl (.tmp 32) (.tmp 34) 26 rfl (w.heap.size + 3) il _ Tryz.underlying26 hil hl1 hl2 hl3 rfl (.slice Ax L.length cx) L rfl hLO3.out (.slice A1 row.length c1) row hsl1.out rfl hlt3 hsz5 w3 (Below.refl _ _) ?_
           intro v4 w4 hLO4 hA4 hb4 hat4 hE4
           have q4 := q3.below hb4 (by omega)
           have e4 := q4.cell 3
           have f4 := q4.frozen 3
           simp only [List.getElem?_toArray, List.getElem?_cons_zero, List.getElem?_cons_succ] at e4
           obtain ⟨A4, c4, hv4⟩ := hLO4.form
           rw [List.length_append, List.length_singleton] at hv4
           subst hv4))
      have q5 := q4.set_ 3 (.slice A4 (L.length + 1) c4)
      simp only [List.setIfInBounds_toArray, List.set_cons_zero, List.set_cons_succ] at q5
      have hne4 : (Value.slice A4 (L.length + 1) c4).ownBlock ≠ some (w.heap.size + 1 + 1) := fun e => by have := (hLO4.lt _ e).1; omega
      have hLO5 := hLO4.set_ (i := 3) q4 (by decide) hne4 (.slice A4 (L.length + 1) c4)
      have hOP5 := (OwnI.keepK hOP3.out hA4).keepK (IntK.set_ (i := 3) q4 (by decide) (.slice A4 (L.length + 1) c4))
      have hb6 := (hb5.trans (hb4.mono (by omega))).setCell (p := ⟨w.heap.size + 1 + 1, 3, none⟩) (by simp) (.slice A4 (L.length + 1) c4)
      go_roundw
      case rel => exact ⟨i + 1, .slice A4 (L.length + 1) c4, by omega, by go_num, q5, hOP5, by rw [htk.out]; exact hLO5, hb6⟩
      case measure => simp [intOf]; omega
    · obtain rfl : i = s.left.length := by omega
      obtain ⟨Ax, cx, hvx⟩ := hLO.form
      rw [List.take_length] at hLO hvx
      subst hvx
      have m1 := k1.below hb (by omega)
      have q0 := q2.cell 0
      have q1 := q2.cell 1
      have q22 := q2.cell 2
      have x0 := m1.cell 0
      have x1 := m1.cell 1
      have x2 := m1.cell 2
      have x3 := m1.cell 3
      have f0 := m1.frozen 0
      have f1 := m1.frozen 1
      have f2 := m1.frozen 2
      have f3 := m1.frozen 3
      simp only [List.getElem?_toArray, List.getElem?_cons_zero, List.getElem?_cons_succ] at q0 q1 q22 x0 x1 x2 x3
      have j1 := ((m1.set_ 0 (.int .i64 s.width)).set_ 1 (.bool s.cut)).set_ 2 (.slice Ao s.path.length co)
      have j3 := j1.set_ 3 (.slice Ax s.left.length cx)
      have m10 := m1.set_ 0 (.int .i64 s.width)
      have m11 := m10.set_ 1 (.bool s.cut)
      simp only [List.setIfInBounds_toArray, List.set_cons_zero, List.set_cons_succ] at j1 j3 m10 m11
      have y0 := j3.cell 0
      have y1 := j3.cell 1
      have y2 := j3.cell 2
      have y3 := j3.cell 3
      simp only [List.getElem?_toArray, List.getElem?_cons_zero, List.getElem?_cons_succ] at y0 y1 y2 y3
      have hlo := hLO.lt
      have hR := hide ((((hLO.set_ (i := 0) m1 (by decide) (fun e => by have := (hlo _ e).1; omega) (.int .i64 s.width)).set_ (i := 1) m10 (by decide) (fun e => by have := (hlo _ e).1; omega) (.bool s.cut)).set_ (i := 2) m11 (by decide) (fun e => by have := (hlo _ e).1; omega) (.slice Ao s.path.length co)).set_ (i := 3) j1 (by decide) (fun e => by have := (hlo _ e).1; omega) (.slice Ax s.left.length cx) |>.base (base' := w.heap.size) (by omega))
      have hQ := hide ((((hOP.keepK (IntK.set_ (i := 0) m1 (by decide) (.int .i64 s.width))).keepK (IntK.set_ (i := 1) m10 (by decide) (.bool s.cut))).keepK (IntK.set_ (i := 2) m11 (by decide) (.slice Ao s.path.length co))).keepK (IntK.set_ (i := 3) j1 (by decide) (.slice Ax s.left.length cx)) |>.base (base' := w.heap.size) (by omega))
      have hz := hide ((((hbF.setCell (p := ⟨w.heap.size + 1, 0, none⟩) (by simp) (.int .i64 s.width)).setCell (p := ⟨w.heap.size + 1, 1, none⟩) (by simp) (.bool s.cut)).setCell (p := ⟨w.heap.size + 1, 2, none⟩) (by simp) (.slice Ao s.path.length co)).setCell (p := ⟨w.heap.size + 1, 3, none⟩) (by simp) (.slice Ax s.left.length cx))
      clear j1 j3 m10 m11 hlo hLO hOP
      go_wp2_with fail
      exact bodyPost_ret (v := .agg #[.int .i64 s.width, .bool s.cut, .slice Ao s.path.length co, .slice Ax s.left.length cx]) (by simp [results, Tryz.results8, go_sem, y0, y1, y2, y3]) rfl ⟨_, _, rfl, hQ.out, hR.out, hz.out⟩
end Go.Proofs.YtfodlklpfffaaaaGreatDoor
