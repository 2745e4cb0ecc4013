/-
  Walks: HistSteps.
-/
import Derived.Test.YtphcebgpllecjaaDoorC30
set_option linter.unusedVariables false
set_option linter.unusedSimpArgs false
namespace Go.Proofs.YtphcebgpllecjaaDoor
open Go.RowKit Go.Inq
set_option maxHeartbeats 4000000
attribute [local go_sem ↓] Go.wp_at_zero Go.wp_at_succ

set_option maxRecDepth 100000 in
theorem histSteps_any (s : ByteArray) (w : World) (hs : s.size ≤ maxLen) (henv : Env w) :
    Calls Tryd.prog 5 #[.string s] w fun e w' => e = .returned (.bool true) ∧ Below w.heap.size w w' := by
  have hs2 : s.size ≤ 9223372036854775807 := hs
  go_enter Tryd.func5, Tryd.ntmps5
  go_wp2_with fail
  refine (awake8_any _ henv).mono ?_
  rintro e w1 ⟨rfl, B1⟩
  have e1 := henv.below B1
  by_cases q0 : 4000 < s.size
  · have d0 : decide ((s.size : Int) > 4000) = true := by simp; omega
    go_wp2
    go_ret
    exact ⟨by simp, B1⟩
  have d0 : decide ((s.size : Int) > 4000) = false := by simp; omega
  have q3 : s.size ≤ 1000000 := by omega
  clear henv
  have hpc := parse8_any s w1 q3 e1
  have hdl := diaryR_len s.data.toList
  rcases hD : diaryR s.data.toList with ⟨es, p, f⟩
  rw [hD] at hdl
  dsimp only at hdl
  by_cases hf : f = 0
  · subst hf
    have hgr := grouped es
    rcases hG : groupR es with ⟨T, q, f2⟩
    obtain ⟨⟨hq1, hq2⟩, hTl, hTe⟩ := hgr
    rw [hG] at hq1 hq2 hTl hTe
    dsimp only at hq1 hq2 hTl hTe
    by_cases hf2 : f2 = 0
    · subst hf2
      have hsm : SmallT T := ⟨by omega, fun t ht => by have := hTe t ht; omega⟩
      have hpl := fun g => hist_place (T := T) g
      have hsH := histR_smallH T
      rcases hHh : histR T with ⟨H, k, f3⟩
      rw [hHh] at hpl hsH
      dsimp only at hpl hsH
      replace hsm := hide hsm
      by_cases hf3 : f3 = 0
      · subst hf3
        have hr := hide (parseH_good hD hG hHh)
        replace hD := hide hD
        replace hG := hide hG
        replace hHh := hide hHh
        clear hpl hTe
        go_wp2_with fail
        refine hpc.mono ?_
        clear hpc
        rw [hr.out]
        intro e w2 ho
        obtain ⟨A2, c2, rfl, r2, hb2⟩ := ho.open
        dsimp only at r2
        clear ho
        have hb3 := hb2.alloc hb2.size (.cells #[.slice A2 H.length c2] 24)
        have g3 : Blk (w2.alloc (.cells #[.slice A2 H.length c2] 24)) w2.heap.size 24 #[.slice A2 H.length c2] := Blk.new _ _ _
        have r3 := TxnS.below r2 ((Below.refl _ _).alloc (Nat.le_refl _) (.cells #[.slice A2 H.length c2] 24))
        have B3 := B1.trans (hb3.mono B1.size)
        have e3 := e1.below hb3
        clear hb2 hb3 B1 e1 r2
        have hdc := dparse_any s _ q3 e3
        rw [hD.out] at hdc
        go_wp2_with fail
        refine hdc.mono ?_
        clear hdc
        intro e w4 ho
        obtain ⟨A1, c1, rfl, k4, hb4⟩ := ho.open
        clear ho
        dsimp only at k4
        have g4 := g3.below hb4 g3.lt
        have r4 := TxnS.below r3 hb4
        have B4 := B3.trans (hb4.mono B3.size)
        clear g3 r3 B3 e3 hb4
        have y0 := g4.cell 0
        simp only [List.getElem?_toArray, List.getElem?_cons_zero] at y0
        have hgc := group5_any es A1 c1 w4 k4 (by omega)
        rw [hG.out] at hgc
        go_wp2_with fail
        refine hgc.mono ?_
        clear hgc
        rintro e w5 ⟨v5, rfl, k5, hb5⟩
        dsimp only at k5
        obtain ⟨A5, c5, rfl⟩ := SlR.form k5
        replace k5 := TxS.fit (K' := Old w5) k5 (fun b h => h.2)
        have g5 := g4.below hb5 g4.lt
        have r5 := TxnS.below r4 hb5
        have B5 := B4.trans (hb5.mono B4.size)
        clear g4 r4 B4 hb5 y0
        have y0 := g5.cell 0
        simp only [List.getElem?_toArray, List.getElem?_cons_zero] at y0
        have hhc := hist7_any T A5 c5 w5 k5 hsm.out
        rw [hHh.out] at hhc
        go_wp2_with fail
        refine hhc.mono ?_
        clear hhc
        intro e w6 ho
        obtain ⟨A6, c6, rfl, k6, hb6⟩ := ho.open
        dsimp only at k6
        clear ho
        have hb7 := hb6.alloc hb6.size (.cells #[.slice A6 H.length c6] 24)
        have j7 : Blk (w6.alloc (.cells #[.slice A6 H.length c6] 24)) w6.heap.size 24 #[.slice A6 H.length c6] := Blk.new _ _ _
        have q7 := TxnS.below k6 ((Below.refl _ _).alloc (Nat.le_refl _) (.cells #[.slice A6 H.length c6] 24))
        have g7 := g5.below hb7 g5.lt
        have r7 := TxnS.below r5 hb7
        have B7 := B5.trans (hb7.mono B5.size)
        have k7 := TxS.below k5 hb7
        clear g5 r5 B5 hb6 hb7 k6 y0
        have y0 := g7.cell 0
        have z0 := j7.cell 0
        simp only [List.getElem?_toArray, List.getElem?_cons_zero] at y0 z0
        go_wp2_with fail
        refine (same07_any A2 A6 c2 c6 H H _ r7 q7 hsH hsH).mono ?_
        rintro e w8 ⟨rfl, hb8⟩
        simp only [decide_true]
        go_wp2
        go_ret
        exact ⟨by simp, B7.trans (hb8.mono B7.size)⟩
      · obtain ⟨m, rfl, hm⟩ := hpl hf3
        have hr := hide (parseH_hist hD hG hHh hf3 hm)
        replace hD := hide hD
        replace hG := hide hG
        replace hHh := hide hHh
        have hfb : (f3 != 0) = true := by simpa using hf3
        obtain ⟨t1, t2, _⟩ := hTe _ (List.getElem_mem hm)
        have hm1 : (0 : Int) ≤ (m : Int) := Int.natCast_nonneg _
        have hm2 : (m : Int) < (T.length : Int) := by omega
        clear hpl hTe hf3
        go_wp2_with fail
        refine hpc.mono ?_
        clear hpc
        rw [hr.out]
        intro e w2 ho
        obtain ⟨A2, c2, rfl, r2, hb2⟩ := ho.open
        dsimp only at r2
        clear ho
        have hb3 := hb2.alloc hb2.size (.cells #[.slice A2 0 c2] 24)
        have g3 : Blk (w2.alloc (.cells #[.slice A2 0 c2] 24)) w2.heap.size 24 #[.slice A2 0 c2] := Blk.new _ _ _
        have r3 := TxnS.below r2 ((Below.refl _ _).alloc (Nat.le_refl _) (.cells #[.slice A2 0 c2] 24))
        have B3 := B1.trans (hb3.mono B1.size)
        have e3 := e1.below hb3
        clear hb2 hb3 B1 e1 r2
        have hdc := dparse_any s _ q3 e3
        rw [hD.out] at hdc
        go_wp2_with fail
        refine hdc.mono ?_
        clear hdc
        intro e w4 ho
        obtain ⟨A1, c1, rfl, k4, hb4⟩ := ho.open
        clear ho
        dsimp only at k4
        have g4 := g3.below hb4 g3.lt
        have r4 := TxnS.below r3 hb4
        have B4 := B3.trans (hb4.mono B3.size)
        clear g3 r3 B3 e3 hb4
        have y0 := g4.cell 0
        simp only [List.getElem?_toArray, List.getElem?_cons_zero] at y0
        have hgc := group5_any es A1 c1 w4 k4 (by omega)
        rw [hG.out] at hgc
        go_wp2_with fail
        refine hgc.mono ?_
        clear hgc
        rintro e w5 ⟨v5, rfl, k5, hb5⟩
        dsimp only at k5
        obtain ⟨A5, c5, rfl⟩ := SlR.form k5
        replace k5 := TxS.fit (K' := Old w5) k5 (fun b h => h.2)
        have g5 := g4.below hb5 g4.lt
        have r5 := TxnS.below r4 hb5
        have B5 := B4.trans (hb5.mono B4.size)
        clear g4 r4 B4 hb5 y0
        have y0 := g5.cell 0
        simp only [List.getElem?_toArray, List.getElem?_cons_zero] at y0
        have hhc := hist7_any T A5 c5 w5 k5 hsm.out
        rw [hHh.out] at hhc
        go_wp2_with fail
        refine hhc.mono ?_
        clear hhc
        intro e w6 ho
        obtain ⟨A6, c6, rfl, k6, hb6⟩ := ho.open
        dsimp only at k6
        clear ho
        have hb7 := hb6.alloc hb6.size (.cells #[.slice A6 H.length c6] 24)
        have j7 : Blk (w6.alloc (.cells #[.slice A6 H.length c6] 24)) w6.heap.size 24 #[.slice A6 H.length c6] := Blk.new _ _ _
        have q7 := TxnS.below k6 ((Below.refl _ _).alloc (Nat.le_refl _) (.cells #[.slice A6 H.length c6] 24))
        have g7 := g5.below hb7 g5.lt
        have r7 := TxnS.below r5 hb7
        have B7 := B5.trans (hb7.mono B5.size)
        have k7 := TxS.below k5 hb7
        clear g5 r5 B5 hb6 hb7 k6 y0
        have y0 := g7.cell 0
        have z0 := j7.cell 0
        simp only [List.getElem?_toArray, List.getElem?_cons_zero] at y0 z0
        obtain ⟨bt, ot, At, ct, rfl, hbt, _, _, x2, _, _⟩ := TxS.at_ k7 hm
        generalize T[m].first = tf at *
        have hw1 : IntKind.i64.wrap (tf + 1) = tf + 1 := by rw [IntKind.wrap_i64]; omega
        go_wp2
        go_ret
        exact ⟨by simp, B7⟩
    · have hr := hide (parseH_group hD hG hf2)
      replace hD := hide hD
      replace hG := hide hG
      have hfb : (f2 != 0) = true := by simpa using hf2
      have hw1 : IntKind.i64.wrap (q + 1) = q + 1 := by rw [IntKind.wrap_i64]; omega
      clear hf2 hTe
      go_wp2_with fail
      refine hpc.mono ?_
      clear hpc
      rw [hr.out]
      intro e w2 ho
      obtain ⟨A2, c2, rfl, r2, hb2⟩ := ho.open
      dsimp only at r2
      clear ho
      have hb3 := hb2.alloc hb2.size (.cells #[.slice A2 0 c2] 24)
      have g3 : Blk (w2.alloc (.cells #[.slice A2 0 c2] 24)) w2.heap.size 24 #[.slice A2 0 c2] := Blk.new _ _ _
      have r3 := TxnS.below r2 ((Below.refl _ _).alloc (Nat.le_refl _) (.cells #[.slice A2 0 c2] 24))
      have B3 := B1.trans (hb3.mono B1.size)
      have e3 := e1.below hb3
      clear hb2 hb3 B1 e1 r2
      have hdc := dparse_any s _ q3 e3
      rw [hD.out] at hdc
      go_wp2_with fail
      refine hdc.mono ?_
      clear hdc
      intro e w4 ho
      obtain ⟨A1, c1, rfl, k4, hb4⟩ := ho.open
      clear ho
      dsimp only at k4
      have g4 := g3.below hb4 g3.lt
      have r4 := TxnS.below r3 hb4
      have B4 := B3.trans (hb4.mono B3.size)
      clear g3 r3 B3 e3 hb4
      have y0 := g4.cell 0
      simp only [List.getElem?_toArray, List.getElem?_cons_zero] at y0
      have hgc := group5_any es A1 c1 w4 k4 (by omega)
      rw [hG.out] at hgc
      go_wp2_with fail
      refine hgc.mono ?_
      clear hgc
      rintro e w5 ⟨v5, rfl, k5, hb5⟩
      dsimp only at k5
      obtain ⟨A5, c5, rfl⟩ := SlR.form k5
      replace k5 := TxS.fit (K' := Old w5) k5 (fun b h => h.2)
      have g5 := g4.below hb5 g4.lt
      have r5 := TxnS.below r4 hb5
      have B5 := B4.trans (hb5.mono B4.size)
      clear g4 r4 B4 hb5 y0
      have y0 := g5.cell 0
      simp only [List.getElem?_toArray, List.getElem?_cons_zero] at y0
      go_wp2
      go_ret
      exact ⟨by simp, B5⟩
  · have hr := hide (parseH_diary hD hf)
    replace hD := hide hD
    have hfb : (f != 0) = true := by simpa using hf
    clear hf
    go_wp2_with fail
    refine hpc.mono ?_
    clear hpc
    rw [hr.out]
    intro e w2 ho
    obtain ⟨A2, c2, rfl, r2, hb2⟩ := ho.open
    dsimp only at r2
    clear ho
    have hb3 := hb2.alloc hb2.size (.cells #[.slice A2 0 c2] 24)
    have g3 : Blk (w2.alloc (.cells #[.slice A2 0 c2] 24)) w2.heap.size 24 #[.slice A2 0 c2] := Blk.new _ _ _
    have r3 := TxnS.below r2 ((Below.refl _ _).alloc (Nat.le_refl _) (.cells #[.slice A2 0 c2] 24))
    have B3 := B1.trans (hb3.mono B1.size)
    have e3 := e1.below hb3
    clear hb2 hb3 B1 e1 r2
    have hdc := dparse_any s _ q3 e3
    rw [hD.out] at hdc
    go_wp2_with fail
    refine hdc.mono ?_
    clear hdc
    intro e w4 ho
    obtain ⟨A1, c1, rfl, k4, hb4⟩ := ho.open
    clear ho
    dsimp only at k4
    have g4 := g3.below hb4 g3.lt
    have r4 := TxnS.below r3 hb4
    have B4 := B3.trans (hb4.mono B3.size)
    clear g3 r3 B3 e3 hb4
    have y0 := g4.cell 0
    simp only [List.getElem?_toArray, List.getElem?_cons_zero] at y0
    go_wp2
    go_ret
    exact ⟨by simp, B4⟩
end Go.Proofs.YtphcebgpllecjaaDoor

namespace Go.Proofs.YtphcebgpllecjaaDoor
open Go.ChangeShapes Go.WideShapes Go.ChangeAt Go.RowKit Go.Inq

set_option maxRecDepth 100000 in
theorem histSteps_lifted (os : Os) (started : os.Started) (H : Type) (enc : TypeId × Value → H) :
    ReturnsInHanded {} Tryd.checked os 5 .any (fun w args => (Rows.histStepsSpec.pre enc Tryd.prog Tryd.f5 Rows.histStepsRow.domain false w args ∧ laidMetH Tryd.prog Rows.histStepsRow.laid w) ∧ sizedMet enc Tryd.prog Tryd.f5 (OpenSpec.ofChange Rows.histStepsSpec) false w args)
      (Rows.histStepsSpec.post enc Tryd.prog Tryd.f5 false true false false) := by
  refine returnsInHanded_shaped_and (C := Tryd.checked) (X := fun w _ => laidMetH Tryd.prog Rows.histStepsRow.laid w) (fun _ _ _ hh h => h.of_heap hh) own started (by kernel_rfl) Tryd.func5
    (ChangeSpec.witness_shaped (enc := enc) (C := Tryd.checked) (os := os) (X := fun w _ => laidMetH Tryd.prog Rows.histStepsRow.laid w) false (World.laidAll Tryd.prog os Rows.histStepsRow.laid) #[.string ⟨#[]⟩] 8 (World.laidAll_os _ _ _)
      (World.shaped_of_ZipB (by kernel_rfl) (by kernel_rfl)) (by kernel_rfl) (by kernel_rfl) (by kernel_rfl)
      (by rw [MakeChecks.laidMetH_plain _ _ _ (by kernel_rfl)]; exact laidMet_laidAll _ (by kernel_rfl) (by kernel_rfl))) ?_
  intro W base args ds gs before hval0 hW hL hsh
  have hval : ∀ (j : Nat) t v, Tryd.f5.params[j]? = some t → args[j]? = some v → Value.okWide Tryd.prog W .any base t v := hval0
  have hW' := hW
  obtain ⟨p, q, hA0, hV, rfl, hfz, hnd⟩ := hW
  have hlt : ∀ x ∈ p ++ q, x.block < W.heap.size := fun x hx => hW'.lt x hx
  have hA : DataW.TrodAll enc Tryd.prog W 0 (fun _ => true) true Tryd.f5.params.toList args.toList ds p := hA0
  rw [Tryd.params5] at hA hval
  obtain ⟨v0, d0, rfl, rfl, h0⟩ := trodAll_one hA
  obtain ⟨rfl, rfl⟩ := trodVars_none hV
  obtain ⟨s0, rfl⟩ := okWide_string Tryd.underlying9 (hval 0 9 v0 rfl rfl)
  have hs0 := str_size h0
  refine (histSteps_any s0 W hs0 (Env.of hsh hL (MakeChecks.laidMetH_plain _ _ _ (by kernel_rfl)) (.tail _ (.tail _ (.head _))) (.tail _ (.tail _ (.tail _ (.tail _ (.head _))))))).mono fun e W2 he => ?_
  obtain ⟨he, hb⟩ := he
  subst he
  exact ⟨_, rfl, [d0], [], p ++ [], [], p, [], hW', trodAll_mk1 (shut_bool Tryd.underlying4 true), Below.trodAll hb (by kernel_rfl) hA (fun x hx => hlt x (List.mem_append.2 (.inl hx))), rfl, hb.frame _, fun h => by cases h⟩

theorem histSteps_holds : Rows.HistStepsSaid :=
  OpenClaim.holds_of_wide 5 Tryd.f5 rfl rfl rfl rfl rfl rfl rfl ⟨rfl, rfl, rfl, rfl, rfl⟩ rfl rfl rfl rfl rfl (by kernel_rfl) Tryd.func5 (by kernel_rfl)
    (of_decide_eq_true (by kernel_rfl)) (by unfold Func.isWrapper; first | (rw [if_pos (by decide +kernel)]; kernel_rfl) | (rw [if_neg (by decide +kernel)]; exact ⟨rfl, rfl⟩))
    (fun os started H enc _ => histSteps_lifted os started H enc)
theorem histSteps_card_holds : Rows.HistStepsCardSaid :=
  Claim7.holds_tied_plain_at .later [] [.data, .data, .data, .data, .data, .pinned] true (true, "933f6c9056a38844fa0b79a43b83a0353e02b1256637b1455fcfd22ee878c74d") true histSteps_holds (fun _ h => by cases h) (by kernel_rfl) (fun _ h => by cases h) histSteps_row_tie rfl ⟨rfl, rfl⟩ (by kernel_rfl) rfl
    (fun f fn hf hfn => by
      obtain rfl : f = 5 := Option.some.inj ((show Tryd.prog.funcNamed Rows.histStepsRow.func = some 5 by kernel_rfl).symm.trans hf) |>.symm
      obtain rfl : fn = Tryd.f5 := (Option.some.inj (Tryd.func5.symm.trans hfn)).symm
      exact ⟨by kernel_rfl, fun j t ht => by
        rw [Tryd.params5] at ht
        have hm : t ∈ [9] := by simpa using Array.mem_of_getElem? ht
        have hall : ([9].all fun u => !Tryd.prog.wantsStandIn u) = true := by kernel_rfl
        exact (show Tryd.prog.wantsStandIn t = false by simpa using List.all_eq_true.1 hall t hm)⟩)
    (by kernel_rfl)
#print axioms histSteps_card_holds
end Go.Proofs.YtphcebgpllecjaaDoor
