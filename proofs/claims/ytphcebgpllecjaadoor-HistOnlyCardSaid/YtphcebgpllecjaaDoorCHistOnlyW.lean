/-
  Walks: HistOnly.
-/
import Derived.Test.YtphcebgpllecjaaDoorC30
set_option linter.unusedVariables false
set_option linter.unusedSimpArgs false
namespace Go.Proofs.YtphcebgpllecjaaDoor
open Go.RowKit Go.Inq
set_option maxHeartbeats 4000000
attribute [local go_sem ↓] Go.wp_at_zero Go.wp_at_succ

theorem diary_place (l : List UInt8) : 0 ≤ (diaryR l).2.1 := by
  by_cases h : (splitR l).2 ≠ 0
  · rw [diaryR_split h]; simp
  · rw [diaryR_rows (by omega)]
    rcases evsR_ways (splitR l).1 with g | ⟨i, hi, hj, hb⟩
    · rw [evsR_good g]; simp
    · rw [evsR_bad hi hj hb]; dsimp only; omega
theorem parse_place (s : List UInt8) : 0 ≤ (parseH s).2.1 := by
  have hd := diary_place s
  have hgr := grouped (diaryR s).1
  unfold parseH
  split
  · exact hd
  · split
    · have := hgr.place.1; dsimp only; omega
    · split
      · rename_i g
        obtain ⟨k, hk, hkl⟩ := hist_place g
        have := hgr.each _ (List.getElem_mem hkl)
        dsimp only
        rw [hk, Int.toNat_natCast, List.getElem?_eq_getElem hkl]
        simp
        omega
      · simp

set_option maxRecDepth 100000 in
theorem histOnly_any (s : ByteArray) (w : World) (hs : s.size ≤ maxLen) (henv : Env w) :
    Calls Tryd.prog 4 #[.string s] w fun e w' => e = .returned (.bool true) ∧ Below w.heap.size w w' := by
  have hs2 : s.size ≤ 9223372036854775807 := hs
  go_enter Tryd.func4, Tryd.ntmps4
  go_wp2_with fail
  refine (awake8_any _ henv).mono ?_
  rintro e w1 ⟨rfl, B1⟩
  have e1 := henv.below B1
  by_cases q0 : 4000 < s.size
  · have d0 : decide ((s.size : Int) > 4000) = true := by simp; omega
    go_wp2
    go_ret
    exact ⟨by simp, B1⟩
  have d0 : decide ((s.size : Int) > 4000) = false := by simp; omega
  have q3 : s.size ≤ 1000000 := by omega
  clear henv
  have hc := parse8_any s w1 q3 e1
  have hpl := parse_place s.data.toList
  have hsm := parseH_small s.data.toList
  have honly := fun g => hist_only (s := s.data.toList) g
  have herr := fun g => parseH_err (s := s.data.toList) g
  generalize parseH s.data.toList = P at *
  obtain ⟨H, at_, f⟩ := P
  dsimp only at hpl honly herr hsm
  go_wp2_with fail
  refine hc.mono ?_
  clear hc
  intro e w2 ho
  obtain ⟨A2, c2, rfl, r2, hb2⟩ := ho.open
  dsimp only at r2
  clear ho
  have hb3 := hb2.alloc hb2.size (.cells #[.slice A2 H.length c2] 24)
  have g3 : Blk (w2.alloc (.cells #[.slice A2 H.length c2] 24)) w2.heap.size 24 #[.slice A2 H.length c2] := Blk.new _ _ _
  have r3 := TxnS.below r2 ((Below.refl _ _).alloc (Nat.le_refl _) (.cells #[.slice A2 H.length c2] 24))
  have B3 := B1.trans (hb3.mono B1.size)
  have e3 := e1.below hb3
  clear hb2 hb3 B1 e1 r2
  have y0 := g3.cell 0
  simp only [List.getElem?_toArray, List.getElem?_cons_zero] at y0
  have hl0 : (0 : Int) ≤ (H.length : Int) := Int.natCast_nonneg _
  by_cases hf : f = 0
  · subst hf
    obtain ⟨rfl, hr, hz⟩ := honly rfl
    have hbk := (hist_back hz).2
    have hc := show8_any A2 c2 H _ r3 hsm e3
    have hsl := showH_len H
    replace hr := hide hr
    clear honly herr
    generalize showH H = t at *
    obtain ⟨tx, g⟩ := t
    dsimp only at hz hbk hsl hc
    subst hz
    replace hbk := hide hbk
    go_wp2_with fail
    refine hc.mono ?_
    rintro e w4 ⟨rfl, hb4⟩
    have g4 := g3.below hb4 g3.lt
    have r4 := TxnS.below r3 hb4
    have B4 := B3.trans (hb4.mono B3.size)
    have e4 := e3.below hb4
    clear hc g3 r3 B3 e3 hb4 y0
    have hsz : (mk tx).size ≤ 1000000 := by rw [show (mk tx).size = tx.length from by simp [mk, ByteArray.size]]; exact hsl
    have hc := parse8_any (mk tx) w4 hsz e4
    rw [show (mk tx).data.toList = tx from by simp [mk], hbk.out] at hc
    go_wp2_with fail
    refine hc.mono ?_
    clear hc
    intro e w5 ho
    obtain ⟨A5, c5, rfl, r5, hb5⟩ := ho.open
    dsimp only at r5
    clear ho
    have hb6 := hb5.alloc hb5.size (.cells #[.slice A5 H.length c5] 24)
    have j6 : Blk (w5.alloc (.cells #[.slice A5 H.length c5] 24)) w5.heap.size 24 #[.slice A5 H.length c5] := Blk.new _ _ _
    have q6 := TxnS.below r5 ((Below.refl _ _).alloc (Nat.le_refl _) (.cells #[.slice A5 H.length c5] 24))
    have r6 := TxnS.below r4 hb6
    have g6 := g4.below hb6 g4.lt
    have B6 := B4.trans (hb6.mono B4.size)
    clear r5 hb5 r4 g4 B4 e4 hb6
    have y0 := g6.cell 0
    simp only [List.getElem?_toArray, List.getElem?_cons_zero] at y0
    have hc := right8_any A2 c2 H _ r6 hsm
    rw [hr.out] at hc
    go_wp2_with fail
    refine hc.mono ?_
    clear hc
    rintro e w7 ⟨rfl, hb7⟩
    have q7 := TxnS.below q6 hb7
    have r7 := TxnS.below r6 hb7
    have g7 := g6.below hb7 g6.lt
    have j7 := j6.below hb7 j6.lt
    have B7 := B6.trans (hb7.mono B6.size)
    clear q6 r6 g6 j6 B6 hb7 y0
    have y0 := g7.cell 0
    have z0 := j7.cell 0
    simp only [List.getElem?_toArray, List.getElem?_cons_zero] at y0 z0
    go_wp2_with fail
    refine (same07_any A5 A2 c5 c2 H H _ q7 r7 hsm hsm).mono ?_
    rintro e w8 ⟨rfl, hb8⟩
    simp only [decide_true]
    go_wp2
    go_ret
    exact ⟨by simp, B7.trans (hb8.mono B7.size)⟩
  · have hfb : (f != 0) = true := by simpa using hf
    obtain rfl := herr hf
    have hge : decide (at_ ≥ 0) = true := by simpa using hpl
    clear hf honly herr hsm r3
    go_wp2
    go_ret
    exact ⟨by simp, B3⟩
end Go.Proofs.YtphcebgpllecjaaDoor

namespace Go.Proofs.YtphcebgpllecjaaDoor
open Go.ChangeShapes Go.WideShapes Go.ChangeAt Go.RowKit Go.Inq

set_option maxRecDepth 100000 in
theorem histOnly_lifted (os : Os) (started : os.Started) (H : Type) (enc : TypeId × Value → H) :
    ReturnsInHanded {} Tryd.checked os 4 .any (fun w args => (Rows.histOnlySpec.pre enc Tryd.prog Tryd.f4 Rows.histOnlyRow.domain false w args ∧ laidMetH Tryd.prog Rows.histOnlyRow.laid w) ∧ sizedMet enc Tryd.prog Tryd.f4 (OpenSpec.ofChange Rows.histOnlySpec) false w args)
      (Rows.histOnlySpec.post enc Tryd.prog Tryd.f4 false true false false) := by
  refine returnsInHanded_shaped_and (C := Tryd.checked) (X := fun w _ => laidMetH Tryd.prog Rows.histOnlyRow.laid w) (fun _ _ _ hh h => h.of_heap hh) own started (by kernel_rfl) Tryd.func4
    (ChangeSpec.witness_shaped (enc := enc) (C := Tryd.checked) (os := os) (X := fun w _ => laidMetH Tryd.prog Rows.histOnlyRow.laid w) false (World.laidAll Tryd.prog os Rows.histOnlyRow.laid) #[.string ⟨#[]⟩] 8 (World.laidAll_os _ _ _)
      (World.shaped_of_ZipB (by kernel_rfl) (by kernel_rfl)) (by kernel_rfl) (by kernel_rfl) (by kernel_rfl)
      (by rw [MakeChecks.laidMetH_plain _ _ _ (by kernel_rfl)]; exact laidMet_laidAll _ (by kernel_rfl) (by kernel_rfl))) ?_
  intro W base args ds gs before hval0 hW hL hsh
  have hval : ∀ (j : Nat) t v, Tryd.f4.params[j]? = some t → args[j]? = some v → Value.okWide Tryd.prog W .any base t v := hval0
  have hW' := hW
  obtain ⟨p, q, hA0, hV, rfl, hfz, hnd⟩ := hW
  have hlt : ∀ x ∈ p ++ q, x.block < W.heap.size := fun x hx => hW'.lt x hx
  have hA : DataW.TrodAll enc Tryd.prog W 0 (fun _ => true) true Tryd.f4.params.toList args.toList ds p := hA0
  rw [Tryd.params4] at hA hval
  obtain ⟨v0, d0, rfl, rfl, h0⟩ := trodAll_one hA
  obtain ⟨rfl, rfl⟩ := trodVars_none hV
  obtain ⟨s0, rfl⟩ := okWide_string Tryd.underlying9 (hval 0 9 v0 rfl rfl)
  have hs0 := str_size h0
  refine (histOnly_any s0 W hs0 (Env.of hsh hL (MakeChecks.laidMetH_plain _ _ _ (by kernel_rfl)) (.tail _ (.tail _ (.head _))) (.tail _ (.tail _ (.tail _ (.tail _ (.head _))))))).mono fun e W2 he => ?_
  obtain ⟨he, hb⟩ := he
  subst he
  exact ⟨_, rfl, [d0], [], p ++ [], [], p, [], hW', trodAll_mk1 (shut_bool Tryd.underlying4 true), Below.trodAll hb (by kernel_rfl) hA (fun x hx => hlt x (List.mem_append.2 (.inl hx))), rfl, hb.frame _, fun h => by cases h⟩

theorem histOnly_holds : Rows.HistOnlySaid :=
  OpenClaim.holds_of_wide 4 Tryd.f4 rfl rfl rfl rfl rfl rfl rfl ⟨rfl, rfl, rfl, rfl, rfl⟩ rfl rfl rfl rfl rfl (by kernel_rfl) Tryd.func4 (by kernel_rfl)
    (of_decide_eq_true (by kernel_rfl)) (by unfold Func.isWrapper; first | (rw [if_pos (by decide +kernel)]; kernel_rfl) | (rw [if_neg (by decide +kernel)]; exact ⟨rfl, rfl⟩))
    (fun os started H enc _ => histOnly_lifted os started H enc)
theorem histOnly_card_holds : Rows.HistOnlyCardSaid :=
  Claim7.holds_tied_plain_at .later [] [.data, .data, .data, .data, .data, .pinned] true (true, "933f6c9056a38844fa0b79a43b83a0353e02b1256637b1455fcfd22ee878c74d") true histOnly_holds (fun _ h => by cases h) (by kernel_rfl) (fun _ h => by cases h) histOnly_row_tie rfl ⟨rfl, rfl⟩ (by kernel_rfl) rfl
    (fun f fn hf hfn => by
      obtain rfl : f = 4 := Option.some.inj ((show Tryd.prog.funcNamed Rows.histOnlyRow.func = some 4 by kernel_rfl).symm.trans hf) |>.symm
      obtain rfl : fn = Tryd.f4 := (Option.some.inj (Tryd.func4.symm.trans hfn)).symm
      exact ⟨by kernel_rfl, fun j t ht => by
        rw [Tryd.params4] at ht
        have hm : t ∈ [9] := by simpa using Array.mem_of_getElem? ht
        have hall : ([9].all fun u => !Tryd.prog.wantsStandIn u) = true := by kernel_rfl
        exact (show Tryd.prog.wantsStandIn t = false by simpa using List.all_eq_true.1 hall t hm)⟩)
    (by kernel_rfl)
#print axioms histOnly_card_holds
end Go.Proofs.YtphcebgpllecjaaDoor
