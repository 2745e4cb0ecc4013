/-
  Walks: the reference of layer 8: inquestref08.Parse.
-/
import Derived.Test.YtphcebgpllecjaaGreatDoorC25
import Derived.Test.YtphcebgpllecjaaGreatDoorC35
import Derived.Test.YtphcebgpllecjaaGreatDoorC36
import Derived.Test.YtphcebgpllecjaaGreatDoorC30
import Derived.Test.YtphcebgpllecjaaGreatDoorC06
set_option linter.unusedVariables false
set_option linter.unusedSimpArgs false
namespace Go.Proofs.YtphcebgpllecjaaGreatDoor
open Go.RowKit Go.Inq
set_option maxHeartbeats 4000000
attribute [local go_sem ↓] Go.wp_at_zero Go.wp_at_succ

set_option maxRecDepth 100000 in
theorem rparse8_any (s : ByteArray) (w : World) (hs : s.size ≤ 1000000) : Calls Tryz.prog 7 #[.string s] w (HistOut (parseH s.data.toList) w) := by
  have k0 : Blk (w.alloc (.cells #[.slice none 0 0] 24)) w.heap.size 24 #[.slice none 0 0] := Blk.new _ _ _
  have hA : Below w.heap.size w (w.alloc (.cells #[.slice none 0 0] 24)) := (Below.refl _ _).alloc (Nat.le_refl _) _
  have hdl := diaryR_len s.data.toList
  have hdc := rdparse_any s (w.alloc (.cells #[.slice none 0 0] 24)) hs
  rcases hD : diaryR s.data.toList with ⟨es, p, f⟩
  rw [hD] at hdl hdc
  dsimp only at hdl
  by_cases hf : f = 0
  · subst hf
    have hgr := grouped es
    rcases hG : groupR es with ⟨T, q, f2⟩
    obtain ⟨⟨hq1, hq2⟩, hTl, hTe⟩ := hgr
    rw [hG] at hq1 hq2 hTl hTe
    dsimp only at hq1 hq2 hTl hTe
    by_cases hf2 : f2 = 0
    · subst hf2
      have hsm : SmallT T := ⟨by omega, fun t ht => by have := hTe t ht; omega⟩
      have hpl := fun g => hist_place (T := T) g
      rcases hHh : histR T with ⟨H, k, f3⟩
      rw [hHh] at hpl
      dsimp only at hpl
      replace hsm := hide hsm
      by_cases hf3 : f3 = 0
      · subst hf3
        have hr := hide (parseH_good hD hG hHh)
        replace hD := hide hD
        replace hG := hide hG
        replace hHh := hide hHh
        clear hpl hTe
        go_enter Tryz.func7, Tryz.ntmps7
        go_wp2_with fail
        refine hdc.mono ?_
        clear hdc
        intro e w1 ho
        obtain ⟨A1, c1, rfl, k1, hb1⟩ := ho.open
        clear ho
        dsimp only at k1 hdl
        have b1 := k0.below hb1 k0.lt
        have B1 := hA.trans (hb1.mono hA.size)
        clear k0 hA hb1
        have y0 := b1.cell 0
        simp only [List.getElem?_toArray, List.getElem?_cons_zero] at y0
        have z0 := b1.frozen 0
        have hgc := rgroup5_any es A1 c1 w1 k1 (by omega)
        rw [hG.out] at hgc
        go_wp2_with fail
        refine hgc.mono ?_
        clear hgc
        rintro e w2 ⟨v2, rfl, k2, hb2⟩
        dsimp only at k2
        obtain ⟨A2, c2, rfl⟩ := SlR.form k2
        have hb1l := b1.lt
        have k2x := hide (TxS.fit (K' := fun b => w.heap.size < b ∧ b < w2.heap.size) k2 (fun b h => ⟨by omega, h.2⟩))
        replace k2 := TxS.fit (K' := Old w2) k2 (fun b h => h.2)
        clear hb1l
        have b2 := b1.below hb2 b1.lt
        have B2 := B1.trans (hb2.mono B1.size)
        clear y0 z0 b1 B1 hb2 k1
        have y0 := b2.cell 0
        simp only [List.getElem?_toArray, List.getElem?_cons_zero] at y0
        have z0 := b2.frozen 0
        have hhc := rhist7_any T A2 c2 w2 k2 hsm.out
        rw [hHh.out] at hhc
        go_wp2_with fail
        refine hhc.mono ?_
        clear hhc
        rintro e w3 ⟨v3, rfl, k3, hb3⟩
        dsimp only at k3
        obtain ⟨A3, c3, rfl⟩ := SlR.form k3
        have b3 := b2.below hb3 b2.lt
        have B3 := B2.trans (hb3.mono B2.size)
        clear k2
        have k2 := TxS.keep k2x.out (Agree.below hb3 (fun b h => h.2)) (K' := fun b => w.heap.size < b ∧ b < w3.heap.size) (fun b h => ⟨h.1, by have := hb3.size; omega⟩)
        clear k2x
        have hs3 : w.heap.size < w3.heap.size := b3.lt
        have hs32 := hb3.size
        have hs2 : w.heap.size < w2.heap.size := b2.lt
        clear y0 z0 b2 B2
        replace hb3 := hide hb3
        have b4 := b3.alloc (.cells #[.slice A3 H.length c3] 24)
        have B4 := B3.alloc B3.size (.cells #[.slice A3 H.length c3] 24)
        have y0 := b4.cell 0
        have z0 := b4.frozen 0
        have n0 := (Blk.new w3 24 #[.slice A3 H.length c3]).cell 0
        simp only [List.getElem?_toArray, List.getElem?_cons_zero] at y0 n0
        go_wp2
        refine bodyPost_ret (results_hist rfl rfl ((b3.set_ 0 _).alloc _)) rfl ?_
        refine ⟨.slice A3 H.length c3, by rw [hr.out]; rfl, ?_, (B3.setCell (p := ⟨w.heap.size, 0, none⟩) (Nat.le_refl _) _).alloc (by simp; omega) _⟩
        rw [hr.out]
        have ha : Agree (fun b => w2.heap.size ≤ b ∧ b < w3.heap.size) w3 ((w3.setCell ⟨w.heap.size, 0, none⟩ (.slice A3 H.length c3)).alloc (.cells #[.slice A3 H.length c3] 24)) :=
          (Agree.setCell (K := fun b => w2.heap.size ≤ b ∧ b < w3.heap.size) ⟨w.heap.size, 0, none⟩ (by dsimp only; omega) _).trans (Agree.alloc (fun b h => by rw [World.size_setCell]; exact h.2) _)
        exact TxnS.keep k3 ha (fun b h => ⟨Nat.le_trans (Nat.le_of_lt hs2) h.1, by simp only [World.size_alloc, World.size_setCell]; have := h.2; omega⟩)
      · obtain ⟨m, rfl, hm⟩ := hpl hf3
        have hr := hide (parseH_hist hD hG hHh hf3 hm)
        replace hD := hide hD
        replace hG := hide hG
        replace hHh := hide hHh
        have hfb : (f3 != 0) = true := by simpa using hf3
        obtain ⟨t1, t2, _⟩ := hTe _ (List.getElem_mem hm)
        have hm1 : (0 : Int) ≤ (m : Int) := Int.natCast_nonneg _
        have hm2 : (m : Int) < (T.length : Int) := by omega
        clear hpl hTe hf3
        go_enter Tryz.func7, Tryz.ntmps7
        go_wp2_with fail
        refine hdc.mono ?_
        clear hdc
        intro e w1 ho
        obtain ⟨A1, c1, rfl, k1, hb1⟩ := ho.open
        clear ho
        dsimp only at k1 hdl
        have b1 := k0.below hb1 k0.lt
        have B1 := hA.trans (hb1.mono hA.size)
        clear k0 hA hb1
        have y0 := b1.cell 0
        simp only [List.getElem?_toArray, List.getElem?_cons_zero] at y0
        have z0 := b1.frozen 0
        have hgc := rgroup5_any es A1 c1 w1 k1 (by omega)
        rw [hG.out] at hgc
        go_wp2_with fail
        refine hgc.mono ?_
        clear hgc
        rintro e w2 ⟨v2, rfl, k2, hb2⟩
        dsimp only at k2
        obtain ⟨A2, c2, rfl⟩ := SlR.form k2
        have hb1l := b1.lt
        have k2x := hide (TxS.fit (K' := fun b => w.heap.size < b ∧ b < w2.heap.size) k2 (fun b h => ⟨by omega, h.2⟩))
        replace k2 := TxS.fit (K' := Old w2) k2 (fun b h => h.2)
        clear hb1l
        have b2 := b1.below hb2 b1.lt
        have B2 := B1.trans (hb2.mono B1.size)
        clear y0 z0 b1 B1 hb2 k1
        have y0 := b2.cell 0
        simp only [List.getElem?_toArray, List.getElem?_cons_zero] at y0
        have z0 := b2.frozen 0
        have hhc := rhist7_any T A2 c2 w2 k2 hsm.out
        rw [hHh.out] at hhc
        go_wp2_with fail
        refine hhc.mono ?_
        clear hhc
        rintro e w3 ⟨v3, rfl, k3, hb3⟩
        dsimp only at k3
        obtain ⟨A3, c3, rfl⟩ := SlR.form k3
        have b3 := b2.below hb3 b2.lt
        have B3 := B2.trans (hb3.mono B2.size)
        clear k2
        have k2 := TxS.keep k2x.out (Agree.below hb3 (fun b h => h.2)) (K' := fun b => w.heap.size < b ∧ b < w3.heap.size) (fun b h => ⟨h.1, by have := hb3.size; omega⟩)
        clear k2x
        have hs3 : w.heap.size < w3.heap.size := b3.lt
        have hs32 := hb3.size
        have hs2 : w.heap.size < w2.heap.size := b2.lt
        clear y0 z0 b2 B2
        replace hb3 := hide hb3
        have b4 := b3.alloc (.cells #[.slice A3 H.length c3] 24)
        have B4 := B3.alloc B3.size (.cells #[.slice A3 H.length c3] 24)
        have y0 := b4.cell 0
        have z0 := b4.frozen 0
        have n0 := (Blk.new w3 24 #[.slice A3 H.length c3]).cell 0
        simp only [List.getElem?_toArray, List.getElem?_cons_zero] at y0 n0
        obtain ⟨bt, ot, At, ct, rfl, hbt, _, _, x2, _, _⟩ := TxS.at_ k2 hm
        have x2 : (w3.alloc (.cells #[.slice A3 H.length c3] 24)).cell? ⟨bt, ot + m * 4 + 2, none⟩ = some (.int .i64 T[m].first) := (World.cell?_of_block (Below.heap_alloc w3 _ bt hbt.2)).trans x2
        generalize T[m].first = tf at *
        have hw1 : IntKind.i64.wrap (tf + 1) = tf + 1 := by rw [IntKind.wrap_i64]; omega
        have b5 := b4.drew
        have B5 := B4.drew
        have hne : bt ≠ w.heap.size := by have := hbt.1; omega
        clear n0 b3 B3 hs3 hs32 hs2 hb3 k2 k3
        go_wp2_with fail
        refine wp_region_alts [0, 1, 2, 3, 4, 7] [5, 6, 8, 9, 10] [[5, 6, 8, 9, 10], [5, 8, 6, 9, 10], [8, 5, 6, 9, 10]] (by kernel_rfl) (by kernel_rfl) (fun _ _ d _ _ h => by cases d <;> exact h) ?_
        simp only [List.filterMap_cons, List.filterMap_nil, List.getElem?_cons_zero, List.getElem?_cons_succ]
        replace x2 : (w3.alloc (.cells #[.slice A3 H.length c3] 24)).drew.cell? ⟨bt, ot + m * 4 + 2, none⟩ = some (.int .i64 tf) := x2
        replace y0 : (w3.alloc (.cells #[.slice A3 H.length c3] 24)).drew.cell? ⟨w.heap.size, 0, none⟩ = some (.slice none 0 0) := y0
        replace z0 : (w3.alloc (.cells #[.slice A3 H.length c3] 24)).drew.frozen? ⟨w.heap.size, 0, none⟩ = false := z0
        have e2 : ((w3.alloc (.cells #[.slice A3 H.length c3] 24)).drew.setCell ⟨w.heap.size, 0, none⟩ (.slice none 0 0)).cell? ⟨bt, ot + m * 4 + 2, none⟩ = some (.int .i64 tf) := (World.cell?_of_block (Below.heap_setCell _ _ _ _ hne)).trans x2
        clear b4 B4
        generalize (w3.alloc (.cells #[.slice A3 H.length c3] 24)).drew = W5 at *
        repeat still_step
        refine wpStill_nil ?_
        intro i hi
        simp only [List.filterMap_cons, List.head?_cons, List.filterMap_nil, List.mem_cons, List.not_mem_nil, or_false, or_self] at hi
        obtain rfl | rfl : i = 5 ∨ i = 8 := by omega
        · refine wpOp_list rfl ?_
          simp only [tailsOf, List.filterMap_cons, List.filterMap_nil, if_true, if_false, reduceIte, Nat.reduceEqDiff, List.length_cons, List.length_nil, Nat.reduceAdd]
          clear hi
          go_wp2_with fail
          intro i hi
          simp only [List.filterMap_cons, List.head?_cons, List.filterMap_nil, List.mem_cons, List.not_mem_nil, or_false, or_self] at hi
          obtain rfl | rfl : i = 6 ∨ i = 8 := by omega
          · refine wpOp_list rfl ?_
            simp only [tailsOf, List.filterMap_cons, List.filterMap_nil, if_true, if_false, reduceIte, Nat.reduceEqDiff, List.length_cons, List.length_nil, Nat.reduceAdd]
            clear hi
            go_wp2_with fail
            intro iq hiq
            have hiq : iq = 8 := by
              simp only [List.filterMap_cons, List.head?_cons, List.filterMap_nil, List.mem_cons, List.not_mem_nil, or_false, or_self] at hiq
              omega
            cases hiq
            refine wpOp_list rfl ?_
            simp only [tailsOf, List.filterMap_cons, List.filterMap_nil, if_true, if_false, reduceIte, Nat.reduceEqDiff, List.length_cons, List.length_nil, Nat.reduceAdd]
            go_wp2_with fail
            intro iq hiq
            have hiq : iq = 9 := by
              simp only [List.filterMap_cons, List.head?_cons, List.filterMap_nil, List.mem_cons, List.not_mem_nil, or_false, or_self] at hiq
              omega
            cases hiq
            refine wpOp_list rfl ?_
            simp only [tailsOf, List.filterMap_cons, List.filterMap_nil, if_true, if_false, reduceIte, Nat.reduceEqDiff, List.length_cons, List.length_nil, Nat.reduceAdd]
            go_wp2_with fail
            refine wpAlt_one _ _ _ _ rfl ?_
            simp only [List.filterMap_cons, List.filterMap_nil, List.getElem?_toArray, List.getElem?_cons_zero, List.getElem?_cons_succ]
            go_wp2
            refine bodyPost_ret (results_hist rfl rfl (b5.set_ 0 _)) rfl ?_
            exact ⟨.slice none 0 0, by rw [hr.out]; rfl, by rw [hr.out]; exact TxnS.nil _ _ _ _, B5.setCell (p := ⟨w.heap.size, 0, none⟩) (Nat.le_refl _) _⟩
          · refine wpOp_list rfl ?_
            simp only [tailsOf, List.filterMap_cons, List.filterMap_nil, if_true, if_false, reduceIte, Nat.reduceEqDiff, List.length_cons, List.length_nil, Nat.reduceAdd]
            clear hi
            go_wp2_with fail
            intro iq hiq
            have hiq : iq = 6 := by
              simp only [List.filterMap_cons, List.head?_cons, List.filterMap_nil, List.mem_cons, List.not_mem_nil, or_false, or_self] at hiq
              omega
            cases hiq
            refine wpOp_list rfl ?_
            simp only [tailsOf, List.filterMap_cons, List.filterMap_nil, if_true, if_false, reduceIte, Nat.reduceEqDiff, List.length_cons, List.length_nil, Nat.reduceAdd]
            go_wp2_with fail
            intro iq hiq
            have hiq : iq = 9 := by
              simp only [List.filterMap_cons, List.head?_cons, List.filterMap_nil, List.mem_cons, List.not_mem_nil, or_false, or_self] at hiq
              omega
            cases hiq
            refine wpOp_list rfl ?_
            simp only [tailsOf, List.filterMap_cons, List.filterMap_nil, if_true, if_false, reduceIte, Nat.reduceEqDiff, List.length_cons, List.length_nil, Nat.reduceAdd]
            go_wp2_with fail
            refine wpAlt_one _ _ _ _ rfl ?_
            simp only [List.filterMap_cons, List.filterMap_nil, List.getElem?_toArray, List.getElem?_cons_zero, List.getElem?_cons_succ]
            go_wp2
            refine bodyPost_ret (results_hist rfl rfl (b5.set_ 0 _)) rfl ?_
            exact ⟨.slice none 0 0, by rw [hr.out]; rfl, by rw [hr.out]; exact TxnS.nil _ _ _ _, B5.setCell (p := ⟨w.heap.size, 0, none⟩) (Nat.le_refl _) _⟩
        · refine wpOp_list rfl ?_
          simp only [tailsOf, List.filterMap_cons, List.filterMap_nil, if_true, if_false, reduceIte, Nat.reduceEqDiff, List.length_cons, List.length_nil, Nat.reduceAdd]
          clear hi
          go_wp2_with fail
          intro iq hiq
          have hiq : iq = 5 := by
            simp only [List.filterMap_cons, List.head?_cons, List.filterMap_nil, List.mem_cons, List.not_mem_nil, or_false, or_self] at hiq
            omega
          cases hiq
          refine wpOp_list rfl ?_
          simp only [tailsOf, List.filterMap_cons, List.filterMap_nil, if_true, if_false, reduceIte, Nat.reduceEqDiff, List.length_cons, List.length_nil, Nat.reduceAdd]
          go_wp2_with fail
          intro iq hiq
          have hiq : iq = 6 := by
            simp only [List.filterMap_cons, List.head?_cons, List.filterMap_nil, List.mem_cons, List.not_mem_nil, or_false, or_self] at hiq
            omega
          cases hiq
          refine wpOp_list rfl ?_
          simp only [tailsOf, List.filterMap_cons, List.filterMap_nil, if_true, if_false, reduceIte, Nat.reduceEqDiff, List.length_cons, List.length_nil, Nat.reduceAdd]
          go_wp2_with fail
          intro iq hiq
          have hiq : iq = 9 := by
            simp only [List.filterMap_cons, List.head?_cons, List.filterMap_nil, List.mem_cons, List.not_mem_nil, or_false, or_self] at hiq
            omega
          cases hiq
          refine wpOp_list rfl ?_
          simp only [tailsOf, List.filterMap_cons, List.filterMap_nil, if_true, if_false, reduceIte, Nat.reduceEqDiff, List.length_cons, List.length_nil, Nat.reduceAdd]
          go_wp2_with fail
          refine wpAlt_one _ _ _ _ rfl ?_
          simp only [List.filterMap_cons, List.filterMap_nil, List.getElem?_toArray, List.getElem?_cons_zero, List.getElem?_cons_succ]
          go_wp2
          refine bodyPost_ret (results_hist rfl rfl (b5.set_ 0 _)) rfl ?_
          exact ⟨.slice none 0 0, by rw [hr.out]; rfl, by rw [hr.out]; exact TxnS.nil _ _ _ _, B5.setCell (p := ⟨w.heap.size, 0, none⟩) (Nat.le_refl _) _⟩
    · have hr := hide (parseH_group hD hG hf2)
      replace hD := hide hD
      replace hG := hide hG
      have hfb : (f2 != 0) = true := by simpa using hf2
      clear hf2 hTe
      go_enter Tryz.func7, Tryz.ntmps7
      go_wp2_with fail
      refine hdc.mono ?_
      clear hdc
      intro e w1 ho
      obtain ⟨A1, c1, rfl, k1, hb1⟩ := ho.open
      clear ho
      dsimp only at k1 hdl
      have b1 := k0.below hb1 k0.lt
      have B1 := hA.trans (hb1.mono hA.size)
      clear k0 hA hb1
      have y0 := b1.cell 0
      simp only [List.getElem?_toArray, List.getElem?_cons_zero] at y0
      have z0 := b1.frozen 0
      have hgc := rgroup5_any es A1 c1 w1 k1 (by omega)
      rw [hG.out] at hgc
      go_wp2_with fail
      refine hgc.mono ?_
      clear hgc
      rintro e w2 ⟨v2, rfl, k2, hb2⟩
      dsimp only at k2
      obtain ⟨A2, c2, rfl⟩ := SlR.form k2
      have hb1l := b1.lt
      have k2x := hide (TxS.fit (K' := fun b => w.heap.size < b ∧ b < w2.heap.size) k2 (fun b h => ⟨by omega, h.2⟩))
      replace k2 := TxS.fit (K' := Old w2) k2 (fun b h => h.2)
      clear hb1l
      have b2 := b1.below hb2 b1.lt
      have B2 := B1.trans (hb2.mono B1.size)
      clear y0 z0 b1 B1 hb2 k1
      have y0 := b2.cell 0
      simp only [List.getElem?_toArray, List.getElem?_cons_zero] at y0
      have z0 := b2.frozen 0
      go_wp2
      refine bodyPost_ret (results_hist rfl rfl (b2.set_ 0 _)) rfl ?_
      exact ⟨.slice none 0 0, by rw [hr.out]; rfl, by rw [hr.out]; exact TxnS.nil _ _ _ _, B2.setCell (p := ⟨w.heap.size, 0, none⟩) (Nat.le_refl _) _⟩
  · have hr := hide (parseH_diary hD hf)
    replace hD := hide hD
    have hfb : (f != 0) = true := by simpa using hf
    clear hf
    go_enter Tryz.func7, Tryz.ntmps7
    go_wp2_with fail
    refine hdc.mono ?_
    clear hdc
    intro e w1 ho
    obtain ⟨A1, c1, rfl, k1, hb1⟩ := ho.open
    clear ho
    dsimp only at k1 hdl
    have b1 := k0.below hb1 k0.lt
    have B1 := hA.trans (hb1.mono hA.size)
    clear k0 hA hb1
    have y0 := b1.cell 0
    simp only [List.getElem?_toArray, List.getElem?_cons_zero] at y0
    have z0 := b1.frozen 0
    go_wp2
    refine bodyPost_ret (results_hist rfl rfl (b1.set_ 0 _)) rfl ?_
    exact ⟨.slice none 0 0, by rw [hr.out]; rfl, by rw [hr.out]; exact TxnS.nil _ _ _ _, B1.setCell (p := ⟨w.heap.size, 0, none⟩) (Nat.le_refl _) _⟩
end Go.Proofs.YtphcebgpllecjaaGreatDoor
