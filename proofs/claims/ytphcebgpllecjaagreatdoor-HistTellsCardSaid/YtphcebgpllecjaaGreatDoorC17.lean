/-
  Walks: the reference of layer 3: Parse.
-/
import Derived.Laws.Rows
import Derived.Test.YtphcebgpllecjaaGreatDoorC16
set_option linter.unusedVariables false
set_option linter.unusedSimpArgs false
namespace Go.Proofs.YtphcebgpllecjaaGreatDoor
open Go.RowKit Go.Inq
set_option maxHeartbeats 1000000
attribute [local go_sem ↓] Go.wp_at_zero Go.wp_at_succ

/-- An event's cells, in a row. -/
def Ev.row (e : Ev) : Array Value := #[.int .i64 e.kind, .int .i64 e.sess, .int .i64 e.key, .int .i64 e.val]
/-- What a Parse hands back. -/
def ParseOut (r : Ev × Int) (w : World) (e : Ending) (w' : World) : Prop := e = .returned (.tuple #[.agg #[.int .i64 r.1.kind, .int .i64 r.1.sess, .int .i64 r.1.key, .int .i64 r.1.val], .int .i64 r.2]) ∧ Below w.heap.size w w'
theorem results_ev {fn : Func} {t u : Tmp} (h : fn.results = #[.cell t 56, .tmp u]) {tmps : Array Value} {w : World} {g : Nat} {cs : Array Value} (hp : tmps.getD t undef = .pointer (some ⟨g, 0, none⟩))
    (hb : Blk w g 56 cs) (hs : cs.size = 4) : (results fn tmps).run Tryz.prog w = .ok (.tuple #[.agg cs, tmps.getD u undef]) w := by
  have hl := run_loadVar_row (P := Tryz.prog) w g 56 56 cs (0, 0) _ hb Tryz.underlying56 rfl (by rw [hs]; kernel_rfl)
  have hp' : tmps[t]?.getD undef = .pointer (some ⟨g, 0, none⟩) := by simpa using hp
  unfold results
  simp [h, hp', asAddr, hl]

theorem blk_fill4 {w : World} {g : Nat} {t : TypeId} {a b c d : Value} (h : Blk w g t #[a, b, c, d]) (x y z u : Value) :
    Blk ((((w.setCell ⟨g, 0, none⟩ x).setCell ⟨g, 1, none⟩ y).setCell ⟨g, 2, none⟩ z).setCell ⟨g, 3, none⟩ u) g t #[x, y, z, u] := (((h.set_ 0 x).set_ 1 y).set_ 2 z).set_ 3 u
theorem below_fill4 {B g : Nat} {a w : World} (h : Below B a w) (hg : B ≤ g) (x y z u : Value) :
    Below B a ((((w.setCell ⟨g, 0, none⟩ x).setCell ⟨g, 1, none⟩ y).setCell ⟨g, 2, none⟩ z).setCell ⟨g, 3, none⟩ u) := (((h.setCell hg _).setCell hg _).setCell hg _).setCell hg _
set_option maxRecDepth 100000 in
set_option maxHeartbeats 4000000 in
theorem rparse03_any (s : ByteArray) (w : World) (hs : s.size ≤ 1000000) : Calls Tryz.prog 37 #[.string s] w (ParseOut (parseR s.data.toList) w) := by
  have hA : Below w.heap.size w (w.alloc (.cells #[.int .i64 0, .int .i64 0, .int .i64 0, .int .i64 0] 56)) := (Below.refl _ _).alloc (Nat.le_refl _) _
  have kA : Blk (w.alloc (.cells #[.int .i64 0, .int .i64 0, .int .i64 0, .int .i64 0] 56)) w.heap.size 56 _ := Blk.new _ _ _
  have hw := rwords_any s (w.alloc (.cells #[.int .i64 0, .int .i64 0, .int .i64 0, .int .i64 0] 56)) hs
  generalize hW : w.alloc (.cells #[.int .i64 0, .int .i64 0, .int .i64 0, .int .i64 0] 56) = W0 at *
  have hg0 : w.heap.size < W0.heap.size := by rw [← hW]; simp
  by_cases h0 : (wordsR s.data.toList).2 ≠ 0
  · have hp := hide (parseR_bad h0)
    have h0' : ((wordsR s.data.toList).2 != 0) = true := by simpa using h0
    clear h0
    go_enter Tryz.func37, Tryz.ntmps37
    go_wp2_with (go_at_call 59; refine hw.mono ?_; intro e w1 ho; obtain ⟨A, c, rfl, -, hb⟩ := ho.open; clear ho; have kB := kA.below hb kA.lt; have c0 := kB.cell 0; have c1 := kB.cell 1; have c2 := kB.cell 2; have c3 := kB.cell 3; simp at c0 c1 c2 c3; have f0 := kB.frozen 0; have f1 := kB.frozen 1; have f2 := kB.frozen 2; have f3 := kB.frozen 3)
    try simp only [Exit.inBlock, Exit.then]
    refine bodyPost_ret (results_ev rfl rfl (blk_fill4 kB _ _ _ _) rfl) rfl ?_
    exact ⟨by rw [hp.out]; rfl, below_fill4 (hA.trans (hb.mono (Nat.le_of_lt hg0))) (Nat.le_refl _) _ _ _ _⟩
  · have h0' : (wordsR s.data.toList).2 = 0 := by omega
    have hp := hide (parseR_words h0')
    have hl1 := words_len1 h0'
    have hl8 : (wordsR s.data.toList).1.length ≤ 8 := by
      unfold wordsR
      split
      · rename_i h; exact h.1
      · simp
    have hsz : ∀ i (h : i < (wordsR s.data.toList).1.length), (mk (wordsR s.data.toList).1[i]).size ≤ 1000000 := fun i h => by
      have := words_len h0' (List.getElem_mem h)
      rw [← Lib.size_eq] at this
      rw [mk_size]
      omega
    replace hsz := hide hsz
    replace hw := hw.mono fun e w1 ho => ho.open
    rw [h0'] at hw
    clear h0 h0'
    generalize (wordsR s.data.toList).1 = ws at *
    have hK := hide (kind_lt (ws[0]?.getD []))
    have hf := hide (evR_form (ws := ws))
    have hbd := hide (fun i => evR_bad (ws := ws) (i := i))
    have hgd := hide (evR_good (ws := ws))
    go_enter Tryz.func37, Tryz.ntmps37
    go_wp2_with (go_at_call 59; refine hw.mono ?_; rintro e w1 ⟨A, c, rfl, hS, hb⟩)
    have hg1 : w.heap.size < w1.heap.size := Nat.lt_of_lt_of_le hg0 hb.size
    have kB := kA.below hb kA.lt
    have hB1 := hA.trans (hb.mono (Nat.le_of_lt hg0))
    clear hb kA hA hW hw hg0
    have hl0 : (0 : Nat) < (ws.map mk).length := by rw [List.length_map]; omega
    obtain ⟨b0, off, rfl, hbK, -⟩ := StrS.at_ hS hl0
    have hcell : ∀ i (hi : i < ws.length), w1.cell? ⟨b0, off + i, none⟩ = some (.string (mk ws[i])) := fun i hi => by
      have := (StrS.cells hS (i := i) (by rw [List.length_map]; exact hi)).2
      rwa [List.getElem_map] at this
    have hb0 : b0 < w1.heap.size := hbK.2
    clear hS hbK hl0
    have hq0 : ws[0]?.getD [] = ws[0]'(by omega) := by rw [List.getElem?_eq_getElem (show 0 < ws.length by omega), Option.getD_some]
    have c0 := hcell 0 (by omega)
    rw [Nat.add_zero] at c0
    rw [hq0] at hK hf hbd hgd
    have hcell' := hide hcell
    clear hcell hq0
    generalize hw0 : ws[0]'(by omega) = w0 at *
    have hn0 : (0 : Int) < (ws.length : Int) := by omega
    go_loop [6, 7, 8] (fun s6 s7 _ => ∃ k : Nat, k ≤ 5 ∧ s7 = .int .i64 k ∧ s6 = .int .i64 (kindTo w0 k)) (fun _ s7 _ => 5 - (intOf s7).toNat)
    case atStart => exact ⟨0, by omega, by go_num, rfl⟩
    case round =>
      obtain ⟨k, hk, rfl, rfl⟩ := hrel
      have hk1 : (0 : Int) ≤ (k : Int) := Int.natCast_nonneg _
      by_cases hlt : k < 5
      · have hk2 : (k : Int) < 5 := by omega
        by_cases he : wordK k = w0
        · have e1 : ((mk (wordK k)).toList == (mk w0).toList) = true := by rw [he]; simp
          have e2 : (mk (wordK k)).toList = (mk w0).toList := by rw [he]
          have hnx := hide (kindTo_hit he)
          clear he
          go_wp2_with (go_at_call 60; refine (rword_any k _).mono ?_; rintro e w' ⟨rfl, rfl⟩)
          go_round
          case rel => exact ⟨k + 1, by omega, by go_num, by rw [hnx.out]⟩
          case measure => simp [intOf]; omega
        · have e2 : ¬ (mk (wordK k)).toList = (mk w0).toList := by rw [Lib.toList_data, Lib.toList_data, mk_bytes, mk_bytes]; exact he
          have e1 : ((mk (wordK k)).toList == (mk w0).toList) = false := by simpa using e2
          have hnx := hide (kindTo_miss he)
          clear he
          go_wp2_with (go_at_call 60; refine (rword_any k _).mono ?_; rintro e w' ⟨rfl, rfl⟩)
          go_round
          case rel => exact ⟨k + 1, by omega, by go_num, by rw [hnx.out]⟩
          case measure => simp [intOf]; omega
      · have : k = 5 := by omega
        subst this
        clear hk hk1 hlt
        rw [show kindTo w0 5 = kindOf w0 from rfl]
        generalize kindOf w0 = K at *
        have c1 := kB.cell 0
        have c2 := kB.cell 1
        have c3 := kB.cell 2
        have c4 := kB.cell 3
        simp at c1 c2 c3 c4
        have f1 := kB.frozen 0
        have f2 := kB.frozen 1
        have f3 := kB.frozen 2
        have f4 := kB.frozen 3
        have hit : (manyK K = 3 ∧ 0 ≤ K ∧ ((K == 1) = true ∨ ((K == 1) = false ∧ (K == 2) = true))) ∨ (manyK K = 1 ∧ (K == 1) = false ∧ (K == 2) = false) := by
          unfold manyK itemB
          by_cases k1 : K = 1
          · left; subst k1; simp
          · by_cases k2 : K = 2
            · left; subst k2; simp
            · right; simp [k1, k2]
        by_cases hform : K < 0 ∨ ws.length ≠ manyK K + 1
        · have hr : Hid (parseR s.data.toList = (Ev.zero, 2)) := by unfold Hid; rw [hp.out]; exact hf.out hform
          have hways : ((K == 1) = true ∧ decide (K < 0) = false ∧ ((ws.length : Int) != 4) = true) ∨ ((K == 1) = false ∧ (K == 2) = true ∧ decide (K < 0) = false ∧ ((ws.length : Int) != 4) = true) ∨
              ((K == 1) = false ∧ (K == 2) = false ∧ decide (K < 0) = true) ∨ ((K == 1) = false ∧ (K == 2) = false ∧ decide (K < 0) = false ∧ ((ws.length : Int) != 2) = true) := by
            rcases hit with ⟨hm, h0, h1 | ⟨h1, h2⟩⟩ | ⟨hm, h1, h2⟩
            · exact .inl ⟨h1, by simp; omega, by simp; omega⟩
            · exact .inr (.inl ⟨h1, h2, by simp; omega, by simp; omega⟩)
            · by_cases hn : K < 0
              · exact .inr (.inr (.inl ⟨h1, h2, by simpa using hn⟩))
              · exact .inr (.inr (.inr ⟨h1, h2, by simpa using hn, by simp; omega⟩))
          clear hit hform hf hbd hgd hK hp
          rcases hways with ⟨e1, e2, e3⟩ | ⟨e1, e2, e3, e4⟩ | ⟨e1, e2, e3⟩ | ⟨e1, e2, e3, e4⟩
          all_goals (
            go_wp2
            (try simp only [Exit.inBlock, Exit.then])
            refine bodyPost_ret (results_ev rfl rfl (blk_fill4 kB _ _ _ _) rfl) rfl ?_
            exact ⟨by rw [hr.out]; rfl, below_fill4 hB1 (Nat.le_refl _) _ _ _ _⟩)
        · have hM : ws.length = manyK K + 1 := by omega
          have hK0 : 0 ≤ K := by omega
          have hbd' := hide (fun (i : Nat) => hbd.out i hform)
          have hgd' := hide (hgd.out hform)
          have hways : ((K == 1) = true ∧ ((ws.length : Int) != 4) = false) ∨ ((K == 1) = false ∧ (K == 2) = true ∧ ((ws.length : Int) != 4) = false) ∨ ((K == 1) = false ∧ (K == 2) = false ∧ ((ws.length : Int) != 2) = false) := by
            rcases hit with ⟨hm, h0, h1 | ⟨h1, h2⟩⟩ | ⟨hm, h1, h2⟩
            · exact .inl ⟨h1, by simp; omega⟩
            · exact .inr (.inl ⟨h1, h2, by simp; omega⟩)
            · exact .inr (.inr ⟨h1, h2, by simp; omega⟩)
          have hK3 : ¬ K < 0 := by omega
          have hl4 : ws.length ≤ 4 := by
            rcases hit with ⟨hm, _⟩ | ⟨hm, _⟩ <;> omega
          have hWc := hide (fun (W : World) (hW : Below w1.heap.size w1 W) (i : Nat) (hi : i < ws.length) => (hW.cell (p := ⟨b0, off + i, none⟩) hb0).trans (hcell'.out i hi))
          clear hit hform hf hbd hgd hK hM c0 hw0 c1 c2 c3 c4 f1 f2 f3 f4 hK0
          have kN : Blk (w1.alloc (.cells #[.int .i64 0, .int .i64 0, .int .i64 0] 3)) w1.heap.size 3 (nrow ws 0) := Blk.new _ _ _
          have hN : Below w1.heap.size w1 (w1.alloc (.cells #[.int .i64 0, .int .i64 0, .int .i64 0] 3)) := (Below.refl _ _).alloc (Nat.le_refl _) _
          rcases hways with ⟨e1, e3⟩ | ⟨e1, e2, e3⟩ | ⟨e1, e2, e3⟩
          all_goals (
            go_wp2
            go_loopw [11, 12, 13] (fun s11 _ _ wr => ∃ m : Nat, m + 1 ≤ ws.length ∧ s11 = .int .i64 ((m : Int) + 1) ∧ Hid (∀ j, j < m → errW ws (j + 1) = 0) ∧ Blk wr w1.heap.size 3 (nrow ws m) ∧ Below w1.heap.size w1 wr) (fun s11 _ _ _ => ws.length - (intOf s11).toNat)
            case atStart => exact ⟨0, hl1, by go_num, fun j hj => absurd hj (by omega), kN, hN⟩
            case round =>
              obtain ⟨m, hm, rfl, herr, kM, hBm⟩ := hrel
              have hm1 : (0 : Int) ≤ (m : Int) := Int.natCast_nonneg _
              by_cases hlt : m + 1 < ws.length
              · have hm2 : (m : Int) + 1 < (ws.length : Int) := by omega
                have hm3 : (m : Int) < 3 := by omega
                have g0 := hWc.out wr hBm (m + 1) hlt
                have hwh := rwhole_any (mk (ws[m + 1]'hlt)) wr (hsz.out (m + 1) hlt)
                rw [mk_bytes] at hwh
                unfold WholeOut at hwh
                have hq : errW ws (m + 1) = (wholeR (ws[m + 1]'hlt)).2 := by unfold errW; rw [List.getElem?_eq_getElem hlt, Option.getD_some]
                have hq1 : (wholeR (ws[m + 1]?.getD [])).1 = (wholeR (ws[m + 1]'hlt)).1 := by rw [List.getElem?_eq_getElem hlt, Option.getD_some]
                have hstep := nrow_step ws (m := m) (by omega)
                rw [hq1] at hstep
                have hbd2 := hbd'.out m hlt herr.out
                rw [hq] at hbd2
                have herr2 : (wholeR (ws[m + 1]'hlt)).2 = 0 → ∀ j, j < m + 1 → errW ws (j + 1) = 0 := fun h j hj => by
                  by_cases hjm : j = m
                  · subst hjm; rw [hq]; exact h
                  · exact herr.out j (by omega)
                generalize wholeR (ws[m + 1]'hlt) = wv at *
                obtain ⟨v, f⟩ := wv
                by_cases hz : f = 0
                · subst hz
                  have herr3 := hide (herr2 rfl)
                  have d := kM.cell m
                  rw [Array.getElem?_eq_getElem (show m < (nrow ws m).size from (show m < 3 by omega))] at d
                  have fz := kM.frozen m
                  have hstep' := hide hstep
                  clear hq hq1 hstep hbd2 herr2 herr
                  go_wp2_with (go_at_call 61; refine hwh.mono ?_; rintro e w' ⟨rfl, rfl⟩)
                  go_roundw
                  case rel => exact ⟨m + 1, by omega, by go_num, herr3.out, by rw [← hstep'.out]; exact kM.set_ m _, hBm.setCell (Nat.le_refl _) _⟩
                  case measure => simp [intOf]; omega
                · have hr : Hid (parseR s.data.toList = (Ev.zero, f)) := by unfold Hid; rw [hp.out]; exact hbd2 hz
                  have hz2 : (f != 0) = true := by simpa using hz
                  have kC := kB.below hBm kB.lt
                  have hB2 := hB1.trans (hBm.mono (Nat.le_of_lt hg1))
                  have c1 := kC.cell 0
                  have c2 := kC.cell 1
                  have c3 := kC.cell 2
                  have c4 := kC.cell 3
                  simp at c1 c2 c3 c4
                  have f1 := kC.frozen 0
                  have f2 := kC.frozen 1
                  have f3 := kC.frozen 2
                  have f4 := kC.frozen 3
                  clear hq hq1 hstep hbd2 herr2 herr hz
                  go_wp2_with (go_at_call 61; refine hwh.mono ?_; rintro e w' ⟨rfl, rfl⟩)
                  (try simp only [Exit.inBlock, Exit.then])
                  refine bodyPost_ret (results_ev rfl rfl (blk_fill4 kC _ _ _ _) rfl) rfl ?_
                  exact ⟨by rw [hr.out]; rfl, below_fill4 hB2 (Nat.le_refl _) _ _ _ _⟩
              · have hm2 : ¬ (m : Int) + 1 < (ws.length : Int) := by omega
                have hme : m + 1 = ws.length := by omega
                have hr := hgd'.out fun j hj => herr.out j (by omega)
                have d0 := kM.cell 0
                have d1 := kM.cell 1
                have d2 := kM.cell 2
                unfold nrow at d0 d1 d2
                rw [nval_end hme, nval_end hme, nval_end hme] at d0 d1 d2
                simp at d0 d1 d2
                have kC := kB.below hBm kB.lt
                have hB2 := hB1.trans (hBm.mono (Nat.le_of_lt hg1))
                have c1 := kC.cell 0
                have c2 := kC.cell 1
                have c3 := kC.cell 2
                have c4 := kC.cell 3
                simp at c1 c2 c3 c4
                have f1 := kC.frozen 0
                have f2 := kC.frozen 1
                have f3 := kC.frozen 2
                have f4 := kC.frozen 3
                clear hme kM herr
                by_cases hmany : 7 < numW ws 1 ∨ 15 < numW ws 2
                · have hr2 : Hid (parseR s.data.toList = (Ev.zero, 4)) := by unfold Hid; rw [hp.out, hr, if_pos hmany]
                  have hmw : 7 < numW ws 1 ∨ (¬ 7 < numW ws 1 ∧ 15 < numW ws 2) := by omega
                  clear hr hmany
                  rcases hmw with q1 | ⟨q1, q2⟩
                  all_goals (
                    go_wp2
                    (try simp only [Exit.inBlock, Exit.then])
                    refine bodyPost_ret (results_ev rfl rfl (blk_fill4 kC _ _ _ _) rfl) rfl ?_
                    exact ⟨by rw [hr2.out]; rfl, below_fill4 hB2 (Nat.le_refl _) _ _ _ _⟩)
                · have hr2 : Hid (parseR s.data.toList = (⟨K, numW ws 1, numW ws 2, numW ws 3⟩, 0)) := by unfold Hid; rw [hp.out, hr, if_neg hmany]
                  have q1 : ¬ 7 < numW ws 1 := by omega
                  have q2 : ¬ 15 < numW ws 2 := by omega
                  clear hr hmany
                  go_wp2
                  refine wp_region_plan [0, 1, 2, 3, 4, 5, 6, 7, 8, 9, 10] [11, 12] (by kernel_rfl) (by kernel_rfl) (fun _ _ d _ _ h => by cases d <;> exact h) ?_
                  simp only [List.filterMap_cons, List.filterMap_nil, List.getElem?_cons_zero, List.getElem?_cons_succ]
                  repeat still_step
                  refine wpStill_nil ?_
                  replace kC : Blk wr.drew _ _ _ := kC
                  replace hB2 : Below w.heap.size w wr.drew := hB2.drew
                  go_wp2
                  (try simp only [Exit.inBlock, Exit.then])
                  refine bodyPost_ret (results_ev rfl rfl (blk_fill4 kC _ _ _ _) rfl) rfl ?_
                  exact ⟨by rw [hr2.out]; rfl, below_fill4 hB2 (Nat.le_refl _) _ _ _ _⟩)
end Go.Proofs.YtphcebgpllecjaaGreatDoor
