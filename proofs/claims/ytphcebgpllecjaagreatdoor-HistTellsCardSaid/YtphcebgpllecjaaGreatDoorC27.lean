/-
  Walks: event.Parse.
-/
import Derived.Test.YtphcebgpllecjaaGreatDoorC22
import Derived.Test.YtphcebgpllecjaaGreatDoorC26
import Derived.Test.YtphcebgpllecjaaGreatDoorC17
set_option linter.unusedVariables false
set_option linter.unusedSimpArgs false
namespace Go.Proofs.YtphcebgpllecjaaGreatDoor
open Go.RowKit Go.Inq
set_option maxHeartbeats 1000000
attribute [local go_sem ↓] Go.wp_at_zero Go.wp_at_succ

theorem ev_step (ws : List (List UInt8)) (K : Int) {m : Nat} (h : m < 3) : (#[.int .i64 K, .int .i64 (nval ws m 1), .int .i64 (nval ws m 2), .int .i64 (nval ws m 3)] : Array Value).setIfInBounds (m + 1) (.int .i64 (wholeR (ws[m + 1]?.getD [])).1) =
    #[.int .i64 K, .int .i64 (nval ws (m + 1) 1), .int .i64 (nval ws (m + 1) 2), .int .i64 (nval ws (m + 1) 3)] := by
  match m, h with
  | 0, _ => simp [nval]
  | 1, _ => simp [nval]
  | 2, _ => simp [nval]
theorem words_index (j : Nat) (hj : j < 5) (W : World) : (Instr.index 111 (.agg #[.string (mk (wordK 0)), .string (mk (wordK 1)), .string (mk (wordK 2)), .string (mk (wordK 3)), .string (mk (wordK 4))]) (.int .i64 (j : Int))).run Tryz.prog W = .ok (.string (mk (wordK j))) W := by
  obtain ⟨i0, hi0, hz0, hz1, hz2⟩ := info_parts infoS
  have hag : (isAgg 9).run Tryz.prog W = .ok false W := by unfold isAgg; rw [Sem.run_bind, run_underlying Tryz.underlying9 W]; rfl
  have hsz : (sizeOf 9).run Tryz.prog W = .ok 1 W := by simp [sizeOf, typeInfo, hi0, hz1]
  unfold Instr.index
  obtain rfl | rfl | rfl | rfl | rfl : j = 0 ∨ j = 1 ∨ j = 2 ∨ j = 3 ∨ j = 4 := by omega
  all_goals simp [asIntOf, run_underlying Tryz.underlying111, hsz, part, hag]
set_option maxRecDepth 100000 in
set_option maxHeartbeats 4000000 in
theorem eparse_any (s : ByteArray) (w : World) (hs : s.size ≤ 1000000) (henv : Env w) : Calls Tryz.prog 30 #[.string s] w (ParseOut (parseR s.data.toList) w) := by
  have hA : Below w.heap.size w (w.alloc (.cells #[.int .i64 0, .int .i64 0, .int .i64 0, .int .i64 0] 56)) := (Below.refl _ _).alloc (Nat.le_refl _) _
  have kA : Blk (w.alloc (.cells #[.int .i64 0, .int .i64 0, .int .i64 0, .int .i64 0] 56)) w.heap.size 56 _ := Blk.new _ _ _
  have hw := lwords_any s (w.alloc (.cells #[.int .i64 0, .int .i64 0, .int .i64 0, .int .i64 0] 56)) hs (henv.below hA).glob
  generalize hW : w.alloc (.cells #[.int .i64 0, .int .i64 0, .int .i64 0, .int .i64 0] 56) = W0 at *
  have hg0 : w.heap.size < W0.heap.size := by rw [← hW]; simp
  by_cases h0 : (wordsR s.data.toList).2 ≠ 0
  · have hp := hide (parseR_bad h0)
    have h0' : ((wordsR s.data.toList).2 != 0) = true := by simpa using h0
    clear h0
    go_enter Tryz.func30, Tryz.ntmps30
    go_wp2_with (go_at_call 52; refine hw.mono ?_; intro e w1 ho; obtain ⟨A, c, rfl, -, hb⟩ := ho.open; clear ho; have kB := kA.below hb kA.lt; have c0 := kB.cell 0; have c1 := kB.cell 1; have c2 := kB.cell 2; have c3 := kB.cell 3; simp at c0 c1 c2 c3; have f0 := kB.frozen 0; have f1 := kB.frozen 1; have f2 := kB.frozen 2; have f3 := kB.frozen 3)
    try simp only [Exit.inBlock, Exit.then]
    refine bodyPost_ret (results_ev rfl rfl (blk_fill4 kB _ _ _ _) rfl) rfl ?_
    exact ⟨by rw [hp.out]; rfl, below_fill4 (hA.trans (hb.mono (Nat.le_of_lt hg0))) (Nat.le_refl _) _ _ _ _⟩
  · have h0' : (wordsR s.data.toList).2 = 0 := by omega
    have hp := hide (parseR_words h0')
    have hl1 := words_len1 h0'
    have hl8 : (wordsR s.data.toList).1.length ≤ 8 := by
      unfold wordsR
      split
      · rename_i h; exact h.1
      · simp
    have hsz : ∀ i (h : i < (wordsR s.data.toList).1.length), (mk (wordsR s.data.toList).1[i]).size ≤ 1000000 := fun i h => by
      have := words_len h0' (List.getElem_mem h)
      rw [← Lib.size_eq] at this
      rw [mk_size]
      omega
    replace hsz := hide hsz
    replace hw := hw.mono fun e w1 ho => ho.open
    rw [h0'] at hw
    clear h0 h0'
    generalize (wordsR s.data.toList).1 = ws at *
    have hK := hide (kind_lt (ws[0]?.getD []))
    have hf := hide (evR_form (ws := ws))
    have hbd := hide (fun i => evR_bad (ws := ws) (i := i))
    have hgd := hide (evR_good (ws := ws))
    go_enter Tryz.func30, Tryz.ntmps30
    go_wp2_with (go_at_call 52; refine hw.mono ?_; rintro e w1 ⟨A, c, rfl, hS, hb⟩; have hB1 := hA.trans (hb.mono (Nat.le_of_lt hg0)); have kB := kA.below hb kA.lt; have hg1 : w.heap.size < w1.heap.size := Nat.lt_of_lt_of_le hg0 hb.size; have kE : Blk (w1.alloc (.cells #[.int .i64 (-1), .int .i64 0, .int .i64 0, .int .i64 0] 56)) w1.heap.size 56 _ := Blk.new _ _ _; have hE : Below w1.heap.size w1 (w1.alloc (.cells #[.int .i64 (-1), .int .i64 0, .int .i64 0, .int .i64 0] 56)) := (Below.refl _ _).alloc (Nat.le_refl _) _; have hB2 := hB1.trans (hE.mono (Nat.le_of_lt hg1)); have gw := (henv.below hB2).words; have q0 := gw 0 (by decide); have q1 := gw 1 (by decide); have q2 := gw 2 (by decide); have q3 := gw 3 (by decide); have q4 := gw 4 (by decide); clear gw hb)
    generalize w1.alloc (.cells #[.int .i64 (-1), .int .i64 0, .int .i64 0, .int .i64 0] 56) = W2 at *
    clear q0 q1 q2 q3 q4 hw
    have hl0 : (0 : Nat) < (ws.map mk).length := by rw [List.length_map]; omega
    obtain ⟨b0, off, rfl, hbK, -⟩ := StrS.at_ hS hl0
    have hb0 : b0 < w1.heap.size := hbK.2
    have hWc := hide (show ∀ (W : World) (hW : Below w1.heap.size w1 W) (i : Nat) (hi : i < ws.length), W.cell? ⟨b0, off + i, none⟩ = some (.string (mk ws[i])) from fun W hW i hi => by
      have := (StrS.cells hS (i := i) (by rw [List.length_map]; exact hi)).2
      rw [List.getElem_map] at this
      exact (hW.cell (p := ⟨b0, off + i, none⟩) hb0).trans this)
    clear hS hbK hl0
    have hq0 : ws[0]?.getD [] = ws[0]'(by omega) := by rw [List.getElem?_eq_getElem (show 0 < ws.length by omega), Option.getD_some]
    have hc0 := hide (show ∀ (W : World) (hW : Below w1.heap.size w1 W), W.cell? ⟨b0, off, none⟩ = some (.string (mk (ws[0]'(by omega)))) from fun W hW => hWc.out W hW 0 (by omega))
    rw [hq0] at hK hf hbd hgd
    clear hq0
    generalize hw0 : ws[0]'(by omega) = w0 at *
    have hn0 : (0 : Int) < (ws.length : Int) := by omega
    have x0 : ∀ W : World, (Instr.index 111 (.agg #[.string (mk (wordK 0)), .string (mk (wordK 1)), .string (mk (wordK 2)), .string (mk (wordK 3)), .string (mk (wordK 4))]) (.int .i64 0)).run Tryz.prog W = .ok (.string (mk (wordK 0))) W := words_index 0 (by decide)
    have x1 : ∀ W : World, (Instr.index 111 (.agg #[.string (mk (wordK 0)), .string (mk (wordK 1)), .string (mk (wordK 2)), .string (mk (wordK 3)), .string (mk (wordK 4))]) (.int .i64 1)).run Tryz.prog W = .ok (.string (mk (wordK 1))) W := words_index 1 (by decide)
    have x2 : ∀ W : World, (Instr.index 111 (.agg #[.string (mk (wordK 0)), .string (mk (wordK 1)), .string (mk (wordK 2)), .string (mk (wordK 3)), .string (mk (wordK 4))]) (.int .i64 2)).run Tryz.prog W = .ok (.string (mk (wordK 2))) W := words_index 2 (by decide)
    have x3 : ∀ W : World, (Instr.index 111 (.agg #[.string (mk (wordK 0)), .string (mk (wordK 1)), .string (mk (wordK 2)), .string (mk (wordK 3)), .string (mk (wordK 4))]) (.int .i64 3)).run Tryz.prog W = .ok (.string (mk (wordK 3))) W := words_index 3 (by decide)
    have x4 : ∀ W : World, (Instr.index 111 (.agg #[.string (mk (wordK 0)), .string (mk (wordK 1)), .string (mk (wordK 2)), .string (mk (wordK 3)), .string (mk (wordK 4))]) (.int .i64 4)).run Tryz.prog W = .ok (.string (mk (wordK 4))) W := words_index 4 (by decide)
    go_loopw [7, 8, 23] (fun _ _ s23 wr => ∃ k : Nat, k ≤ 5 ∧ s23 = .int .i64 k ∧ Blk wr w1.heap.size 56 #[.int .i64 (kindTo w0 k), .int .i64 0, .int .i64 0, .int .i64 0] ∧ Below w1.heap.size w1 wr) (fun _ _ s23 _ => 5 - (intOf s23).toNat)
    case atStart => exact ⟨0, by omega, by go_num, kE, hE⟩
    case round =>
      obtain ⟨k, hk, rfl, kR, hR⟩ := hrel
      by_cases hlt : k < 5
      · have g0 := hc0.out wr hR
        have d0 := kR.cell 0
        simp at d0
        have fz := kR.frozen 0
        by_cases he : wordK k = w0
        · have hnx := hide (kindTo_hit he)
          have e1 : ((mk (wordK k)).toList == (mk w0).toList) = true := by rw [he]; simp
          have e2 : (mk (wordK k)).toList = (mk w0).toList := by rw [he]
          clear he
          obtain rfl | rfl | rfl | rfl | rfl : k = 0 ∨ k = 1 ∨ k = 2 ∨ k = 3 ∨ k = 4 := by omega
          all_goals (
            go_wp2
            go_roundw
            case rel => exact ⟨_, by decide, rfl, by rw [hnx.out]; exact kR.set_ 0 _, hR.setCell (Nat.le_refl _) _⟩
            case measure => simp [intOf])
        · have e2 : ¬ (mk (wordK k)).toList = (mk w0).toList := by rw [Lib.toList_data, Lib.toList_data, mk_bytes, mk_bytes]; exact he
          have e1 : ((mk (wordK k)).toList == (mk w0).toList) = false := by simpa using e2
          have hnx := hide (kindTo_miss he)
          clear he
          obtain rfl | rfl | rfl | rfl | rfl : k = 0 ∨ k = 1 ∨ k = 2 ∨ k = 3 ∨ k = 4 := by omega
          all_goals (
            go_wp2
            go_roundw
            case rel => exact ⟨_, by decide, rfl, by rw [hnx.out]; exact kR, hR⟩
            case measure => simp [intOf])
      · have : k = 5 := by omega
        subst this
        clear hk hlt x0 x1 x2 x3 x4 hc0 kE hE hB2 W2
        replace kR : Blk wr w1.heap.size 56 #[.int .i64 (kindOf w0), .int .i64 0, .int .i64 0, .int .i64 0] := kR
        generalize kindOf w0 = K at *
        have kP : Blk (wr.alloc (.cells #[.pointer (some ⟨w1.heap.size, 1, none⟩), .pointer (some ⟨w1.heap.size, 2, none⟩), .pointer (some ⟨w1.heap.size, 3, none⟩)] 112)) wr.heap.size 112 _ := Blk.new _ _ _
        have hP : Below w1.heap.size w1 (wr.alloc (.cells #[.pointer (some ⟨w1.heap.size, 1, none⟩), .pointer (some ⟨w1.heap.size, 2, none⟩), .pointer (some ⟨w1.heap.size, 3, none⟩)] 112)) := hR.alloc hR.size _
        have kQ := kR.alloc (.cells #[.pointer (some ⟨w1.heap.size, 1, none⟩), .pointer (some ⟨w1.heap.size, 2, none⟩), .pointer (some ⟨w1.heap.size, 3, none⟩)] 112)
        have hg2 : w1.heap.size ≤ wr.heap.size := hR.size
        have d0 := kQ.cell 0
        simp at d0
        have hit := item_any K
        have kC := kB.below hP kB.lt
        have hB3 := hB1.trans (hP.mono (Nat.le_of_lt hg1))
        have c1 := kC.cell 0
        have c2 := kC.cell 1
        have c3 := kC.cell 2
        have c4 := kC.cell 3
        simp at c1 c2 c3 c4
        have f1 := kC.frozen 0
        have f2 := kC.frozen 1
        have f3 := kC.frozen 2
        have f4 := kC.frozen 3
        by_cases hform : K < 0 ∨ ws.length ≠ manyK K + 1
        · have hr : Hid (parseR s.data.toList = (Ev.zero, 2)) := by unfold Hid; rw [hp.out]; exact hf.out hform
          have hways : (itemB K = true ∧ decide (K < 0) = false ∧ ((ws.length : Int) != 4) = true) ∨ (itemB K = false ∧ decide (K < 0) = true) ∨ (itemB K = false ∧ decide (K < 0) = false ∧ ((ws.length : Int) != 2) = true) := by
            have hmk : manyK K = if itemB K then 3 else 1 := rfl
            cases hiK : itemB K with
            | true =>
              rw [hiK, if_pos rfl] at hmk
              have hK0 : 0 ≤ K := by unfold itemB at hiK; simp at hiK; omega
              exact .inl ⟨rfl, by simp; omega, by simp; omega⟩
            | false =>
              rw [hiK, if_neg (by simp)] at hmk
              by_cases hn : K < 0
              · exact .inr (.inl ⟨rfl, by simpa using hn⟩)
              · exact .inr (.inr ⟨rfl, by simpa using hn, by simp; omega⟩)
          clear hform hf hbd hgd hK hp hWc
          rcases hways with ⟨e1, e2, e3⟩ | ⟨e1, e2⟩ | ⟨e1, e2, e3⟩
          all_goals (
            rw [e1] at hit
            go_wp2_with (go_at_call 53; refine (hit _).mono ?_; rintro e w' ⟨rfl, rfl⟩)
            (try simp only [Exit.inBlock, Exit.then])
            refine bodyPost_ret (results_ev rfl rfl (blk_fill4 kC _ _ _ _) rfl) rfl ?_
            exact ⟨by rw [hr.out]; rfl, below_fill4 hB3 (Nat.le_refl _) _ _ _ _⟩)
        · have hM : ws.length = manyK K + 1 := by omega
          have hK0 : 0 ≤ K := by omega
          have hbd' := hide (fun (i : Nat) => hbd.out i hform)
          have hgd' := hide (hgd.out hform)
          have hways : (itemB K = true ∧ ((ws.length : Int) != 4) = false ∧ Hid (ws.length = 4)) ∨ (itemB K = false ∧ ((ws.length : Int) != 2) = false ∧ Hid (ws.length = 2)) := by
            have hmk : manyK K = if itemB K then 3 else 1 := rfl
            cases hiK : itemB K with
            | true =>
              rw [hiK, if_pos rfl] at hmk
              exact .inl ⟨rfl, by simp; omega, hide (by omega)⟩
            | false =>
              rw [hiK, if_neg (by simp)] at hmk
              exact .inr ⟨rfl, by simp; omega, hide (by omega)⟩
          have hK3 : ¬ K < 0 := by omega
          have hK4 : decide (K < 0) = false := by simpa using hK3
          have hgl : w1.heap.size < wr.heap.size := kR.lt
          clear hform hf hbd hgd hK hM c1 c2 c3 c4 f1 f2 f3 f4 hK0 kC hB3 kR hR
          rcases hways with ⟨e1, e2, e3⟩ | ⟨e1, e2, e3⟩
          · rw [e1] at hit
            go_wp2_with (go_at_call 53; refine (hit _).mono ?_; rintro e w' ⟨rfl, rfl⟩)
            have hlen := e3.out
            clear hit d0 e1 e2 e3 hK3 hK4
            generalize wr.alloc (.cells #[.pointer (some ⟨w1.heap.size, 1, none⟩), .pointer (some ⟨w1.heap.size, 2, none⟩), .pointer (some ⟨w1.heap.size, 3, none⟩)] 112) = W3 at *
            generalize wr.heap.size = gl at *
            have hi1 : (1 : Int) < (ws.length : Int) := by omega
            have hi2 : (2 : Int) < (ws.length : Int) := by omega
            have hi3 : (3 : Int) < (ws.length : Int) := by omega
            replace hlen := hide hlen
            go_loopw [5, 10, 11, 59] (fun _ _ _ s59 wq => ∃ m : Nat, m ≤ 3 ∧ s59 = .int .i64 m ∧ Hid (∀ j, j < m → errW ws (j + 1) = 0) ∧ Blk wq w1.heap.size 56 #[.int .i64 K, .int .i64 (nval ws m 1), .int .i64 (nval ws m 2), .int .i64 (nval ws m 3)] ∧ Blk wq gl 112 #[.pointer (some ⟨w1.heap.size, 1, none⟩), .pointer (some ⟨w1.heap.size, 2, none⟩), .pointer (some ⟨w1.heap.size, 3, none⟩)] ∧ Below w1.heap.size w1 wq) (fun _ _ _ s59 _ => 3 - (intOf s59).toNat)
            case atStart => exact ⟨0, by omega, by go_num, fun j hj => absurd hj (by omega), kQ, kP, hP⟩
            case round =>
              obtain ⟨m, hm, rfl, herr, kM, kL, hBm⟩ := hrel
              clear kQ kP hP
              have kC := kB.below hBm kB.lt
              have hB2 := hB1.trans (hBm.mono (Nat.le_of_lt hg1))
              by_cases hlt : m < 3
              · have hx : m + 1 < ws.length := by rw [hlen.out]; omega
                have g0 := hWc.out wr hBm (m + 1) hx
                have hwh := nwhole_any (mk (ws[m + 1]'hx)) wr (hsz.out (m + 1) hx)
                rw [mk_bytes] at hwh
                have hq : errW ws (m + 1) = (wholeR (ws[m + 1]'hx)).2 := by unfold errW; rw [List.getElem?_eq_getElem hx, Option.getD_some]
                have hq1 : (wholeR (ws[m + 1]?.getD [])).1 = (wholeR (ws[m + 1]'hx)).1 := by rw [List.getElem?_eq_getElem hx, Option.getD_some]
                have hstep := ev_step ws K (m := m) (by omega)
                rw [hq1] at hstep
                have hbd2 := hbd'.out m hx herr.out
                rw [hq] at hbd2
                have herr2 : (wholeR (ws[m + 1]'hx)).2 = 0 → ∀ j, j < m + 1 → errW ws (j + 1) = 0 := fun h j hj => by
                  by_cases hjm : j = m
                  · subst hjm; rw [hq]; exact h
                  · exact herr.out j (by omega)
                generalize wholeR (ws[m + 1]'hx) = wv at *
                generalize mk (ws[m + 1]'hx) = tx at *
                obtain ⟨v, f⟩ := wv
                have d := kM.cell (m + 1)
                have fz := kM.frozen (m + 1)
                have p0 := kL.cell m
                have kC2 := kC.far (p := ⟨w1.heap.size, m + 1, none⟩) (by simp; omega) (.int .i64 v)
                have kL2 := kL.far (p := ⟨w1.heap.size, m + 1, none⟩) (by simp; omega) (.int .i64 v)
                have c1 := kC2.cell 0
                have c2 := kC2.cell 1
                have c3 := kC2.cell 2
                have c4 := kC2.cell 3
                have f1 := kC2.frozen 0
                have f2 := kC2.frozen 1
                have f3 := kC2.frozen 2
                have f4 := kC2.frozen 3
                simp only [List.getElem?_toArray, List.getElem?_cons_zero, List.getElem?_cons_succ] at c1 c2 c3 c4
                have hB3 := hB2.setCell (p := ⟨w1.heap.size, m + 1, none⟩) (Nat.le_of_lt hg1) (.int .i64 v)
                have hB4 := hBm.setCell (p := ⟨w1.heap.size, m + 1, none⟩) (Nat.le_refl _) (.int .i64 v)
                have kM2 := kM.set_ (m + 1) (.int .i64 v)
                rw [hstep] at kM2
                clear hstep hq hq1 hx kC kL kM herr
                by_cases hz : f = 0
                · subst hz
                  have herr3 := hide (herr2 rfl)
                  clear hbd2 herr2 c1 c2 c3 c4 f1 f2 f3 f4 kC2 hB3
                  obtain rfl | rfl | rfl : m = 0 ∨ m = 1 ∨ m = 2 := by omega
                  all_goals (
                    simp at d p0
                    simp only [Nat.reduceAdd, Nat.zero_add] at *
                    go_wp2_with (go_at_call 54; refine hwh.mono ?_; rintro e w' ⟨rfl, rfl⟩)
                    go_roundw
                    case rel => exact ⟨_, by decide, rfl, herr3.out, kM2, kL2, hB4⟩
                    case measure => simp [intOf])
                · have hr : Hid (parseR s.data.toList = (Ev.zero, f)) := by unfold Hid; rw [hp.out]; exact hbd2 hz
                  have hz2 : (f != 0) = true := by simpa using hz
                  clear hbd2 herr2 hz kM2 kL2 hB4
                  obtain rfl | rfl | rfl : m = 0 ∨ m = 1 ∨ m = 2 := by omega
                  all_goals (
                    simp at d p0
                    simp only [Nat.reduceAdd, Nat.zero_add] at *
                    go_wp2_with (go_at_call 54; refine hwh.mono ?_; rintro e w' ⟨rfl, rfl⟩)
                    (try simp only [Exit.inBlock, Exit.then])
                    refine bodyPost_ret (results_ev rfl rfl (blk_fill4 kC2 _ _ _ _) rfl) rfl ?_
                    exact ⟨by rw [hr.out]; rfl, below_fill4 hB3 (Nat.le_refl _) _ _ _ _⟩)
              · have : m = 3 := by omega
                subst this
                have hr := hgd'.out fun j hj => herr.out j (by have := hlen.out; omega)
                have hme : 3 + 1 = ws.length := by rw [hlen.out]
                rw [nval_end hme, nval_end hme, nval_end hme] at kM
                have d0 := kM.cell 0
                have d1 := kM.cell 1
                have d2 := kM.cell 2
                have d3 := kM.cell 3
                have c1 := kC.cell 0
                have c2 := kC.cell 1
                have c3 := kC.cell 2
                have c4 := kC.cell 3
                simp at d0 d1 d2 d3 c1 c2 c3 c4
                have f1 := kC.frozen 0
                have f2 := kC.frozen 1
                have f3 := kC.frozen 2
                have f4 := kC.frozen 3
                clear hme kM kL herr
                by_cases hmany : 7 < numW ws 1 ∨ 15 < numW ws 2
                · have hr2 : Hid (parseR s.data.toList = (Ev.zero, 4)) := by unfold Hid; rw [hp.out, hr, if_pos hmany]
                  have hmw : 8 ≤ numW ws 1 ∨ (¬ 8 ≤ numW ws 1 ∧ 16 ≤ numW ws 2) := by omega
                  clear hr hmany
                  rcases hmw with q1 | ⟨q1, q2⟩
                  all_goals (
                    go_wp2
                    (try simp only [Exit.inBlock, Exit.then])
                    refine bodyPost_ret (results_ev rfl rfl (blk_fill4 kC _ _ _ _) rfl) rfl ?_
                    exact ⟨by rw [hr2.out]; rfl, below_fill4 hB2 (Nat.le_refl _) _ _ _ _⟩)
                · have hr2 : Hid (parseR s.data.toList = (⟨K, numW ws 1, numW ws 2, numW ws 3⟩, 0)) := by unfold Hid; rw [hp.out, hr, if_neg hmany]
                  have q1 : ¬ 8 ≤ numW ws 1 := by omega
                  have q2 : ¬ 16 ≤ numW ws 2 := by omega
                  clear hr hmany
                  go_wp2
                  (try simp only [Exit.inBlock, Exit.then])
                  refine bodyPost_ret (results_ev rfl rfl (blk_fill4 kC _ _ _ _) rfl) rfl ?_
                  exact ⟨by rw [hr2.out]; rfl, below_fill4 hB2 (Nat.le_refl _) _ _ _ _⟩
          · rw [e1] at hit
            go_wp2_with (go_at_call 53; refine (hit _).mono ?_; rintro e w' ⟨rfl, rfl⟩)
            have hlen := e3.out
            clear hit d0 e1 e2 e3 hK3 hK4
            generalize wr.alloc (.cells #[.pointer (some ⟨w1.heap.size, 1, none⟩), .pointer (some ⟨w1.heap.size, 2, none⟩), .pointer (some ⟨w1.heap.size, 3, none⟩)] 112) = W3 at *
            generalize wr.heap.size = gl at *
            have hi1 : (1 : Int) < (ws.length : Int) := by omega
            replace hlen := hide hlen
            go_loopw [5, 10, 11, 59] (fun _ _ _ s59 wq => ∃ m : Nat, m ≤ 1 ∧ s59 = .int .i64 m ∧ Hid (∀ j, j < m → errW ws (j + 1) = 0) ∧ Blk wq w1.heap.size 56 #[.int .i64 K, .int .i64 (nval ws m 1), .int .i64 (nval ws m 2), .int .i64 (nval ws m 3)] ∧ Blk wq gl 112 #[.pointer (some ⟨w1.heap.size, 1, none⟩), .pointer (some ⟨w1.heap.size, 2, none⟩), .pointer (some ⟨w1.heap.size, 3, none⟩)] ∧ Below w1.heap.size w1 wq) (fun _ _ _ s59 _ => 1 - (intOf s59).toNat)
            case atStart => exact ⟨0, by omega, by go_num, fun j hj => absurd hj (by omega), kQ, kP, hP⟩
            case round =>
              obtain ⟨m, hm, rfl, herr, kM, kL, hBm⟩ := hrel
              clear kQ kP hP
              have kC := kB.below hBm kB.lt
              have hB2 := hB1.trans (hBm.mono (Nat.le_of_lt hg1))
              by_cases hlt : m < 1
              · have hx : m + 1 < ws.length := by rw [hlen.out]; omega
                have g0 := hWc.out wr hBm (m + 1) hx
                have hwh := nwhole_any (mk (ws[m + 1]'hx)) wr (hsz.out (m + 1) hx)
                rw [mk_bytes] at hwh
                have hq : errW ws (m + 1) = (wholeR (ws[m + 1]'hx)).2 := by unfold errW; rw [List.getElem?_eq_getElem hx, Option.getD_some]
                have hq1 : (wholeR (ws[m + 1]?.getD [])).1 = (wholeR (ws[m + 1]'hx)).1 := by rw [List.getElem?_eq_getElem hx, Option.getD_some]
                have hstep := ev_step ws K (m := m) (by omega)
                rw [hq1] at hstep
                have hbd2 := hbd'.out m hx herr.out
                rw [hq] at hbd2
                have herr2 : (wholeR (ws[m + 1]'hx)).2 = 0 → ∀ j, j < m + 1 → errW ws (j + 1) = 0 := fun h j hj => by
                  by_cases hjm : j = m
                  · subst hjm; rw [hq]; exact h
                  · exact herr.out j (by omega)
                generalize wholeR (ws[m + 1]'hx) = wv at *
                generalize mk (ws[m + 1]'hx) = tx at *
                obtain ⟨v, f⟩ := wv
                have d := kM.cell (m + 1)
                have fz := kM.frozen (m + 1)
                have p0 := kL.cell m
                have kC2 := kC.far (p := ⟨w1.heap.size, m + 1, none⟩) (by simp; omega) (.int .i64 v)
                have kL2 := kL.far (p := ⟨w1.heap.size, m + 1, none⟩) (by simp; omega) (.int .i64 v)
                have c1 := kC2.cell 0
                have c2 := kC2.cell 1
                have c3 := kC2.cell 2
                have c4 := kC2.cell 3
                have f1 := kC2.frozen 0
                have f2 := kC2.frozen 1
                have f3 := kC2.frozen 2
                have f4 := kC2.frozen 3
                simp only [List.getElem?_toArray, List.getElem?_cons_zero, List.getElem?_cons_succ] at c1 c2 c3 c4
                have hB3 := hB2.setCell (p := ⟨w1.heap.size, m + 1, none⟩) (Nat.le_of_lt hg1) (.int .i64 v)
                have hB4 := hBm.setCell (p := ⟨w1.heap.size, m + 1, none⟩) (Nat.le_refl _) (.int .i64 v)
                have kM2 := kM.set_ (m + 1) (.int .i64 v)
                rw [hstep] at kM2
                clear hstep hq hq1 hx kC kL kM herr
                by_cases hz : f = 0
                · subst hz
                  have herr3 := hide (herr2 rfl)
                  clear hbd2 herr2 c1 c2 c3 c4 f1 f2 f3 f4 kC2 hB3
                  obtain rfl : m = 0 := by omega
                  all_goals (
                    simp at d p0
                    simp only [Nat.reduceAdd, Nat.zero_add] at *
                    go_wp2_with (go_at_call 54; refine hwh.mono ?_; rintro e w' ⟨rfl, rfl⟩)
                    go_roundw
                    case rel => exact ⟨_, by decide, rfl, herr3.out, kM2, kL2, hB4⟩
                    case measure => simp [intOf])
                · have hr : Hid (parseR s.data.toList = (Ev.zero, f)) := by unfold Hid; rw [hp.out]; exact hbd2 hz
                  have hz2 : (f != 0) = true := by simpa using hz
                  clear hbd2 herr2 hz kM2 kL2 hB4
                  obtain rfl : m = 0 := by omega
                  all_goals (
                    simp at d p0
                    simp only [Nat.reduceAdd, Nat.zero_add] at *
                    go_wp2_with (go_at_call 54; refine hwh.mono ?_; rintro e w' ⟨rfl, rfl⟩)
                    (try simp only [Exit.inBlock, Exit.then])
                    refine bodyPost_ret (results_ev rfl rfl (blk_fill4 kC2 _ _ _ _) rfl) rfl ?_
                    exact ⟨by rw [hr.out]; rfl, below_fill4 hB3 (Nat.le_refl _) _ _ _ _⟩)
              · have : m = 1 := by omega
                subst this
                have hr := hgd'.out fun j hj => herr.out j (by have := hlen.out; omega)
                have hme : 1 + 1 = ws.length := by rw [hlen.out]
                rw [nval_end hme, nval_end hme, nval_end hme] at kM
                have d0 := kM.cell 0
                have d1 := kM.cell 1
                have d2 := kM.cell 2
                have d3 := kM.cell 3
                have c1 := kC.cell 0
                have c2 := kC.cell 1
                have c3 := kC.cell 2
                have c4 := kC.cell 3
                simp at d0 d1 d2 d3 c1 c2 c3 c4
                have f1 := kC.frozen 0
                have f2 := kC.frozen 1
                have f3 := kC.frozen 2
                have f4 := kC.frozen 3
                clear hme kM kL herr
                by_cases hmany : 7 < numW ws 1 ∨ 15 < numW ws 2
                · have hr2 : Hid (parseR s.data.toList = (Ev.zero, 4)) := by unfold Hid; rw [hp.out, hr, if_pos hmany]
                  have hmw : 8 ≤ numW ws 1 ∨ (¬ 8 ≤ numW ws 1 ∧ 16 ≤ numW ws 2) := by omega
                  clear hr hmany
                  rcases hmw with q1 | ⟨q1, q2⟩
                  all_goals (
                    go_wp2
                    (try simp only [Exit.inBlock, Exit.then])
                    refine bodyPost_ret (results_ev rfl rfl (blk_fill4 kC _ _ _ _) rfl) rfl ?_
                    exact ⟨by rw [hr2.out]; rfl, below_fill4 hB2 (Nat.le_refl _) _ _ _ _⟩)
                · have hr2 : Hid (parseR s.data.toList = (⟨K, numW ws 1, numW ws 2, numW ws 3⟩, 0)) := by unfold Hid; rw [hp.out, hr, if_neg hmany]
                  have q1 : ¬ 8 ≤ numW ws 1 := by omega
                  have q2 : ¬ 16 ≤ numW ws 2 := by omega
                  clear hr hmany
                  go_wp2
                  (try simp only [Exit.inBlock, Exit.then])
                  refine bodyPost_ret (results_ev rfl rfl (blk_fill4 kC _ _ _ _) rfl) rfl ?_
                  exact ⟨by rw [hr2.out]; rfl, below_fill4 hB2 (Nat.le_refl _) _ _ _ _⟩
end Go.Proofs.YtphcebgpllecjaaGreatDoor
