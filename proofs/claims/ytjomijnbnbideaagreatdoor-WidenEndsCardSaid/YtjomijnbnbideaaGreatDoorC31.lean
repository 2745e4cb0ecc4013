/-
  Walks: layer 13's reference: where ways lead.
-/
import Derived.Test.YtjomijnbnbideaaGreatDoorC24
import Derived.Test.YtjomijnbnbideaaGreatDoorC23
set_option linter.unusedVariables false
set_option linter.unusedSimpArgs false
namespace Go.Proofs.YtjomijnbnbideaaGreatDoor
open Go.RowKit Go.Inq
set_option maxHeartbeats 8000000
attribute [local go_sem ↓] Go.wp_at_zero Go.wp_at_succ

theorem cloTo_at (E : Edges) (k x y : Nat) : cloTo E (k + 1) x y = (cloTo E k x y || (cloTo E k x k && cloTo E k k y)) := rfl
set_option maxRecDepth 100000 in
theorem rclose13_any (n : Nat) (A : Option Addr) (c : Nat) (E : Edges) (w : World) (h : GrS w (Old w) n A c E) :
    Calls Tryz.prog 214 #[.agg #[.int .i64 n, .slice A n c]] w fun e w' => ∃ A' c', e = .returned (.agg #[.int .i64 n, .slice A' n c']) ∧ GrS w' (Old w') n A' c' (cloE n E) ∧ Below w.heap.size w w' := by
  have hn64 := h.n64
  go_enter Tryz.func214, Tryz.ntmps214
  go_upto_region 2 with fail
  obtain ⟨W0, hW0⟩ : ∃ W0, ((w.alloc (.cells #[.int .i64 n, .slice A n c] 124)).alloc (.cells #[.int .i64 0, .slice none 0 0] 124)).alloc (.cells #[.int .i64 n, .slice A n c] 124) = W0 := ⟨_, rfl⟩
  rw [hW0]
  have hb := below_three hW0
  have k1 := Blk.three1 hW0
  have k3 := Blk.three2 hW0
  have k2 := Blk.three3 hW0
  have hg := h.keep (K' := fun b => b < W0.heap.size ∧ b ≠ w.heap.size + 1 ∧ b ≠ w.heap.size + 1 + 1) (Agree.below hb fun b h => h) (fun b (h : b < w.heap.size) => ⟨Nat.lt_of_lt_of_le h hb.size, by omega, by omega⟩)
  clear hW0 h
  go_wp2_with fail
  go_loopw [4] (fun s4 wr => ∃ (k : Nat) (Av : Option Addr) (cv : Nat), k ≤ n ∧ s4 = .int .i64 k ∧ Blk wr (w.heap.size + 1 + 1) 124 #[.int .i64 n, .slice Av n cv] ∧ GrS wr (fun b => b < wr.heap.size ∧ b ≠ w.heap.size + 1 ∧ b ≠ w.heap.size + 1 + 1) n Av cv (cloTo E k) ∧ Below (w.heap.size + 1 + 1) W0 wr) (fun s4 _ => n - (intOf s4).toNat)
  case atStart => exact ⟨0, A, c, Nat.zero_le _, by go_num, k2, hg, Below.refl _ _⟩
  case round =>
    clear k2 hg
    obtain ⟨k, Av, cv, hk, rfl, k2, hgr, hbr⟩ := hrel
    have hk1 : (0 : Int) ≤ (k : Int) := Int.natCast_nonneg _
    have k1r := k1.below hbr (by omega)
    have a0 := k1r.cell 0
    simp only [List.getElem?_toArray, List.getElem?_cons_zero, List.getElem?_cons_succ] at a0
    by_cases hlt : k < n
    · have hk2 : (k : Int) < (n : Int) := by omega
      go_wp2_with fail
      refine (rnew12_any n hn64 wr).mono ?_
      rintro e w1 ⟨v, rfl, hR, hb1⟩
      clear a0
      obtain ⟨Ad, cd, rfl, -⟩ := hR.gr hn64 (K := fun _ => True) (fun _ _ _ => trivial)
      go_upto_region 6 with fail
      obtain ⟨W5, hW5⟩ : ∃ W5, w1.alloc (.cells #[.int .i64 n, .slice Ad n cd] 124) = W5 := ⟨_, rfl⟩
      rw [hW5]
      have hP := RGP.start hR hn64 hW5
      have hs1 := hb1.size
      have hb5 := below_allocEq hb1 hW5 hs1
      have k2l := k2.lt
      have hszr := hbr.size
      have hcat := hide (cloTo_at E k)
      generalize hFe : cloTo E (k + 1) = F at *
      replace hFe := hide hFe
      generalize cloTo E k = D at *
      clear hW5 hR hb1
      replace hgr := hide hgr
      go_wp2_with fail
      go_loopw [6] (fun s6 wq => ∃ x : Nat, x ≤ n ∧ s6 = .int .i64 x ∧ RGP wq wr.heap.size w1.heap.size n (uptoE F x 0) Ad cd ∧ Below wr.heap.size wr wq) (fun s6 _ => n - (intOf s6).toNat)
      case atStart => exact ⟨0, Nat.zero_le _, by go_num, by rw [uptoE_zero]; exact hP, hb5⟩
      case round =>
        clear hP hb5
        obtain ⟨Wo, rfl⟩ : ∃ Wo, Wo = wr := ⟨_, rfl⟩
        obtain ⟨x, hx, rfl, hPx, hbx⟩ := hrel
        have hx1 : (0 : Int) ≤ (x : Int) := Int.natCast_nonneg _
        have k1x := k1r.below hbx k1r.lt
        have k2x := k2.below hbx k2.lt
        have a0 := k1x.cell 0
        simp only [List.getElem?_toArray, List.getElem?_cons_zero, List.getElem?_cons_succ] at a0
        by_cases hlx : x < n
        · have hx2 : (x : Int) < (n : Int) := by omega
          go_wp2_with fail
          clear a0 k1x
          go_loopw [7] (fun s7 wq => ∃ y : Nat, y ≤ n ∧ s7 = .int .i64 y ∧ RGP wq wr.heap.size w1.heap.size n (uptoE F x y) Ad cd ∧ Below wr.heap.size wr wq) (fun s7 _ => n - (intOf s7).toNat)
          case atStart => exact ⟨0, Nat.zero_le _, by go_num, hPx, hbx⟩
          case round =>
            clear hPx hbx k2x
            obtain ⟨Wp, rfl⟩ : ∃ Wp, Wp = wr := ⟨_, rfl⟩
            obtain ⟨y, hy, rfl, hPy, hby⟩ := hrel
            have hy1 : (0 : Int) ≤ (y : Int) := Int.natCast_nonneg _
            have k1y := k1r.below hby k1r.lt
            have k2y := k2.below hby k2.lt
            have a0 := k1y.cell 0
            have c0 := k2y.cell 0
            have c1 := k2y.cell 1
            simp only [List.getElem?_toArray, List.getElem?_cons_zero, List.getElem?_cons_succ] at a0 c0 c1
            by_cases hly : y < n
            · have hy2 : (y : Int) < (n : Int) := by omega
              have hst := hide (uptoE_step (E := F) (x := x) (y := y))
              have hsk := hide (uptoE_skip (E := F) (x := x) (y := y))
              have hFx := hide (hcat.out x y)
              have hh1 := hide (rhas12_any n Av cv D x y (fun b => b < wr.heap.size ∧ b ≠ w.heap.size + 1 ∧ b ≠ w.heap.size + 1 + 1) Wp (hgr.out.keep (Agree.below hby fun b h => h.1) (fun b h => h)) (fun b h => Nat.lt_of_lt_of_le h.1 hby.size) hlx hly)
              generalize D x y = e1 at *
              generalize hd2 : D x k = e2 at *
              generalize hd3 : D k y = e3 at *
              replace hd2 := hide hd2
              replace hd3 := hide hd3
              go_wp2_with fail
              clear a0 c0 c1
              refine hh1.out.mono ?_
              rintro e w2 ⟨rfl, hb2⟩
              have hb3 := hby.trans (hb2.mono hby.size)
              have hP3 := hPy.below hb2 (Nat.le_refl _)
              have k2z := k2.below hb3 k2.lt
              have c0 := k2z.cell 0
              have c1 := k2z.cell 1
              simp only [List.getElem?_toArray, List.getElem?_cons_zero, List.getElem?_cons_succ] at c0 c1
              have hh2 := hide (rhas12_any n Av cv D x k (fun b => b < wr.heap.size ∧ b ≠ w.heap.size + 1 ∧ b ≠ w.heap.size + 1 + 1) w2 (hgr.out.keep (Agree.below hb3 fun b h => h.1) (fun b h => h)) (fun b h => Nat.lt_of_lt_of_le h.1 hb3.size) hlx hlt)
              rw [hd2.out] at hh2
              clear hh1 hb2 hby hPy k1y k2y
              go_wp2_with fail
              clear c0 c1
              refine hh2.out.mono ?_
              rintro e w3 ⟨rfl, hb4⟩
              have hb5 := hb3.trans (hb4.mono hb3.size)
              have hP5 := hP3.below hb4 (Nat.le_refl _)
              have k2u := k2.below hb5 k2.lt
              have c0 := k2u.cell 0
              have c1 := k2u.cell 1
              simp only [List.getElem?_toArray, List.getElem?_cons_zero, List.getElem?_cons_succ] at c0 c1
              have hh3 := hide (rhas12_any n Av cv D k y (fun b => b < wr.heap.size ∧ b ≠ w.heap.size + 1 ∧ b ≠ w.heap.size + 1 + 1) w3 (hgr.out.keep (Agree.below hb5 fun b h => h.1) (fun b h => h)) (fun b h => Nat.lt_of_lt_of_le h.1 hb5.size) hlt hly)
              rw [hd3.out] at hh3
              clear hh2 hb3 hP3 k2z hb4
              go_wp2_with fail
              clear c0 c1
              refine hh3.out.mono ?_
              rintro e w6 ⟨rfl, hb6⟩
              have hb4 := hb5.trans (hb6.mono hb5.size)
              have hP4 := hP5.below hb6 (Nat.le_refl _)
              clear hh3 hb5 hP5 k2u hb6 hd2 hd3
              cases e1 <;> cases e2 <;> cases e3
              · have hE2 := hide (hsk.out (by rw [hFx.out]; rfl))
                clear hst hsk hFx
                go_wp2
                go_roundw
                case rel => exact ⟨y + 1, by omega, by go_num, by rw [hE2.out]; exact hP4, hb4⟩
                case measure => simp [intOf]; omega
              · have hE2 := hide (hsk.out (by rw [hFx.out]; rfl))
                clear hst hsk hFx
                go_wp2
                go_roundw
                case rel => exact ⟨y + 1, by omega, by go_num, by rw [hE2.out]; exact hP4, hb4⟩
                case measure => simp [intOf]; omega
              · have hE2 := hide (hsk.out (by rw [hFx.out]; rfl))
                clear hst hsk hFx
                go_wp2
                go_roundw
                case rel => exact ⟨y + 1, by omega, by go_num, by rw [hE2.out]; exact hP4, hb4⟩
                case measure => simp [intOf]; omega
              · have hE2 := hide (hst.out (by rw [hFx.out]; rfl))
                obtain ⟨g, rfl, hX⟩ := hP4.at_ hlx
                have hP5 := hide (hX.add (y := y) hlx hly).drew
                have hb5 := hide (below_drew (hb4.setCell (p := ⟨g, x, none⟩) hX.B (.int .u64 (withB (setB ((uptoE F x y) x) n) (y : Int) : Nat))))
                obtain ⟨-, c0, c1, d0, df, gp, gl, -, h64⟩ := hX
                clear hst hsk hFx hP4 hb4
                generalize setB ((uptoE F x y) x) n = s at *
                go_upto_region 16 with fail
                refine wp_region_still_tail 11 (by kernel_rfl) (by kernel_rfl) ?_
                simp only [List.take_succ_cons, List.take_zero, List.drop_succ_cons, List.drop_zero]
                repeat still_step
                still_call ((rwith10_any _ h64 _ _).mono fun _ _ h => ⟨h.1, h.2.symm⟩)
                repeat still_step
                refine wpStill_nil ?_
                change wpList _ _ _ _ _ (w6).drew
                go_wp2
                go_roundw
                case rel => exact ⟨y + 1, by omega, by go_num, by rw [hE2.out]; exact hP5.out, hb5.out⟩
                case measure => simp [intOf]; omega
              · have hE2 := hide (hst.out (by rw [hFx.out]; rfl))
                obtain ⟨g, rfl, hX⟩ := hP4.at_ hlx
                have hP5 := hide (hX.add (y := y) hlx hly).drew
                have hb5 := hide (below_drew (hb4.setCell (p := ⟨g, x, none⟩) hX.B (.int .u64 (withB (setB ((uptoE F x y) x) n) (y : Int) : Nat))))
                obtain ⟨-, c0, c1, d0, df, gp, gl, -, h64⟩ := hX
                clear hst hsk hFx hP4 hb4
                generalize setB ((uptoE F x y) x) n = s at *
                go_upto_region 16 with fail
                refine wp_region_still_tail 11 (by kernel_rfl) (by kernel_rfl) ?_
                simp only [List.take_succ_cons, List.take_zero, List.drop_succ_cons, List.drop_zero]
                repeat still_step
                still_call ((rwith10_any _ h64 _ _).mono fun _ _ h => ⟨h.1, h.2.symm⟩)
                repeat still_step
                refine wpStill_nil ?_
                change wpList _ _ _ _ _ (w6).drew
                go_wp2
                go_roundw
                case rel => exact ⟨y + 1, by omega, by go_num, by rw [hE2.out]; exact hP5.out, hb5.out⟩
                case measure => simp [intOf]; omega
              · have hE2 := hide (hst.out (by rw [hFx.out]; rfl))
                obtain ⟨g, rfl, hX⟩ := hP4.at_ hlx
                have hP5 := hide (hX.add (y := y) hlx hly).drew
                have hb5 := hide (below_drew (hb4.setCell (p := ⟨g, x, none⟩) hX.B (.int .u64 (withB (setB ((uptoE F x y) x) n) (y : Int) : Nat))))
                obtain ⟨-, c0, c1, d0, df, gp, gl, -, h64⟩ := hX
                clear hst hsk hFx hP4 hb4
                generalize setB ((uptoE F x y) x) n = s at *
                go_upto_region 16 with fail
                refine wp_region_still_tail 11 (by kernel_rfl) (by kernel_rfl) ?_
                simp only [List.take_succ_cons, List.take_zero, List.drop_succ_cons, List.drop_zero]
                repeat still_step
                still_call ((rwith10_any _ h64 _ _).mono fun _ _ h => ⟨h.1, h.2.symm⟩)
                repeat still_step
                refine wpStill_nil ?_
                change wpList _ _ _ _ _ (w6).drew
                go_wp2
                go_roundw
                case rel => exact ⟨y + 1, by omega, by go_num, by rw [hE2.out]; exact hP5.out, hb5.out⟩
                case measure => simp [intOf]; omega
              · have hE2 := hide (hst.out (by rw [hFx.out]; rfl))
                obtain ⟨g, rfl, hX⟩ := hP4.at_ hlx
                have hP5 := hide (hX.add (y := y) hlx hly).drew
                have hb5 := hide (below_drew (hb4.setCell (p := ⟨g, x, none⟩) hX.B (.int .u64 (withB (setB ((uptoE F x y) x) n) (y : Int) : Nat))))
                obtain ⟨-, c0, c1, d0, df, gp, gl, -, h64⟩ := hX
                clear hst hsk hFx hP4 hb4
                generalize setB ((uptoE F x y) x) n = s at *
                go_upto_region 16 with fail
                refine wp_region_still_tail 11 (by kernel_rfl) (by kernel_rfl) ?_
                simp only [List.take_succ_cons, List.take_zero, List.drop_succ_cons, List.drop_zero]
                repeat still_step
                still_call ((rwith10_any _ h64 _ _).mono fun _ _ h => ⟨h.1, h.2.symm⟩)
                repeat still_step
                refine wpStill_nil ?_
                change wpList _ _ _ _ _ (w6).drew
                go_wp2
                go_roundw
                case rel => exact ⟨y + 1, by omega, by go_num, by rw [hE2.out]; exact hP5.out, hb5.out⟩
                case measure => simp [intOf]; omega
              · have hE2 := hide (hst.out (by rw [hFx.out]; rfl))
                obtain ⟨g, rfl, hX⟩ := hP4.at_ hlx
                have hP5 := hide (hX.add (y := y) hlx hly).drew
                have hb5 := hide (below_drew (hb4.setCell (p := ⟨g, x, none⟩) hX.B (.int .u64 (withB (setB ((uptoE F x y) x) n) (y : Int) : Nat))))
                obtain ⟨-, c0, c1, d0, df, gp, gl, -, h64⟩ := hX
                clear hst hsk hFx hP4 hb4
                generalize setB ((uptoE F x y) x) n = s at *
                go_upto_region 16 with fail
                refine wp_region_still_tail 11 (by kernel_rfl) (by kernel_rfl) ?_
                simp only [List.take_succ_cons, List.take_zero, List.drop_succ_cons, List.drop_zero]
                repeat still_step
                still_call ((rwith10_any _ h64 _ _).mono fun _ _ h => ⟨h.1, h.2.symm⟩)
                repeat still_step
                refine wpStill_nil ?_
                change wpList _ _ _ _ _ (w6).drew
                go_wp2
                go_roundw
                case rel => exact ⟨y + 1, by omega, by go_num, by rw [hE2.out]; exact hP5.out, hb5.out⟩
                case measure => simp [intOf]; omega
            · obtain rfl : y = n := by omega
              have hP4 := hide (hPy.congr (F := uptoE F (x + 1) 0) fun a b _ hb => uptoE_row hb)
              clear hPy
              go_wp2
              go_roundw
              case rel => exact ⟨x + 1, by omega, by go_num, hP4.out, hby⟩
              case measure => simp [intOf]; omega
        · obtain rfl : x = n := by omega
          have hP4 := hPx.congr (F := F) fun a b ha _ => uptoE_all ha
          have d0 := hP4.c0
          have d1 := hP4.c1
          have f0 := k2x.frozen 0
          have f1 := k2x.frozen 1
          have e0 := k2x.cell 0
          have e1 := k2x.cell 1
          simp only [List.getElem?_toArray, List.getElem?_cons_zero, List.getElem?_cons_succ] at e0 e1
          have hq := (k2x.set_ 0 (.int .i64 x)).set_ 1 (.slice Ad x cd)
          simp only [List.setIfInBounds_toArray, List.set_cons_zero, List.set_cons_succ] at hq
          have hR2 := (hP4.rg.far (p := ⟨w.heap.size + 1 + 1, 0, none⟩) k2l (.int .i64 x)).far (p := ⟨w.heap.size + 1 + 1, 1, none⟩) k2l (.slice Ad x cd)
          have hz := ((hbr.trans (hbx.mono (by omega))).setCell (p := ⟨w.heap.size + 1 + 1, 0, none⟩) (by simp) (.int .i64 x)).setCell (p := ⟨w.heap.size + 1 + 1, 1, none⟩) (by simp) (.slice Ad x cd)
          obtain ⟨A2, c2, e2, hG2⟩ := hR2.gr hn64 (K := fun b => b < ((Wo.setCell ⟨w.heap.size + 1 + 1, 0, none⟩ (.int .i64 x)).setCell ⟨w.heap.size + 1 + 1, 1, none⟩ (.slice Ad x cd)).heap.size ∧ b ≠ w.heap.size + 1 ∧ b ≠ w.heap.size + 1 + 1) (fun g h1 h2 => ⟨h2, by omega, by omega⟩)
          simp only [Value.slice.injEq, true_and] at e2
          obtain ⟨rfl, rfl⟩ := e2
          replace hG2 := hide hG2
          replace hz := hide hz
          replace hq := hide hq
          clear hR2 hPx hP4
          go_wp2
          go_roundw
          case rel => exact ⟨k + 1, _, _, by omega, by go_num, hq.out, by rw [hFe.out]; exact hG2.out, hz.out⟩
          case measure => simp [intOf]; omega
    · obtain rfl : k = n := by omega
      have c0 := k2.cell 0
      have c1 := k2.cell 1
      have k3r := k3.below hbr (by omega)
      have f0 := k3r.frozen 0
      have f1 := k3r.frozen 1
      have e0 := k3r.cell 0
      have e1 := k3r.cell 1
      have hq := (k3r.set_ 0 (.int .i64 k)).set_ 1 (.slice Av k cv)
      simp only [List.setIfInBounds_toArray, List.set_cons_zero, List.set_cons_succ] at hq
      have y0 := hq.cell 0
      have y1 := hq.cell 1
      simp only [List.getElem?_toArray, List.getElem?_cons_zero, List.getElem?_cons_succ] at c0 c1 y0 y1 e0 e1
      have hF := hide (hgr.keep (K' := fun b => b < wr.heap.size) ((Agree.setCell ⟨w.heap.size + 1, 0, none⟩ (fun h => h.2.1 rfl) (.int .i64 k)).trans (Agree.setCell ⟨w.heap.size + 1, 1, none⟩ (fun h => h.2.1 rfl) (.slice Av k cv))) (fun b h => h.1))
      have hz := hide (((hb.trans (hbr.mono (by omega))).setCell (p := ⟨w.heap.size + 1, 0, none⟩) (by simp) (.int .i64 k)).setCell (p := ⟨w.heap.size + 1, 1, none⟩) (by simp) (.slice Av k cv))
      clear hq hgr
      go_wp2_with fail
      exact bodyPost_ret (v := .agg #[.int .i64 k, .slice Av k cv]) (by simp [results, Tryz.results214, go_sem, y0, y1]) rfl ⟨_, _, rfl, hF.out.keep (Agree.refl _ _) (fun b (h : b < wr.heap.size) => by show b < _; simpa using h), hz.out⟩
end Go.Proofs.YtjomijnbnbideaaGreatDoor
