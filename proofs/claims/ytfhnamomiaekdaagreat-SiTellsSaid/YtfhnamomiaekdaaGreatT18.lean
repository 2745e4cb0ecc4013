/-
  Walks: layer 12's reference: two graphs together.
-/
import Derived.StillTailTactics
import Derived.Test.YtfhnamomiaekdaaGreatT17
set_option linter.unusedVariables false
set_option linter.unusedSimpArgs false
namespace Go.Proofs.YtfhnamomiaekdaaGreat
open Go.RowKit Go.Inq
set_option maxHeartbeats 8000000
attribute [local go_sem ↓] Go.wp_at_zero Go.wp_at_succ

theorem RGP.start {W1 W5 : World} {B n : Nat} {E : Edges} {A : Option Addr} {c : Nat} (h : RG W1 B n E (.slice A n c)) (hn : n ≤ 64) (e : W1.alloc (.cells #[.int .i64 n, .slice A n c] 174) = W5) : RGP W5 B W1.heap.size n E A c := by
  subst e
  refine ⟨Blk.new _ _ _, h.alloc _, fun g hg => ?_, hn⟩
  rcases h with ⟨h1, h2⟩ | ⟨g', cap, cur, h1, h2, h3, r⟩
  · subst hg; cases h2
  · subst hg
    simp only [Value.slice.injEq, Option.some.injEq] at h1
    obtain ⟨rfl, -⟩ := h1
    exact h3.lt
set_option maxRecDepth 100000 in
theorem runion12_any (n : Nat) (A : Option Addr) (c : Nat) (E : Edges) (A2 : Option Addr) (c2 : Nat) (F : Edges) (K : Nat → Prop) (w : World) (h : GrS w K n A c E) (h2 : GrS w K n A2 c2 F) (hK : ∀ b, K b → b < w.heap.size) :
    Calls Tryz.prog 165 #[.agg #[.int .i64 n, .slice A n c], .agg #[.int .i64 n, .slice A2 n c2]] w (OutR w n (orE E F)) := by
  have hn64 := h.n64
  go_enter Tryz.func165, Tryz.ntmps165
  go_upto_region 1 with fail
  obtain ⟨W0, hW0⟩ : ∃ W0, ((w.alloc (.cells #[.int .i64 n, .slice A n c] 174)).alloc (.cells #[.int .i64 n, .slice A2 n c2] 174)).alloc (.cells #[.int .i64 0, .slice none 0 0] 174) = W0 := ⟨_, rfl⟩
  rw [hW0]
  have hb := below_three hW0
  have k1 := Blk.three1 hW0
  have k2 := Blk.three2 hW0
  have k3 := Blk.three3 hW0
  have s0 := size_three hW0
  have hg := hide (h.keep (Agree.below hb hK) (fun b hb => hb))
  have hg2 := hide (h2.keep (Agree.below hb hK) (fun b hb => hb))
  have hKW : Hid (∀ b, K b → b < W0.heap.size) := hide fun b hb => by have := hK b hb; omega
  clear hW0 h h2
  have c0 := k1.cell 0
  have c1 := k1.cell 1
  simp only [List.getElem?_toArray, List.getElem?_cons_zero, List.getElem?_cons_succ] at c0 c1
  replace s0 := hide s0
  go_wp2_with fail
  refine (rnew12_any n hn64 W0).mono ?_
  rintro e w1 ⟨v, rfl, hR, hb1⟩
  clear c0 c1
  obtain ⟨Av, cv, rfl, -⟩ := hR.gr hn64 (K := fun _ => True) (fun _ _ _ => trivial)
  go_upto_region 2 with fail
  obtain ⟨W5, hW5⟩ : ∃ W5, w1.alloc (.cells #[.int .i64 n, .slice Av n cv] 174) = W5 := ⟨_, rfl⟩
  rw [hW5]
  have hP := RGP.start hR hn64 hW5
  have hs1 := hb1.size
  have hb5 := below_allocEq hb1 hW5 hs1
  clear hW5 hR hb1
  go_wp2_with fail
  go_loopw [6] (fun s6 wr => ∃ x : Nat, x ≤ n ∧ s6 = .int .i64 x ∧ RGP wr W0.heap.size w1.heap.size n (uptoE (orE E F) x 0) Av cv ∧ Below W0.heap.size W0 wr) (fun s6 _ => n - (intOf s6).toNat)
  case atStart => exact ⟨0, Nat.zero_le _, by go_num, by rw [uptoE_zero]; exact hP, hb5⟩
  case round =>
    obtain ⟨x, hx, rfl, hPr, hbr⟩ := hrel
    have hx1 : (0 : Int) ≤ (x : Int) := Int.natCast_nonneg _
    have c0 := hPr.c0
    have c1 := hPr.c1
    have k1r := k1.below hbr k1.lt
    have a0 := k1r.cell 0
    simp only [List.getElem?_toArray, List.getElem?_cons_zero, List.getElem?_cons_succ] at a0
    by_cases hlt : x < n
    · have hx2 : (x : Int) < (n : Int) := by omega
      go_wp2_with fail
      clear c0 c1 a0 k1r
      go_loopw [7] (fun s7 wq => ∃ y : Nat, y ≤ n ∧ s7 = .int .i64 y ∧ RGP wq W0.heap.size w1.heap.size n (uptoE (orE E F) x y) Av cv ∧ Below W0.heap.size W0 wq) (fun s7 _ => n - (intOf s7).toNat)
      case atStart => exact ⟨0, Nat.zero_le _, by go_num, hPr, hbr⟩
      case round =>
        obtain ⟨y, hy, rfl, hPq, hbq⟩ := hrel
        have hy1 : (0 : Int) ≤ (y : Int) := Int.natCast_nonneg _
        have k1q := k1.below hbq k1.lt
        have k2q := k2.below hbq k2.lt
        have a0 := k1q.cell 0
        have a1 := k1q.cell 1
        have b0 := k2q.cell 0
        have b1 := k2q.cell 1
        simp only [List.getElem?_toArray, List.getElem?_cons_zero, List.getElem?_cons_succ] at a0 a1 b0 b1
        by_cases hlq : y < n
        · have hy2 : (y : Int) < (n : Int) := by omega
          have hgq := hide (hg.out.keep (Agree.below hbq hKW.out) (fun b hb => hb))
          have hc1 := hide (rhas12_any n A c E x y K wr hgq.out (fun b hb => Nat.lt_of_lt_of_le (hKW.out b hb) hbq.size) hlt hlq)
          have hor : Hid (orE E F x y = (E x y || F x y)) := hide rfl
          have hst := hide (uptoE_step (E := orE E F) (x := x) (y := y))
          have hsk := hide (uptoE_skip (E := orE E F) (x := x) (y := y))
          go_wp2_with fail
          clear a0 b0
          refine hc1.out.mono ?_
          rintro e w2 ⟨rfl, hb2⟩
          have hbz := hbq.trans (hb2.mono hbq.size)
          have hPz := hPq.below hb2 (Nat.le_refl _)
          have k2z := k2.below hbz k2.lt
          have b0 := k2z.cell 0
          have b1 := k2z.cell 1
          simp only [List.getElem?_toArray, List.getElem?_cons_zero, List.getElem?_cons_succ] at b0 b1
          clear hc1
          have hgz := hide (hg2.out.keep (Agree.below hbz hKW.out) (fun b hb => hb))
          have hc2 := hide (rhas12_any n A2 c2 F x y K w2 hgz.out (fun b hb => Nat.lt_of_lt_of_le (hKW.out b hb) hbz.size) hlt hlq)
          generalize E x y = e1 at *
          generalize F x y = e2 at *
          go_wp2_with fail
          clear b0 b1 k2z
          refine hc2.out.mono ?_
          rintro e w3 ⟨rfl, hb3⟩
          have hb4 := hbz.trans (hb3.mono hbz.size)
          have hP4 := hPz.below hb3 (Nat.le_refl _)
          clear hc2 hbz hPz hgz hgq hbq hPq hb3 hb2
          cases e1 <;> cases e2
          · have hE2 := hide (hsk.out (by rw [hor.out]; rfl))
            clear hst hsk hor hPr
            go_wp2
            go_roundw
            case rel => exact ⟨y + 1, by omega, by go_num, by rw [hE2.out]; exact hP4, hb4⟩
            case measure => simp [intOf]; omega
          · have hE2 := hide (hst.out (by rw [hor.out]; rfl))
            obtain ⟨g, rfl, hX⟩ := hP4.at_ hlt
            have hP5 := hide (hX.add hlt hlq)
            have hb5 := hide (hb4.setCell (p := ⟨g, x, none⟩) hX.B (.int .u64 (withB (setB ((uptoE (orE E F) x y) x) n) (y : Int) : Nat)))
            obtain ⟨-, c0, c1, d0, df, gp, gl, -, h64⟩ := hX
            clear hst hsk hor hPr hP4 hb4
            generalize setB ((uptoE (orE E F) x y) x) n = s at *
            go_upto_region 11 with fail
            refine wp_region_still_tail 11 (by kernel_rfl) (by kernel_rfl) ?_
            simp only [List.take_succ_cons, List.take_zero, List.drop_succ_cons, List.drop_zero]
            repeat still_step
            still_call ((rwith10_any _ h64 _ _).mono fun _ _ h => ⟨h.1, h.2.symm⟩)
            repeat still_step
            refine wpStill_nil ?_
            change wpList _ _ _ _ _ w3.drew
            go_wp2
            go_roundw
            case rel => exact ⟨y + 1, by omega, by go_num, by rw [hE2.out]; exact hP5.out.drew, hb5.out.trans ⟨rfl, rfl, rfl, Nat.le_refl _, fun _ _ => rfl⟩⟩
            case measure => simp [intOf]; omega
          · have hE2 := hide (hst.out (by rw [hor.out]; rfl))
            obtain ⟨g, rfl, hX⟩ := hP4.at_ hlt
            have hP5 := hide (hX.add hlt hlq)
            have hb5 := hide (hb4.setCell (p := ⟨g, x, none⟩) hX.B (.int .u64 (withB (setB ((uptoE (orE E F) x y) x) n) (y : Int) : Nat)))
            obtain ⟨-, c0, c1, d0, df, gp, gl, -, h64⟩ := hX
            clear hst hsk hor hPr hP4 hb4
            generalize setB ((uptoE (orE E F) x y) x) n = s at *
            go_upto_region 11 with fail
            refine wp_region_still_tail 11 (by kernel_rfl) (by kernel_rfl) ?_
            simp only [List.take_succ_cons, List.take_zero, List.drop_succ_cons, List.drop_zero]
            repeat still_step
            still_call ((rwith10_any _ h64 _ _).mono fun _ _ h => ⟨h.1, h.2.symm⟩)
            repeat still_step
            refine wpStill_nil ?_
            change wpList _ _ _ _ _ w3.drew
            go_wp2
            go_roundw
            case rel => exact ⟨y + 1, by omega, by go_num, by rw [hE2.out]; exact hP5.out.drew, hb5.out.trans ⟨rfl, rfl, rfl, Nat.le_refl _, fun _ _ => rfl⟩⟩
            case measure => simp [intOf]; omega
          · have hE2 := hide (hst.out (by rw [hor.out]; rfl))
            obtain ⟨g, rfl, hX⟩ := hP4.at_ hlt
            have hP5 := hide (hX.add hlt hlq)
            have hb5 := hide (hb4.setCell (p := ⟨g, x, none⟩) hX.B (.int .u64 (withB (setB ((uptoE (orE E F) x y) x) n) (y : Int) : Nat)))
            obtain ⟨-, c0, c1, d0, df, gp, gl, -, h64⟩ := hX
            clear hst hsk hor hPr hP4 hb4
            generalize setB ((uptoE (orE E F) x y) x) n = s at *
            go_upto_region 11 with fail
            refine wp_region_still_tail 11 (by kernel_rfl) (by kernel_rfl) ?_
            simp only [List.take_succ_cons, List.take_zero, List.drop_succ_cons, List.drop_zero]
            repeat still_step
            still_call ((rwith10_any _ h64 _ _).mono fun _ _ h => ⟨h.1, h.2.symm⟩)
            repeat still_step
            refine wpStill_nil ?_
            change wpList _ _ _ _ _ w3.drew
            go_wp2
            go_roundw
            case rel => exact ⟨y + 1, by omega, by go_num, by rw [hE2.out]; exact hP5.out.drew, hb5.out.trans ⟨rfl, rfl, rfl, Nat.le_refl _, fun _ _ => rfl⟩⟩
            case measure => simp [intOf]; omega
        · obtain rfl : y = n := by omega
          have hP4 := hide (hPq.congr (F := uptoE (orE E F) (x + 1) 0) fun a b _ hb => uptoE_row hb)
          clear hPq hPr
          go_wp2
          go_roundw
          case rel => exact ⟨x + 1, by omega, by go_num, hP4.out, hbq⟩
          case measure => simp [intOf]; omega
    · obtain rfl : x = n := by omega
      have hP4 := hPr.congr (F := orE E F) fun a b ha _ => uptoE_all ha
      have k3r := k3.below hbr k3.lt
      have f0 := k3r.frozen 0
      have f1 := k3r.frozen 1
      have e0 := k3r.cell 0
      have e1 := k3r.cell 1
      have hs0 := s0.out
      have hs3 : w.heap.size + 1 + 1 < W0.heap.size := k3.lt
      have hR := hide (((hP4.rg.far (p := ⟨w.heap.size + 1 + 1, 0, none⟩) hs3 (.int .i64 x)).far (p := ⟨w.heap.size + 1 + 1, 1, none⟩) hs3 (.slice Av x cv)).base (B' := w.heap.size) (by omega))
      have hz := hide (((hb.trans (hbr.mono hb.size)).setCell (p := ⟨w.heap.size + 1 + 1, 0, none⟩) (by simp; omega) (.int .i64 x)).setCell (p := ⟨w.heap.size + 1 + 1, 1, none⟩) (by simp; omega) (.slice Av x cv))
      have hq := (k3r.set_ 0 (.int .i64 x)).set_ 1 (.slice Av x cv)
      simp only [List.setIfInBounds_toArray, List.set_cons_zero, List.set_cons_succ] at hq
      have y0 := hq.cell 0
      have y1 := hq.cell 1
      simp only [List.getElem?_toArray, List.getElem?_cons_zero, List.getElem?_cons_succ] at y0 y1 e0 e1
      clear hq hs0 hs3
      go_wp2_with fail
      exact bodyPost_ret (v := .agg #[.int .i64 x, .slice Av x cv]) (by simp [results, Tryz.results165, go_sem, y0, y1]) rfl ⟨_, rfl, hR.out, hz.out⟩
end Go.Proofs.YtfhnamomiaekdaaGreat
