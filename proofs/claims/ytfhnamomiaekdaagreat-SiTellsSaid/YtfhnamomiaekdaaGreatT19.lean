/-
  Walks: layer 17's reference: the sessions' order.
-/
import Derived.Test.YtfhnamomiaekdaaGreatT18
import Derived.Test.YtfhnamomiaekdaaGreatT01
set_option linter.unusedVariables false
set_option linter.unusedSimpArgs false
namespace Go.Proofs.YtfhnamomiaekdaaGreat
open Go.RowKit Go.Inq
set_option maxHeartbeats 8000000
attribute [local go_sem ↓] Go.wp_at_zero Go.wp_at_succ

theorem upto_so (H : List Txn) (a k : Nat) (hk : k ≤ a + 1) : uptoE (soE H) a k = uptoE (soE H) a 0 := by
  induction k with
  | zero => rfl
  | succ k ih =>
    rw [uptoE_skip, ih (by omega)]
    unfold soE
    rw [decide_eq_false (by omega)]
    rfl
theorem soE_at {H : List Txn} {a b : Nat} (hab : a < b) (hb : b < H.length) : soE H a b = decide ((H[a]'(by omega)).sess = H[b].sess) := by
  unfold soE
  rw [decide_eq_true hab, txnAt_of (by omega), txnAt_of hb]
  rfl
set_option maxRecDepth 100000 in
theorem rso17_any (A : Option Addr) (c : Nat) (H : List Txn) (w : World) (h : TxnS w (Old w) (.slice A H.length c) H) (hr : rightH H = true) :
    Calls Tryz.prog 221 #[.agg #[.slice A H.length c]] w (OutR w H.length (soE H)) := by
  have hn64 : H.length ≤ 64 := by have := ((rightH_iff H).1 hr).1; omega
  clear hr
  go_enter Tryz.func221, Tryz.ntmps221
  go_upto_region 1 with fail
  obtain ⟨W0, hW0⟩ : ∃ W0, (w.alloc (.cells #[.slice A H.length c] 24)).alloc (.cells #[.int .i64 0, .slice none 0 0] 174) = W0 := ⟨_, rfl⟩
  rw [hW0]
  have hb := below_two hW0
  have k1 := Blk.two1 hW0
  have k3 := Blk.two2 hW0
  have s0 := size_two hW0
  have hT := hide (h.below hb)
  clear hW0 h
  have c0 := k1.cell 0
  simp only [List.getElem?_toArray, List.getElem?_cons_zero, List.getElem?_cons_succ] at c0
  replace s0 := hide s0
  go_wp2_with fail
  refine (rnew12_any H.length hn64 W0).mono ?_
  rintro e w1 ⟨v, rfl, hR, hb1⟩
  clear c0
  obtain ⟨Av, cv, rfl, -⟩ := hR.gr hn64 (K := fun _ => True) (fun _ _ _ => trivial)
  go_upto_region 2 with fail
  obtain ⟨W5, hW5⟩ : ∃ W5, w1.alloc (.cells #[.int .i64 (H.length : Int), .slice Av H.length cv] 174) = W5 := ⟨_, rfl⟩
  rw [hW5]
  have hP := RGP.start hR hn64 hW5
  have hs1 := hb1.size
  have hb5 := below_allocEq hb1 hW5 hs1
  clear hW5 hR hb1
  go_wp2_with fail
  go_loopw [4] (fun s4 wr => ∃ x : Nat, x ≤ H.length ∧ s4 = .int .i64 x ∧ RGP wr W0.heap.size w1.heap.size H.length (uptoE (soE H) x 0) Av cv ∧ Below W0.heap.size W0 wr) (fun s4 _ => H.length - (intOf s4).toNat)
  case atStart => exact ⟨0, Nat.zero_le _, by go_num, by rw [uptoE_zero]; exact hP, hb5⟩
  case round =>
    obtain ⟨x, hx, rfl, hPr, hbr⟩ := hrel
    have hx1 : (0 : Int) ≤ (x : Int) := Int.natCast_nonneg _
    have c0 := hPr.c0
    have c1 := hPr.c1
    by_cases hlt : x < H.length
    · have hx2 : (x : Int) < (H.length : Int) := by omega
      go_wp2_with fail
      clear c0 c1
      go_loopw [5] (fun s5 wq => ∃ y : Nat, x + 1 ≤ y ∧ y ≤ H.length ∧ s5 = .int .i64 y ∧ RGP wq W0.heap.size w1.heap.size H.length (uptoE (soE H) x y) Av cv ∧ Below W0.heap.size W0 wq) (fun s5 _ => H.length - (intOf s5).toNat)
      case atStart => exact ⟨x + 1, Nat.le_refl _, hlt, by go_num, by rw [upto_so H x (x + 1) (Nat.le_refl _)]; exact hPr, hbr⟩
      case round =>
        obtain ⟨y, hxy, hy, rfl, hP4, hb4⟩ := hrel
        have hy1 : (0 : Int) ≤ (y : Int) := Int.natCast_nonneg _
        have c0 := hP4.c0
        have c1 := hP4.c1
        by_cases hlq : y < H.length
        · have hy2 : (y : Int) < (H.length : Int) := by omega
          have hst := hide (uptoE_step (E := soE H) (x := x) (y := y))
          have hsk := hide (uptoE_skip (E := soE H) (x := x) (y := y))
          have hat := hide (soE_at (H := H) (a := x) (b := y) (by omega) hlq)
          have hTq := hT.out.below hb4
          have k1q := k1.below hb4 k1.lt
          have a0 := k1q.cell 0
          obtain ⟨bt, ot, _, _, _, _, e, -, d1, -⟩ := hTq.at_ hlt
          obtain ⟨bt', ot', _, _, _, _, e', -, d2, -⟩ := hTq.at_ hlq
          subst e
          injection e' with e'
          injection e' with e1 e2
          subst e1 e2
          generalize H[x].sess = p at *
          generalize H[y].sess = q at *
          generalize soE H x y = sb at *
          simp only [List.getElem?_toArray, List.getElem?_cons_zero, List.getElem?_cons_succ] at a0
          clear hTq k1q hPr hbr
          by_cases hpq : p = q
          · have hpb : (p == q) = true := by simpa using hpq
            have hE2 := hide (hst.out (by rw [hat.out]; simpa using hpq))
            go_wp2_with fail
            go_region
            clear a0 d1 d2
            replace hP4 := hP4.drew
            replace hb4 := below_drew hb4
            clear c0 c1
            generalize wr.drew = w3 at *
            obtain ⟨g, rfl, hX⟩ := hP4.at_ hlt
            have hP5 := hide (hX.add (y := y) hlt hlq).drew
            have hb5 := hide (below_drew (hb4.setCell (p := ⟨g, x, none⟩) hX.B (.int .u64 (withB (setB ((uptoE (soE H) x y) x) H.length) (y : Int) : Nat))))
            obtain ⟨-, c0, c1, d0, df, gp, gl, -, h64⟩ := hX
            clear hst hsk hP4 hb4
            generalize setB ((uptoE (soE H) x y) x) H.length = s at *
            go_upto_region 9 with fail
            refine wp_region_still_tail 11 (by kernel_rfl) (by kernel_rfl) ?_
            simp only [List.take_succ_cons, List.take_zero, List.drop_succ_cons, List.drop_zero]
            repeat still_step
            still_call ((rwith10_any _ h64 _ _).mono fun _ _ h => ⟨h.1, h.2.symm⟩)
            repeat still_step
            refine wpStill_nil ?_
            change wpList _ _ _ _ _ (w3).drew
            go_wp2
            go_roundw
            case rel => exact ⟨y + 1, by omega, by omega, by go_num, by rw [hE2.out]; exact hP5.out, hb5.out⟩
            case measure => simp [intOf]; omega
          · have hpb : (p == q) = false := by simpa using hpq
            have hE2 := hide (hsk.out (by rw [hat.out]; simpa using hpq))
            clear hpq
            go_wp2_with fail
            go_region
            clear a0 d1 d2
            replace hP4 := hP4.drew
            replace hb4 := below_drew hb4
            go_wp2
            go_roundw
            case rel => exact ⟨y + 1, by omega, by omega, by go_num, by rw [hE2.out]; exact hP4, hb4⟩
            case measure => simp [intOf]; omega
        · obtain rfl : y = H.length := by omega
          have hP4 := hide (hP4.congr (F := uptoE (soE H) (x + 1) 0) fun a b _ hb => uptoE_row hb)
          clear hPr
          go_wp2
          go_roundw
          case rel => exact ⟨x + 1, by omega, by go_num, hP4.out, hb4⟩
          case measure => simp [intOf]; omega
    · obtain rfl : x = H.length := by omega
      have hP4 := hPr.congr (F := soE H) fun a b ha _ => uptoE_all ha
      have k3r := k3.below hbr k3.lt
      have f0 := k3r.frozen 0
      have f1 := k3r.frozen 1
      have e0 := k3r.cell 0
      have e1 := k3r.cell 1
      have hs0 := s0.out
      have hs3 : w.heap.size + 1 < W0.heap.size := k3.lt
      have hR := hide (((hP4.rg.far (p := ⟨w.heap.size + 1, 0, none⟩) hs3 (.int .i64 H.length)).far (p := ⟨w.heap.size + 1, 1, none⟩) hs3 (.slice Av H.length cv)).base (B' := w.heap.size) (by omega))
      have hz := hide (((hb.trans (hbr.mono hb.size)).setCell (p := ⟨w.heap.size + 1, 0, none⟩) (by simp; try omega) (.int .i64 H.length)).setCell (p := ⟨w.heap.size + 1, 1, none⟩) (by simp; try omega) (.slice Av H.length cv))
      have hq := (k3r.set_ 0 (.int .i64 H.length)).set_ 1 (.slice Av H.length cv)
      simp only [List.setIfInBounds_toArray, List.set_cons_zero, List.set_cons_succ] at hq
      have y0 := hq.cell 0
      have y1 := hq.cell 1
      simp only [List.getElem?_toArray, List.getElem?_cons_zero, List.getElem?_cons_succ] at y0 y1 e0 e1
      clear hq hs0 hs3
      go_wp2_with fail
      exact bodyPost_ret (v := .agg #[.int .i64 H.length, .slice Av H.length cv]) (by simp [results, Tryz.results221, go_sem, y0, y1]) rfl ⟨_, rfl, hR.out, hz.out⟩
end Go.Proofs.YtfhnamomiaekdaaGreat

namespace Go.Proofs.YtfhnamomiaekdaaGreat
open Go.RowKit Go.Inq
set_option maxHeartbeats 8000000
attribute [local go_sem ↓] Go.wp_at_zero Go.wp_at_succ

/-- Who reads from whom, of the readers ahead of t, and the first i reads of t. -/
def wrTo (H : List Txn) (t i : Nat) : Edges := fun a b => decide (a ≠ b) && ((decide (b < t) && (txnAt H b).reads.any fun r => decide (r.b = (a : Int))) || (decide (b = t) && ((txnAt H b).reads.take i).any fun r => decide (r.b = (a : Int))))
theorem wrTo_zero (H : List Txn) : wrTo H 0 0 = noE := by
  funext a b
  simp [wrTo, noE]
theorem wrTo_step {H : List Txn} {t i s : Nat} {R : List It} (hR : (txnAt H t).reads = R) (hi : i < R.length) (hs : R[i].b = (s : Int)) (hst : s ≠ t) : wrTo H t (i + 1) = orE (wrTo H t i) (oneE s t) := by
  subst hR
  funext a b
  unfold wrTo orE oneE
  by_cases e : b = t
  · subst e
    rw [List.take_succ_eq_append_getElem hi, List.any_append]
    simp only [List.any_cons, List.any_nil, Bool.or_false, hs]
    by_cases e2 : a = s
    · subst e2
      simp [hst]
    · have : ¬ ((s : Int) = (a : Int)) := by omega
      simp [e2, this]
  · simp [e]
theorem wrTo_skip {H : List Txn} {t i : Nat} {R : List It} (hR : (txnAt H t).reads = R) (hi : i < R.length) (hs : R[i].b < 0) : wrTo H t (i + 1) = wrTo H t i := by
  subst hR
  funext a b
  unfold wrTo
  by_cases e : b = t
  · subst e
    rw [List.take_succ_eq_append_getElem hi, List.any_append]
    have : ¬ (((txnAt H b).reads[i]).b = (a : Int)) := by omega
    simp [this]
  · simp [e]
theorem wrTo_row {H : List Txn} {t : Nat} {R : List It} (hR : (txnAt H t).reads = R) : wrTo H t R.length = wrTo H (t + 1) 0 := by
  subst hR
  funext a b
  unfold wrTo
  by_cases e : b = t
  · subst e
    rw [List.take_length]
    simp
  · have : decide (b < t + 1) = decide (b < t) := by simp; omega
    simp [e, this]
theorem wrTo_all {H : List Txn} {a b : Nat} (hb : b < H.length) : wrTo H H.length 0 a b = wrE H a b := by
  unfold wrTo wrE
  simp [hb]
set_option maxRecDepth 100000 in
theorem rwr17_any (A : Option Addr) (c : Nat) (H : List Txn) (w : World) (h : TxnS w (Old w) (.slice A H.length c) H) (hr : rightH H = true) (hn : SmallH H) :
    Calls Tryz.prog 222 #[.agg #[.slice A H.length c]] w (OutR w H.length (wrE H)) := by
  have hok := hide (((rightH_iff H).1 hr).2)
  have hn64 : H.length ≤ 64 := by have := ((rightH_iff H).1 hr).1; omega
  clear hr
  go_enter Tryz.func222, Tryz.ntmps222
  go_upto_region 1 with fail
  obtain ⟨W0, hW0⟩ : ∃ W0, (w.alloc (.cells #[.slice A H.length c] 24)).alloc (.cells #[.int .i64 0, .slice none 0 0] 174) = W0 := ⟨_, rfl⟩
  rw [hW0]
  have hb := below_two hW0
  have k1 := Blk.two1 hW0
  have k3 := Blk.two2 hW0
  have s0 := size_two hW0
  have hT := hide (h.below hb)
  clear hW0 h
  have c0 := k1.cell 0
  simp only [List.getElem?_toArray, List.getElem?_cons_zero, List.getElem?_cons_succ] at c0
  replace s0 := hide s0
  go_wp2_with fail
  refine (rnew12_any H.length hn64 W0).mono ?_
  rintro e w1 ⟨v, rfl, hR, hb1⟩
  clear c0
  obtain ⟨Av, cv, rfl, -⟩ := hR.gr hn64 (K := fun _ => True) (fun _ _ _ => trivial)
  go_upto_region 2 with fail
  obtain ⟨W5, hW5⟩ : ∃ W5, w1.alloc (.cells #[.int .i64 (H.length : Int), .slice Av H.length cv] 174) = W5 := ⟨_, rfl⟩
  rw [hW5]
  have hP := RGP.start hR hn64 hW5
  have hs1 := hb1.size
  have hb5 := below_allocEq hb1 hW5 hs1
  clear hW5 hR hb1
  go_wp2_with fail
  go_loopw [4] (fun s4 wr => ∃ x : Nat, x ≤ H.length ∧ s4 = .int .i64 x ∧ RGP wr W0.heap.size w1.heap.size H.length (wrTo H x 0) Av cv ∧ Below W0.heap.size W0 wr) (fun s4 _ => H.length - (intOf s4).toNat)
  case atStart => exact ⟨0, Nat.zero_le _, by go_num, by rw [wrTo_zero]; exact hP, hb5⟩
  case round =>
    obtain ⟨x, hx, rfl, hPr, hbr⟩ := hrel
    have hx1 : (0 : Int) ≤ (x : Int) := Int.natCast_nonneg _
    have c0 := hPr.c0
    have c1 := hPr.c1
    by_cases hlt : x < H.length
    · have hx2 : (x : Int) < (H.length : Int) := by omega
      obtain ⟨bt, ot, Aw, cw, Ar, cr, rfl, hKb, -, -, d2, -, hrs⟩ := hT.out.at_ hlt
      replace d2 := (hbr.cell (p := ⟨bt, ot + x * 3 + 2, none⟩) hKb).trans d2
      have k1q := k1.below hbr k1.lt
      have a0 := k1q.cell 0
      simp only [List.getElem?_toArray, List.getElem?_cons_zero, List.getElem?_cons_succ] at a0
      obtain ⟨R, hR⟩ : ∃ R, H[x].reads = R := ⟨_, rfl⟩
      have hRt : (txnAt H x).reads = R := by rw [txnAt_of hlt]; exact hR
      have hth := hide (fun r (hr : r ∈ R) => (hok.out x hlt).there r (by rw [hR]; exact hr))
      have hR9 : R.length ≤ 1000000 := by rw [← hR]; exact (hn.2 _ (List.getElem_mem hlt)).2
      rw [hR] at hrs d2
      clear hR
      replace hRt := hide hRt
      replace hrs := hide hrs
      go_wp2_with fail
      clear c0 c1 a0 d2 k1q
      go_loopw [6] (fun s6 wq => ∃ i : Nat, i ≤ R.length ∧ s6 = .int .i64 i ∧ RGP wq W0.heap.size w1.heap.size H.length (wrTo H x i) Av cv ∧ Below W0.heap.size W0 wq) (fun s6 _ => R.length - (intOf s6).toNat)
      case atStart => exact ⟨0, Nat.zero_le _, by go_num, hPr, hbr⟩
      case round =>
        obtain ⟨i, hi, rfl, hP4, hb4⟩ := hrel
        have hi1 : (0 : Int) ≤ (i : Int) := Int.natCast_nonneg _
        by_cases hlq : i < R.length
        · have hi2 : (i : Int) < (R.length : Int) := by omega
          obtain ⟨br, orr, rfl, -, -, z1⟩ := (hrs.out.below hb4).at_ hlq
          have hthi := hide (hth.out _ (List.getElem_mem hlq))
          have hst := hide (fun s => wrTo_step (s := s) hRt.out hlq)
          have hsk := hide (wrTo_skip hRt.out hlq)
          generalize R[i] = r at *
          by_cases hneg : r.b < 0
          · have hE2 := hide (hsk.out hneg)
            have hnb : decide (r.b ≥ 0) = false := by simp; omega
            clear hst hsk hthi hneg
            go_wp2
            go_roundw
            case rel => exact ⟨i + 1, by omega, by go_num, by rw [hE2.out]; exact hP4, hb4⟩
            case measure => simp [intOf]; omega
          · obtain ⟨s0, hs0, hsx, hsl⟩ : ∃ s0 : Nat, r.b = (s0 : Int) ∧ s0 ≠ x ∧ s0 < H.length := by
              rcases (thereB_iff H x r).1 hthi.out with e | ⟨k, hk, e, e2, -⟩
              · omega
              · exact ⟨k, e, e2, hk⟩
            rw [hs0] at z1
            have hE2 := hide (hst.out s0 hs0 hsx)
            have hnb : decide ((s0 : Int) ≥ 0) = true := by simp
            have hs1' : (0 : Int) ≤ (s0 : Int) := Int.natCast_nonneg _
            have hs2' : (s0 : Int) < (H.length : Int) := by omega
            go_wp2_with fail
            obtain ⟨g, rfl, hX⟩ := hP4.at_ hsl
            have hP5 := hide (hX.add (y := x) hsl hlt).drew
            have hb5 := hide (below_drew (hb4.setCell (p := ⟨g, s0, none⟩) hX.B (.int .u64 (withB (setB ((wrTo H x i) s0) H.length) (x : Int) : Nat))))
            obtain ⟨-, c0, c1, d0, df, gp, gl, -, h64⟩ := hX
            clear hst hsk hneg hs0 hsx hthi hP4 hb4
            generalize setB ((wrTo H x i) s0) H.length = s at *
            go_upto_region 10 with fail
            refine wp_region_still_tail 19 (by kernel_rfl) (by kernel_rfl) ?_
            simp only [List.take_succ_cons, List.take_zero, List.drop_succ_cons, List.drop_zero]
            repeat still_step
            still_call ((rwith10_any _ h64 _ _).mono fun _ _ h => ⟨h.1, h.2.symm⟩)
            repeat still_step
            refine wpStill_nil ?_
            change wpList _ _ _ _ _ (wr).drew
            go_wp2
            go_roundw
            case rel => exact ⟨i + 1, by omega, by go_num, by rw [hE2.out]; exact hP5.out, hb5.out⟩
            case measure => simp [intOf]; omega
        · obtain rfl : i = R.length := by omega
          rw [wrTo_row hRt.out] at hP4
          clear hPr
          go_wp2
          go_roundw
          case rel => exact ⟨x + 1, by omega, by go_num, hP4, hb4⟩
          case measure => simp [intOf]; omega
    · obtain rfl : x = H.length := by omega
      have hP4 := hPr.congr (F := wrE H) fun a b _ hb => wrTo_all hb
      have k3r := k3.below hbr k3.lt
      have f0 := k3r.frozen 0
      have f1 := k3r.frozen 1
      have e0 := k3r.cell 0
      have e1 := k3r.cell 1
      have hs0 := s0.out
      have hs3 : w.heap.size + 1 < W0.heap.size := k3.lt
      have hR := hide (((hP4.rg.far (p := ⟨w.heap.size + 1, 0, none⟩) hs3 (.int .i64 H.length)).far (p := ⟨w.heap.size + 1, 1, none⟩) hs3 (.slice Av H.length cv)).base (B' := w.heap.size) (by omega))
      have hz := hide (((hb.trans (hbr.mono hb.size)).setCell (p := ⟨w.heap.size + 1, 0, none⟩) (by simp; try omega) (.int .i64 H.length)).setCell (p := ⟨w.heap.size + 1, 1, none⟩) (by simp; try omega) (.slice Av H.length cv))
      have hq := (k3r.set_ 0 (.int .i64 H.length)).set_ 1 (.slice Av H.length cv)
      simp only [List.setIfInBounds_toArray, List.set_cons_zero, List.set_cons_succ] at hq
      have y0 := hq.cell 0
      have y1 := hq.cell 1
      simp only [List.getElem?_toArray, List.getElem?_cons_zero, List.getElem?_cons_succ] at y0 y1 e0 e1
      clear hq hs0 hs3
      go_wp2_with fail
      exact bodyPost_ret (v := .agg #[.int .i64 H.length, .slice Av H.length cv]) (by simp [results, Tryz.results222, go_sem, y0, y1]) rfl ⟨_, rfl, hR.out, hz.out⟩
end Go.Proofs.YtfhnamomiaekdaaGreat
