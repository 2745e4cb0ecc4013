/-
  Law 21: the document's example.
-/
import Derived.Test.YtfhnamomiaekdaaGreatT08
import Derived.Test.YtfhnamomiaekdaaGreatT09
import Derived.Test.YtfhnamomiaekdaaGreatT12
import Derived.Test.YtfhnamomiaekdaaGreatT15
set_option linter.unusedVariables false
set_option linter.unusedSimpArgs false
namespace Go.Proofs.YtfhnamomiaekdaaGreat
open Go.RowKit Go.Inq
set_option maxHeartbeats 8000000
attribute [local go_sem ↓] Go.wp_at_zero Go.wp_at_succ

theorem txn_two {W : World} {K : Nat → Prop} {g : Nat} {t0 t1 : Txn} {vw0 vr0 vw1 vr1 : Value} (h : Blk W g 86 #[.int .i64 t0.sess, vw0, vr0, .int .i64 t1.sess, vw1, vr1]) (h0 : IntS W K vw0 t0.writes) (h1 : ItS W K vr0 t0.reads) (h2 : IntS W K vw1 t1.writes) (h3 : ItS W K vr1 t1.reads) (hK : K g) :
    TxnS W K (.slice (some ⟨g, 0, none⟩) 2 2) [t0, t1] :=
  slr_blk (l := [t0, t1]) [[.int .i64 t0.sess, vw0, vr0], [.int .i64 t1.sess, vw1, vr1]] h rfl (fun i cs x q1 q2 => by
    match i with
    | 0 => simp at q1 q2; subst q1 q2; exact ⟨rfl, _, _, rfl, h0, h1⟩
    | 1 => simp at q1 q2; subst q1 q2; exact ⟨rfl, _, _, rfl, h2, h3⟩
    | i + 2 => simp at q1) hK (by simp)
theorem it_two {W : World} {K : Nat → Prop} {g : Nat} (h : Blk W g 83 #[.int .i64 0, .int .i64 (-1), .int .i64 1, .int .i64 (-1)]) (hK : K g) : ItS W K (.slice (some ⟨g, 0, none⟩) 2 2) tk2 :=
  slr_blk (l := tk2) [[.int .i64 0, .int .i64 (-1)], [.int .i64 1, .int .i64 (-1)]] h rfl (fun i cs x q1 q2 => by
    match i with
    | 0 => simp [tk2] at q1 q2; subst q1 q2; exact ⟨rfl, rfl⟩
    | 1 => simp [tk2] at q1 q2; subst q1 q2; exact ⟨rfl, rfl⟩
    | i + 2 => simp at q1) hK (by decide)
/-- A history of the call's own. -/
def OutH (w : World) (H : List Txn) (e : Ending) (w' : World) : Prop := ∃ A c, e = .returned (.agg #[.slice A H.length c]) ∧ TxnS w' (Old w') (.slice A H.length c) H ∧ Below w.heap.size w w'
set_option maxRecDepth 100000 in
theorem skew21_any (w : World) : Calls Tryz.prog 30 #[] w (OutH w exS) := by
  go_enter Tryz.func30, Tryz.ntmps30
  go_wp2
  obtain ⟨X0, hX0⟩ : ∃ X, w.alloc (.cells #[.slice (some ⟨w.heap.size + 1 + 1 + 1 + 1, 0, none⟩) 2 2] 24) = X := ⟨_, rfl⟩
  obtain ⟨X1, hX1⟩ : ∃ X, X0.alloc (.cells #[.int .i64 0, .int .i64 (-1), .int .i64 1, .int .i64 (-1)] 83) = X := ⟨_, rfl⟩
  obtain ⟨X2, hX2⟩ : ∃ X, X1.alloc (.cells #[.int .i64 0] 3) = X := ⟨_, rfl⟩
  obtain ⟨X3, hX3⟩ : ∃ X, X2.alloc (.cells #[.int .i64 1] 3) = X := ⟨_, rfl⟩
  rw [hX0, hX1, hX2, hX3]
  obtain ⟨X4, hX4⟩ : ∃ X, X3.alloc (.cells #[.int .i64 0, .slice (some ⟨w.heap.size + 1 + 1, 0, none⟩) 1 1, .slice (some ⟨w.heap.size + 1, 0, none⟩) 2 2, .int .i64 1, .slice (some ⟨w.heap.size + 1 + 1 + 1, 0, none⟩) 1 1, .slice (some ⟨w.heap.size + 1, 0, none⟩) 2 2] 86) = X := ⟨_, rfl⟩
  rw [hX4]
  have s0 := size_allocEq hX0
  have s1 := size_allocEq hX1
  have s2 := size_allocEq hX2
  have s3 := size_allocEq hX3
  have s4 := size_allocEq hX4
  have k0 := ((((Blk.newEq hX0).allocEq hX1).allocEq hX2).allocEq hX3).allocEq hX4
  have k1 := (((Blk.newEq hX1).allocEq hX2).allocEq hX3).allocEq hX4
  have k2 := ((Blk.newEq hX2).allocEq hX3).allocEq hX4
  have k3 := (Blk.newEq hX3).allocEq hX4
  have k4 := Blk.newEq hX4
  have hB := below_allocEq (below_allocEq (below_allocEq (below_allocEq (below_allocEq (Below.refl w.heap.size w) hX0 (Nat.le_refl _)) hX1 (by omega)) hX2 (by omega)) hX3 (by omega)) hX4 (by omega)
  rw [s0] at k1
  rw [s1, s0] at k2
  rw [s2, s1, s0] at k3
  rw [s3, s2, s1, s0] at k4
  have hT : TxnS X4 (Old X4) (.slice (some ⟨w.heap.size + 1 + 1 + 1 + 1, 0, none⟩) 2 2) exS :=
    txn_two (t0 := ⟨0, [0], tk2⟩) (t1 := ⟨1, [1], tk2⟩) k4 (IntS.of_blk (l := [0]) k2 k2.lt) (it_two k1 k1.lt) (IntS.of_blk (l := [1]) k3 k3.lt) (it_two k1 k1.lt) k4.lt
  have c0 := k0.cell 0
  simp only [List.getElem?_toArray, List.getElem?_cons_zero] at c0
  refine bodyPost_ret (v := .agg #[.slice (some ⟨w.heap.size + 1 + 1 + 1 + 1, 0, none⟩) 2 2]) (by simp [results, Tryz.results30, go_sem, c0]) rfl ?_
  exact ⟨_, _, rfl, hT, hB⟩
set_option maxRecDepth 100000 in
theorem awake21_any (w : World) : Calls Tryz.prog 6 #[] w fun e w' => e = .returned (.bool true) ∧ Below w.heap.size w w' := by
  have hns : SmallH exS := ⟨by decide, by decide⟩
  have hnl : SmallH exL := ⟨by decide, by decide⟩
  have e1 := hide exS_rows
  have e2 := hide exL_rows
  have e3 := hide exS_check
  have e4 := hide exS_right
  have e5 := hide exL_check
  have e6 := hide exL_cho
  have e7 : Hid (serC exS [0, 1] = false) := hide (by unfold serC; rw [exS_ser01, Bool.and_false])
  have e8 : Hid (serC exS [1, 0] = false) := hide (by unfold serC; rw [exS_ser10, Bool.and_false])
  go_enter Tryz.func6, Tryz.ntmps6
  go_wp2_with fail
  refine (skew21_any w).mono ?_
  rintro e w1 ⟨A, c, rfl, hT, hb1⟩
  rw [show exS.length = 2 from rfl] at hT ⊢
  go_upto_region 2 with fail
  obtain ⟨W2, hW2⟩ : ∃ W2, w1.alloc (.cells #[.slice A 2 c] 24) = W2 := ⟨_, rfl⟩
  rw [hW2]
  have v1 := Blk.newEq hW2
  have hB2 := below_allocEq (Below.refl w1.heap.size w1) hW2 (Nat.le_refl _)
  have hT2 := hT.below hB2
  have hb2 := hb1.trans (hB2.mono hb1.size)
  clear hW2 hB2 hT hb1
  have c1 := v1.cell 0
  simp only [List.getElem?_toArray, List.getElem?_cons_zero] at c1
  generalize w1.heap.size = V1 at *
  go_wp2_with fail
  clear c1
  obtain ⟨W3, hW3⟩ : ∃ X, (W2).alloc (.cells #[.int .i64 0, .int .i64 1] 3) = X := ⟨_, rfl⟩
  have o3 : IntS W3 (Old W3) (.slice (some ⟨(W2).heap.size, 0, none⟩) 2 2) [0, 1] := by
    have kk := Blk.newEq hW3
    exact IntS.of_blk (l := [0, 1]) kk kk.lt
  have hB3 := below_allocEq (Below.refl (W2).heap.size W2) hW3 (Nat.le_refl _)
  rw [hW3]
  clear hW3
  have hc := rowsS_any A c exS (some ⟨W2.heap.size, 0, none⟩) 2 [0, 1] W3 (hT2.below hB3) hns o3 (by decide)
  rw [e1.out] at hc
  refine Calls.mono (by exact hc) ?_
  rintro e w4 ⟨vr, rfl, hR, hb4⟩
  obtain ⟨Ar, cr, rfl⟩ := hR.form
  have hRS := hR.old
  rw [show ([⟨0, [0]⟩, ⟨1, [1]⟩] : List SRow).length = 2 from rfl] at hRS ⊢
  have hT4 := (hT2.below hB3).below hb4
  have v4 := (v1.below hB3 v1.lt).below hb4 (by have := hB3.size; have := v1.lt; omega)
  have hb5 := (hb2.trans (hB3.mono hb2.size)).trans (hb4.mono (by have := hb2.size; have := hB3.size; omega))
  clear hR hc hB3 hb4 o3 hT2 v1 hb2
  generalize W2.heap.size = p2 at *
  go_upto_region 4 with fail
  obtain ⟨X0, hX0⟩ : ∃ X, w4.alloc (.cells #[.int .i64 0] 3) = X := ⟨_, rfl⟩
  obtain ⟨X1, hX1⟩ : ∃ X, X0.alloc (.cells #[.int .i64 0, .int .i64 (-1)] 83) = X := ⟨_, rfl⟩
  obtain ⟨X2, hX2⟩ : ∃ X, X1.alloc (.cells #[.int .i64 0] 3) = X := ⟨_, rfl⟩
  obtain ⟨X3, hX3⟩ : ∃ X, X2.alloc (.cells #[.int .i64 0, .int .i64 (-1)] 83) = X := ⟨_, rfl⟩
  obtain ⟨X4, hX4⟩ : ∃ X, X3.alloc (.cells #[.int .i64 0, .slice (some ⟨w4.heap.size, 0, none⟩) 1 1, .slice (some ⟨w4.heap.size + 1, 0, none⟩) 1 1, .int .i64 1, .slice (some ⟨w4.heap.size + 1 + 1, 0, none⟩) 1 1, .slice (some ⟨w4.heap.size + 1 + 1 + 1, 0, none⟩) 1 1] 86) = X := ⟨_, rfl⟩
  obtain ⟨X5, hX5⟩ : ∃ X, X4.alloc (.cells #[.slice (some ⟨w4.heap.size + 1 + 1 + 1 + 1, 0, none⟩) 2 2] 24) = X := ⟨_, rfl⟩
  rw [hX0, hX1, hX2, hX3, hX4, hX5]
  have s0 := size_allocEq hX0
  have s1 := size_allocEq hX1
  have s2 := size_allocEq hX2
  have s3 := size_allocEq hX3
  have s4 := size_allocEq hX4
  have s5 := size_allocEq hX5
  have k0 := ((((Blk.newEq hX0).allocEq hX1).allocEq hX2).allocEq hX3).allocEq hX4 |>.allocEq hX5
  have k1 := (((Blk.newEq hX1).allocEq hX2).allocEq hX3).allocEq hX4 |>.allocEq hX5
  have k2 := ((Blk.newEq hX2).allocEq hX3).allocEq hX4 |>.allocEq hX5
  have k3 := (Blk.newEq hX3).allocEq hX4 |>.allocEq hX5
  have k4 := (Blk.newEq hX4).allocEq hX5
  have v5 := Blk.newEq hX5
  have hB5 := below_allocEq (below_allocEq (below_allocEq (below_allocEq (below_allocEq (below_allocEq (Below.refl w4.heap.size w4) hX0 (Nat.le_refl _)) hX1 (by omega)) hX2 (by omega)) hX3 (by omega)) hX4 (by omega)) hX5 (by omega)
  rw [s0] at k1
  rw [s1, s0] at k2
  rw [s2, s1, s0] at k3
  rw [s3, s2, s1, s0] at k4
  rw [s4, s3, s2, s1, s0] at v5
  have hT6 : TxnS X5 (Old X5) (.slice (some ⟨w4.heap.size + 1 + 1 + 1 + 1, 0, none⟩) 2 2) exL :=
    txn_two (t0 := ⟨0, [0], [⟨0, -1⟩]⟩) (t1 := ⟨1, [0], [⟨0, -1⟩]⟩) k4 (IntS.of_blk (l := [0]) k0 k0.lt) (SlR.one k1 rfl rfl k1.lt) (IntS.of_blk (l := [0]) k2 k2.lt) (SlR.one k3 rfl rfl k3.lt) k4.lt
  have hT5 := hT4.below hB5
  have hR5 := hRS.below hB5
  have v4b := v4.below hB5 v4.lt
  have hb6 := hb5.trans (hB5.mono hb5.size)
  clear hX0 hX1 hX2 hX3 hX4 hX5 s0 s1 s2 s3 s4 s5 k0 k1 k2 k3 k4 hB5 hT4 hRS v4 hb5
  generalize w4.heap.size = p4 at *
  have c5 := v5.cell 0
  simp only [List.getElem?_toArray, List.getElem?_cons_zero] at c5
  go_wp2_with fail
  clear c5
  obtain ⟨W3, hW3⟩ : ∃ X, (X5).alloc (.cells #[.int .i64 0, .int .i64 1] 3) = X := ⟨_, rfl⟩
  have o3 : IntS W3 (Old W3) (.slice (some ⟨(X5).heap.size, 0, none⟩) 2 2) [0, 1] := by
    have kk := Blk.newEq hW3
    exact IntS.of_blk (l := [0, 1]) kk kk.lt
  have hB3 := below_allocEq (Below.refl (X5).heap.size X5) hW3 (Nat.le_refl _)
  rw [hW3]
  clear hW3
  have hc := rowsS_any (some ⟨p4 + 1 + 1 + 1 + 1, 0, none⟩) 2 exL (some ⟨X5.heap.size, 0, none⟩) 2 [0, 1] W3 (hT6.below hB3) hnl o3 (by decide)
  rw [e2.out] at hc
  refine Calls.mono (by exact hc) ?_
  rintro e w7 ⟨vr, rfl, hR, hb7⟩
  obtain ⟨Am, cm, rfl⟩ := hR.form
  have hM := hR.old
  rw [show ([⟨0, [0, 1]⟩] : List SRow).length = 1 from rfl] at hM ⊢
  have hX7 := hB3.trans (hb7.mono hB3.size)
  have hT7 := hT5.below hX7
  have hL7 := hT6.below hX7
  have hR7 := hR5.below hX7
  have v7 := v5.below hX7 v5.lt
  have u7 := v4b.below hX7 v4b.lt
  have hb8 := hb6.trans (hX7.mono hb6.size)
  clear hR hc hB3 hb7 hX7 o3 hT5 hT6 hR5 v5 v4b hb6
  generalize X5.heap.size = p5 at *
  have c5 := v7.cell 0
  simp only [List.getElem?_toArray, List.getElem?_cons_zero] at c5
  go_wp2_with fail
  clear c5
  have hc := choS_any (some ⟨p4 + 1 + 1 + 1 + 1, 0, none⟩) 2 exL Am cm [⟨0, [0, 1]⟩] w7 hL7 hnl hM ⟨by decide, by decide⟩
  rw [e6.out] at hc
  refine Calls.mono (by exact hc) ?_
  rintro e w9 ⟨vc, rfl, hC, hb9⟩
  obtain ⟨Ac, cc, rfl⟩ := hC.form
  have hCS := hC.sl (K := Old w9) (fun g _ h2 => h2)
  rw [show ([⟨0, 0, 1⟩] : List Cho).length = 1 from rfl] at hCS ⊢
  have hT9 := hT7.below hb9
  have hL9 := hL7.below hb9
  have hR9 := hR7.below hb9
  have hM9 := hM.below hb9
  have v9 := v7.below hb9 v7.lt
  have u9 := u7.below hb9 u7.lt
  have hb10 := hb8.trans (hb9.mono hb8.size)
  clear hC hc hb9 hT7 hL7 hR7 hM v7 u7 hb8
  have c9 := u9.cell 0
  simp only [List.getElem?_toArray, List.getElem?_cons_zero] at c9
  go_wp2_with fail
  clear c9
  have hc := checkS_any A c exS Ar cr [⟨0, [0]⟩, ⟨1, [1]⟩] w9 hT9 hns hR9 ⟨by decide, by decide⟩
  rw [e3.out] at hc
  refine Calls.mono (by exact hc) ?_
  rintro e w11 ⟨rfl, hb11⟩
  replace hT9 := hT9.below hb11
  replace hL9 := hL9.below hb11
  replace hR9 := hR9.below hb11
  replace hM9 := hM9.below hb11
  replace hCS := SlR.below (Flat.stab _) hCS hb11
  replace v9 := v9.below hb11 v9.lt
  replace u9 := u9.below hb11 u9.lt
  replace hb10 := hb10.trans ((hb11).mono hb10.size)
  clear hb11
  have c9 := u9.cell 0
  have c8 := v9.cell 0
  simp only [List.getElem?_toArray, List.getElem?_cons_zero] at c9 c8
  go_wp2_with fail
  clear c9 c8
  have hc := rightS_any A c exS Ar cr [⟨0, [0]⟩, ⟨1, [1]⟩] w11 hT9 hns hR9 ⟨by decide, by decide⟩
  rw [e4.out] at hc
  refine Calls.mono (by exact hc) ?_
  rintro e w12 ⟨rfl, hb12⟩
  replace hT9 := hT9.below hb12
  replace hL9 := hL9.below hb12
  replace hR9 := hR9.below hb12
  replace hM9 := hM9.below hb12
  replace hCS := SlR.below (Flat.stab _) hCS hb12
  replace v9 := v9.below hb12 v9.lt
  replace u9 := u9.below hb12 u9.lt
  replace hb10 := hb10.trans ((hb12).mono hb10.size)
  clear hb12
  have c9 := u9.cell 0
  have c8 := v9.cell 0
  simp only [List.getElem?_toArray, List.getElem?_cons_zero] at c9 c8
  go_wp2_with fail
  clear c9 c8
  obtain ⟨W13, hW13⟩ : ∃ X, (w12).alloc (.cells #[.int .i64 0, .int .i64 1] 3) = X := ⟨_, rfl⟩
  have o13 : IntS W13 (Old W13) (.slice (some ⟨(w12).heap.size, 0, none⟩) 2 2) [0, 1] := by
    have kk := Blk.newEq hW13
    exact IntS.of_blk (l := [0, 1]) kk kk.lt
  have hB13 := below_allocEq (Below.refl (w12).heap.size w12) hW13 (Nat.le_refl _)
  rw [hW13]
  clear hW13
  replace hT9 := hT9.below hB13
  replace hL9 := hL9.below hB13
  replace hR9 := hR9.below hB13
  replace hM9 := hM9.below hB13
  replace hCS := SlR.below (Flat.stab _) hCS hB13
  replace v9 := v9.below hB13 v9.lt
  replace u9 := u9.below hB13 u9.lt
  replace hb10 := hb10.trans ((hB13).mono hb10.size)
  clear hB13
  have c9 := u9.cell 0
  have c8 := v9.cell 0
  simp only [List.getElem?_toArray, List.getElem?_cons_zero] at c9 c8
  clear c9 c8
  have hc := serC_any A c exS (some ⟨w12.heap.size, 0, none⟩) 2 [0, 1] W13 hT9 hns o13 (by decide)
  rw [e7.out] at hc
  refine Calls.mono (by exact hc) ?_
  rintro e w14 ⟨rfl, hb14⟩
  clear hc o13
  replace hT9 := hT9.below hb14
  replace hL9 := hL9.below hb14
  replace hR9 := hR9.below hb14
  replace hM9 := hM9.below hb14
  replace hCS := SlR.below (Flat.stab _) hCS hb14
  replace v9 := v9.below hb14 v9.lt
  replace u9 := u9.below hb14 u9.lt
  replace hb10 := hb10.trans ((hb14).mono hb10.size)
  clear hb14
  have c9 := u9.cell 0
  have c8 := v9.cell 0
  simp only [List.getElem?_toArray, List.getElem?_cons_zero] at c9 c8
  go_wp2_with fail
  clear c9 c8
  obtain ⟨W15, hW15⟩ : ∃ X, (w14).alloc (.cells #[.int .i64 1, .int .i64 0] 3) = X := ⟨_, rfl⟩
  have o15 : IntS W15 (Old W15) (.slice (some ⟨(w14).heap.size, 0, none⟩) 2 2) [1, 0] := by
    have kk := Blk.newEq hW15
    exact IntS.of_blk (l := [1, 0]) kk kk.lt
  have hB15 := below_allocEq (Below.refl (w14).heap.size w14) hW15 (Nat.le_refl _)
  rw [hW15]
  clear hW15
  replace hT9 := hT9.below hB15
  replace hL9 := hL9.below hB15
  replace hR9 := hR9.below hB15
  replace hM9 := hM9.below hB15
  replace hCS := SlR.below (Flat.stab _) hCS hB15
  replace v9 := v9.below hB15 v9.lt
  replace u9 := u9.below hB15 u9.lt
  replace hb10 := hb10.trans ((hB15).mono hb10.size)
  clear hB15
  have c9 := u9.cell 0
  have c8 := v9.cell 0
  simp only [List.getElem?_toArray, List.getElem?_cons_zero] at c9 c8
  clear c9 c8
  have hc := serC_any A c exS (some ⟨w14.heap.size, 0, none⟩) 2 [1, 0] W15 hT9 hns o15 (by decide)
  rw [e8.out] at hc
  refine Calls.mono (by exact hc) ?_
  rintro e w16 ⟨rfl, hb16⟩
  clear hc o15
  replace hT9 := hT9.below hb16
  replace hL9 := hL9.below hb16
  replace hR9 := hR9.below hb16
  replace hM9 := hM9.below hb16
  replace hCS := SlR.below (Flat.stab _) hCS hb16
  replace v9 := v9.below hb16 v9.lt
  replace u9 := u9.below hb16 u9.lt
  replace hb10 := hb10.trans ((hb16).mono hb10.size)
  clear hb16
  have c9 := u9.cell 0
  have c8 := v9.cell 0
  simp only [List.getElem?_toArray, List.getElem?_cons_zero] at c9 c8
  go_wp2_with fail
  clear c9 c8
  have hc := checkS_any (some ⟨p4 + 1 + 1 + 1 + 1, 0, none⟩) 2 exL Am cm [⟨0, [0, 1]⟩] w16 hL9 hnl hM9 ⟨by decide, by decide⟩
  rw [e5.out] at hc
  refine Calls.mono (by exact hc) ?_
  rintro e w17 ⟨rfl, hb17⟩
  replace hT9 := hT9.below hb17
  replace hL9 := hL9.below hb17
  replace hR9 := hR9.below hb17
  replace hM9 := hM9.below hb17
  replace hCS := SlR.below (Flat.stab _) hCS hb17
  replace v9 := v9.below hb17 v9.lt
  replace u9 := u9.below hb17 u9.lt
  replace hb10 := hb10.trans ((hb17).mono hb10.size)
  clear hb17
  have c9 := u9.cell 0
  have c8 := v9.cell 0
  simp only [List.getElem?_toArray, List.getElem?_cons_zero] at c9 c8
  obtain ⟨bq, oq, hq1, _, z0, z1, z2⟩ := ChoS.at_ hCS (i := 0) (by decide)
  subst hq1
  simp only [List.getElem_cons_zero, Nat.zero_mul, Nat.add_zero] at z0 z1 z2
  go_wp2
  go_ret
  exact ⟨rfl, hb10⟩
end Go.Proofs.YtfhnamomiaekdaaGreat
