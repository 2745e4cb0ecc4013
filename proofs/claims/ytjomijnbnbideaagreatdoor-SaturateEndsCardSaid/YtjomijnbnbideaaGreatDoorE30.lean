/-
  Walks: layer 29: what is said when all pairs were looked at.
-/
import Derived.Test.YtjomijnbnbideaaGreatDoorE28
import Derived.Test.YtjomijnbnbideaaGreatDoorE29
set_option linter.unusedVariables false
set_option linter.unusedSimpArgs false
namespace Go.Proofs.YtjomijnbnbideaaGreatDoor
open Go.RowKit Go.Inq
set_option maxHeartbeats 8000000
attribute [local go_sem ↓] Go.wp_at_zero Go.wp_at_succ

theorem over_is (H : List Txn) (level : Int) (L : List Fct) : (∀ p, openO H (chosL L) = some p → overS H level L = stuckS) ∧ (∀ l, openO H (chosL L) = none → orderT H.length (fullE H level (chosL L)) = some l → overS H level L = ⟨1, l, [], []⟩) ∧
    (openO H (chosL L) = none → orderT H.length (fullE H level (chosL L)) = none → overS H level L = ⟨2, [], underL H level L [⟨zeroC, findC H level (chosL L)⟩], []⟩) := by
  refine ⟨fun p h => ?_, fun l h1 h2 => ?_, fun h1 h2 => ?_⟩
  · unfold overS; rw [h]
  · unfold overS; rw [h1, h2]
  · unfold overS; rw [h1, h2]
set_option maxRecDepth 100000 in
theorem over29_any (A : Option Addr) (c : Nat) (H : List Txn) (level : Int) (Al : Option Addr) (cl : Nat) (L : List Fct) (w : World) (h : TxnS w (Old w) (.slice A H.length c) H) (hn : SmallH H) (hL : FctS w (Old w) (.slice Al L.length cl) L) (hF : FitF L) (hr : replB H level L = true) (hl : L.length < 20000) (hTB : TabB w) :
    Calls Tryz.prog 89 #[.agg #[.slice A H.length c], .int .i64 level, .slice Al L.length cl] w (SayOut w (overS H level L)) := by
  obtain ⟨hri, hlev⟩ := may_iff.1 (replB_may hr)
  have h64 : H.length ≤ 64 := by have := ((rightH_iff H).1 hri).1; omega
  obtain ⟨W0, hW0⟩ : ∃ W0, (w.alloc (.cells #[.slice A H.length c] 24)).alloc (.cells #[.int .i64 0, .slice none 0 0, .slice none 0 0, .slice none 0 0] 35) = W0 := ⟨_, rfl⟩
  have hB := below_two hW0
  have k0 := Blk.two1 hW0
  have ko := Blk.two2 hW0
  have hrr := repl_right hr (by omega)
  have hcl := chosL_len L
  have hch := hide (choices22_any Al cl L W0 (hL.below hB) (hF.1))
  have hop := hide (fun W (hb : Below w.heap.size w W) A' c' (hC : ChoS W (Old W) (.slice A' (chosL L).length c') (chosL L)) => open18_any A c H A' c' (chosL L) W (h.below hb) hn hC hrr (by omega))
  have hfu := hide (fun W (hb : Below w.heap.size w W) A' c' (hC : ChoS W (Old W) (.slice A' (chosL L).length c') (chosL L)) => full18_any A c H level A' c' (chosL L) W (h.below hb) hn hC hrr hlev (hTB.below hb))
  have hor := hide (fun g W (hb : Below w.heap.size w W) (kg : Blk W g 145 (rowsB H.length (fullE H level (chosL L)))) => order16_any H.length (some ⟨g, 0, none⟩) H.length (fullE H level (chosL L)) (Old W) W (GrS.of_blk kg kg.lt h64) (fun _ h => h) (hTB.below hb))
  have hfi0 := hide (fun g W (hb : Below w.heap.size w W) (kg : Blk W g 145 (rowsB H.length (fullE H level (chosL L)))) => find15_any H.length (some ⟨g, 0, none⟩) H.length (fullE H level (chosL L)) W (GrS.of_blk kg kg.lt h64) (hTB.below hb))
  have hfn : (findC H level (chosL L)).length ≤ 1000000 := by unfold findC; rw [List.length_map]; exact Nat.le_trans findL_len (by omega)
  have hun := hide (fun W (hb : Below w.heap.size w W) gn (hN : NodO W w.heap.size (.slice (some ⟨gn, 0, none⟩) 1 1) [⟨zeroC, findC H level (chosL L)⟩]) => under25_any A c H level Al cl L (some ⟨gn, 0, none⟩) 1 [⟨zeroC, findC H level (chosL L)⟩] W (h.below hb) hn (hL.below hb) hF hN.s ⟨by simp, by simp; exact hfn⟩ hr hl (hTB.below hb))
  have hov := hide (over_is H level L)
  obtain ⟨o, ho⟩ : ∃ o, overS H level L = o := ⟨_, rfl⟩
  rw [ho] at hov
  rw [ho]
  have hFL : findC H level (chosL L) = intsN (findL H.length (fullE H level (chosL L))) := rfl
  rw [hFL] at hun hov
  generalize underL H level L [⟨zeroC, intsN (findL H.length (fullE H level (chosL L)))⟩] = U at *
  generalize intsN (findL H.length (fullE H level (chosL L))) = FL at *
  generalize fullE H level (chosL L) = E at *
  generalize openO H (chosL L) = op at *
  generalize orderT H.length E = ot at *
  generalize chosL L = M at *
  clear h hL ho hrr hr hri hlev hTB hF hfn hFL
  have hl0 := hide hl
  replace hcl := hide hcl
  clear hl
  go_enter Tryz.func89, Tryz.ntmps89
  go_wp2_with fail
  clear hW0
  refine hch.out.mono ?_
  rintro e w1 ⟨v1, rfl, hv1, hb1⟩
  have hB1 := hB.trans (hb1.mono hB.size)
  replace k0 := k0.below hb1 k0.lt
  replace ko := ko.below hb1 ko.lt
  obtain ⟨A1, c1, rfl⟩ := hv1.form
  have hC1 : ChoS w1 (Old w1) (.slice A1 M.length c1) M := hv1.sl fun g _ h => h
  have hop1 := hide (hop.out w1 hB1 A1 c1 hC1)
  have hC1 := hide hC1
  clear hch hop hb1 hB hv1
  have c0 := k0.cell 0
  simp only [List.getElem?_toArray, List.getElem?_cons_zero, List.getElem?_cons_succ] at c0
  go_wp2_with fail
  refine hop1.out.mono ?_
  rintro e w2 ⟨rfl, hb2⟩
  have hB2 := hB1.trans (hb2.mono hB1.size)
  have hC2 := hide (hC1.out.below hb2)
  replace k0 := k0.below hb2 k0.lt
  replace ko := ko.below hb2 ko.lt
  clear hop1 hb2 hB1 hC1 c0
  unfold opnV
  obtain ⟨p, hp⟩ : ∃ p, op.getD zeroC = p := ⟨_, rfl⟩
  rw [hp]
  obtain ⟨q, hq⟩ : ∃ q, op.isSome = q := ⟨_, rfl⟩
  rw [hq]
  obtain ⟨pk, pa, pb⟩ := p
  dsimp only
  obtain ⟨W3, hW3⟩ : ∃ W3, w2.alloc (.cells #[.int .i64 pk, .int .i64 pa, .int .i64 pb] 49) = W3 := ⟨_, rfl⟩
  have hb3 := below_allocEq (Below.refl w2.heap.size w2) hW3 (Nat.le_refl _)
  have hB3 := hB2.trans (hb3.mono hB2.size)
  have hC3 := hide (hC2.out.below hb3)
  replace k0 := k0.below hb3 k0.lt
  replace ko := ko.below hb3 ko.lt
  replace hW3 := hide hW3
  clear hB2 hC2 hb3 hp
  go_upto_region 3 with fail
  rw [hW3.out]
  clear hW3
  cases op with
  | some p =>
    obtain rfl : q = true := hq.symm
    obtain rfl : o = stuckS := hov.out.1 p rfl
    have z0 := ko.cell 0
    have z1 := ko.cell 1
    have z2 := ko.cell 2
    have z3 := ko.cell 3
    have f0 := ko.frozen 0
    have f1 := ko.frozen 1
    have f2 := ko.frozen 2
    have f3 := ko.frozen 3
    simp only [List.getElem?_toArray, List.getElem?_cons_zero, List.getElem?_cons_succ] at z0 z1 z2 z3
    have hBo := hide (setO_below (a := .int .i64 3) (b := .slice none 0 0) (c := .slice none 0 0) (d := .slice none 0 0) hB3 (Nat.le_succ w.heap.size))
    have kz := setO_blk (a := .int .i64 3) (b := .slice none 0 0) (c := .slice none 0 0) (d := .slice none 0 0) ko
    have y0 := kz.cell 0
    have y1 := kz.cell 1
    have y2 := kz.cell 2
    have y3 := kz.cell 3
    unfold setO at y0 y1 y2 y3
    simp only [List.getElem?_toArray, List.getElem?_cons_zero, List.getElem?_cons_succ] at y0 y1 y2 y3
    clear hov hq hfu hor hfi0 hun hC3 hB3 k0 ko kz
    go_wp2_with fail
    exact bodyPost_ret (v := .agg #[.int .i64 3, .slice none 0 0, .slice none 0 0, .slice none 0 0]) (by simp [results, Tryz.results89, go_sem, y0, y1, y2, y3]) rfl ⟨_, rfl, ⟨_, _, _, rfl, World.ownsRow_nil _ _ _ _, NodO.nil _ _, FctO.nil _ _⟩, hBo.out⟩
  | none =>
    obtain rfl : q = false := hq.symm
    have hov2 := hide (And.intro (fun l => hov.out.2.1 l rfl) (hov.out.2.2 rfl))
    have hfu1 := hide (hfu.out W3 hB3 A1 c1 hC3.out)
    have c0 := k0.cell 0
    simp only [List.getElem?_toArray, List.getElem?_cons_zero, List.getElem?_cons_succ] at c0
    clear hov hq hfu hC3
    go_wp2_with fail
    refine hfu1.out.mono ?_
    rintro e w4 ⟨g, hg, rfl, kr, hb4⟩
    have hB4 := hB3.trans (hb4.mono hB3.size)
    replace k0 := k0.below hb4 k0.lt
    replace ko := ko.below hb4 ko.lt
    obtain ⟨W5, hW5⟩ : ∃ W5, w4.alloc (.cells #[.int .i64 H.length, .slice (some ⟨g, 0, none⟩) H.length H.length] 56) = W5 := ⟨_, rfl⟩
    have hb5 := below_allocEq (Below.refl w4.heap.size w4) hW5 (Nat.le_refl _)
    have hB5 := hB4.trans (hb5.mono hB4.size)
    replace k0 := k0.below hb5 k0.lt
    replace ko := ko.below hb5 ko.lt
    replace kr := kr.below hb5 kr.lt
    have kx := Blk.newEq hW5
    have x0 := kx.cell 0
    have x1 := kx.cell 1
    simp only [List.getElem?_toArray, List.getElem?_cons_zero, List.getElem?_cons_succ] at x0 x1
    have hor1 := hide (hor.out g W5 hB5 kr)
    replace hW5 := hide hW5
    clear hfu1 hor hb4 hB4 hb5 hB3 c0
    go_upto_region 6 with fail
    rw [hW5.out]
    clear hW5
    go_wp2_with fail
    refine hor1.out.mono ?_
    rintro e w6 ⟨hoo, hb6⟩
    have hB6 := hB5.trans (hb6.mono hB5.size)
    replace k0 := k0.below hb6 k0.lt
    replace ko := ko.below hb6 ko.lt
    replace kr := kr.below hb6 kr.lt
    replace kx := kx.below hb6 kx.lt
    have hs5 := hB5.size
    clear hor1 x0 x1 hb6 hB5
    cases ot with
    | some l =>
      obtain ⟨v, rfl, hv⟩ := hoo
      have hv2 : OwnI w6 w.heap.size v (intsN l) := own_baseT hv hs5
      obtain rfl : o = ⟨1, l, [], []⟩ := hov2.out.1 l rfl
      obtain ⟨Av, cv, rfl⟩ := hv2.form
      have z0 := ko.cell 0
      have z1 := ko.cell 1
      have z2 := ko.cell 2
      have z3 := ko.cell 3
      have f0 := ko.frozen 0
      have f1 := ko.frozen 1
      have f2 := ko.frozen 2
      have f3 := ko.frozen 3
      simp only [List.getElem?_toArray, List.getElem?_cons_zero, List.getElem?_cons_succ] at z0 z1 z2 z3
      have hBo := hide (setO_below (a := .int .i64 1) (b := .slice Av (intsN l).length cv) (c := .slice none 0 0) (d := .slice none 0 0) hB6 (Nat.le_succ w.heap.size))
      have hT := setO_ty (a := .int .i64 1) (b := .slice Av (intsN l).length cv) (c := .slice none 0 0) (d := .slice none 0 0) ko (Nat.le_succ w.heap.size)
      have hvz := hide (hT.own hv2 (by decide))
      have kz := setO_blk (a := .int .i64 1) (b := .slice Av (intsN l).length cv) (c := .slice none 0 0) (d := .slice none 0 0) ko
      have y0 := kz.cell 0
      have y1 := kz.cell 1
      have y2 := kz.cell 2
      have y3 := kz.cell 3
      unfold setO at y0 y1 y2 y3
      simp only [List.getElem?_toArray, List.getElem?_cons_zero, List.getElem?_cons_succ] at y0 y1 y2 y3
      clear hov2 hfi0 hun hB6 k0 ko kz kr kx hv hv2 hT
      dsimp only
      go_wp2_with fail
      exact bodyPost_ret (v := .agg #[.int .i64 1, .slice Av (intsN l).length cv, .slice none 0 0, .slice none 0 0]) (by simp [results, Tryz.results89, go_sem, y0, y1, y2, y3]) rfl ⟨_, rfl, ⟨_, _, _, rfl, hvz.out, NodO.nil _ _, FctO.nil _ _⟩, hBo.out⟩
    | none =>
      obtain rfl : e = .returned (.tuple #[.slice none 0 0, .bool false]) := hoo
      obtain rfl : o = ⟨2, [], U, []⟩ := hov2.out.2 rfl
      have hfi := hide (hfi0.out g)
      have hszA := hB6.size
      have hbA := hB6
      have kh := k0
      clear hov2 hfi0 k0
      dsimp only
      go_upto_region 9 with fail
      refine wp_region_tabs w.heap.size [wV (.agg #[.slice A H.length c]), wV (.int .i64 level), wV (.slice Al L.length cl), wV (.agg #[.int .i64 H.length, .slice (some ⟨g, 0, none⟩) H.length H.length]), wI w.heap.size FL, wNd w.heap.size zeroC FL, wNs w.heap.size zeroC FL, wTu (wND w.heap.size U), wTu (wND w.heap.size U), wND w.heap.size U, wV (.int .i64 0), wND w.heap.size U, wV (.int .i64 0)] [[], [], [], [], [3], [4], [5], [0,1,2,6], [7], [8], [8], [9], [10]] [[], [], [], [], [], [], [], [], [], [], [], [], []] [[], [], [], [], [3], [3], [114, 3], [114, 3], [114, 3], [114, 3], [], [114, 3], []] [] [] hszA (by kernel_rfl) (by kernel_rfl) (by kernel_rfl) (by kernel_rfl) (by kernel_rfl) (by kernel_rfl) rfl trivial (by kernel_rfl) (by kernel_rfl) ?hstep ?hend
      case hstep =>
        simp only [StepsT, WantsT, RsT, acV, wV, wO, wS, wB, wU, wX, wK, wA, wI, wNd, wNs, wND, wTu, updV, List.getElem?_toArray, List.getElem?_cons_zero, List.getElem?_cons_succ, List.getD_cons_zero, List.getD_cons_succ, List.getD_nil, Act.put, List.setIfInBounds_toArray, List.set_cons_zero, List.set_cons_succ, Nat.zero_add, Nat.reduceAdd, if_true, and_true]
        refine ⟨?_, ?_, ?_, ?o3, ?o4, ?o5, ?o6, ?o7, ?o8, ?o9, ?o10, ?o11, ?_⟩
        all_goals intro vs W R hR hT hd
        all_goals have hsz := Nat.le_trans hszA hT.size
        all_goals have hbW := hbA.trans hT.below
        all_goals have kq := hT.blk kh (by decide)
        all_goals have c0 := kq.cell 0
        all_goals simp only [List.getElem?_toArray, List.getElem?_cons_zero, List.getElem?_cons_succ] at c0
        case o3 =>
          have kg := hT.blk kx (by decide)
          have x0 := kg.cell 0
          have x1 := kg.cell 1
          simp only [List.getElem?_toArray, List.getElem?_cons_zero, List.getElem?_cons_succ] at x0 x1
          go_wp2
          exact ⟨rfl, _, rfl, hR _ _ rfl (TyW.refl _ _ _)⟩
        case o4 =>
          rw [hd]
          go_wp2_with fail
          refine (hfi.out W hbW (hT.blk kr (by decide))).mono ?_
          rintro e W2 ⟨v, rfl, hv, hb2⟩
          go_wp2
          exact ⟨rfl, _, rfl, hR _ _ (own_baseT hv hsz) (TyW.calm hb2 hsz)⟩
        case o5 =>
          obtain ⟨Au, cu, e5⟩ := OwnI.form hd
          rw [e5] at hd ⊢
          go_wp2
          exact ⟨rfl, _, rfl, hR _ _ ⟨_, rfl, hd⟩ (TyW.refl _ _ _)⟩
        case o6 =>
          obtain ⟨u, e6, hu⟩ := hd
          obtain ⟨Au, cu, rfl⟩ := OwnI.form hu
          rw [e6]
          go_wp2
          exact ⟨rfl, _, rfl, hR _ _ ⟨W.heap.size, _, hsz, rfl, Blk.new _ _ _, World.ownsRow.alloc hu _⟩ (TyW.calm ((Below.refl _ _).alloc (Nat.le_refl _) _) hsz)⟩
        case o7 =>
          obtain ⟨e0, e1, e2, gn, u, hgn, e6, kn, hu⟩ := hd
          rw [e0, e1, e2, e6]
          go_wp2_with fail
          refine (hun.out W hbW gn (nodO_one kn hgn hu)).mono ?_
          rintro e W2 ⟨v, rfl, hv, hb2⟩
          go_wp2
          exact ⟨rfl, _, rfl, hR _ _ ⟨v, rfl, hv.base hsz⟩ (TyW.calm hb2 hsz)⟩
        case o8 =>
          go_wp2
          exact ⟨rfl, _, rfl, hR _ _ hd (TyW.refl _ _ _)⟩
        case o9 =>
          obtain ⟨u, e8, hu⟩ := hd
          rw [e8]
          go_wp2
          exact ⟨rfl, _, rfl, hR _ _ hu (TyW.refl _ _ _)⟩
        case o10 =>
          obtain ⟨u, e8, hu⟩ := hd
          rw [e8]
          go_wp2
          exact ⟨rfl, _, rfl, hR _ _ rfl (TyW.refl _ _ _)⟩
        case o11 =>
          go_wp2
          exact ⟨rfl, _, rfl, hR _ _ hd (TyW.refl _ _ _)⟩
        all_goals (go_wp2; exact ⟨rfl, _, rfl, hR _ _ (by first | rfl | trivial) (TyW.refl _ _ _)⟩)
      case hend =>
        intro vs W hT hd
        have o11 : NodO W w.heap.size (vs 11) U := hd 11 (by simp) (by kernel_rfl)
        have kW := hT.blk ko (by decide)
        have hbW := hbA.trans hT.below
        simp only [acV, List.getElem?_toArray, List.getElem?_cons_zero, List.getElem?_cons_succ, Act.put, List.setIfInBounds_toArray, List.set_cons_zero, List.set_cons_succ, List.length_cons, List.length_nil, Nat.reduceAdd]
        obtain ⟨Av, cv, e11⟩ := OwnR.form o11
        rw [e11] at o11 ⊢
        have z0 := kW.cell 0
        have z1 := kW.cell 1
        have z2 := kW.cell 2
        have z3 := kW.cell 3
        have f0 := kW.frozen 0
        have f1 := kW.frozen 1
        have f2 := kW.frozen 2
        have f3 := kW.frozen 3
        simp only [List.getElem?_toArray, List.getElem?_cons_zero, List.getElem?_cons_succ] at z0 z1 z2 z3
        have hBo := hide (setO_below (a := .int .i64 2) (b := .slice none 0 0) (c := .slice Av U.length cv) (d := .slice none 0 0) hbW (Nat.le_succ w.heap.size))
        have hT2 := setO_ty (a := .int .i64 2) (b := .slice none 0 0) (c := .slice Av U.length cv) (d := .slice none 0 0) kW (Nat.le_succ w.heap.size)
        have hvz : Hid (NodO _ w.heap.size (.slice Av U.length cv) U) := hide (hT2.ownR NodR.stab o11 (by decide))
        have kz := setO_blk (a := .int .i64 2) (b := .slice none 0 0) (c := .slice Av U.length cv) (d := .slice none 0 0) kW
        have y0 := kz.cell 0
        have y1 := kz.cell 1
        have y2 := kz.cell 2
        have y3 := kz.cell 3
        unfold setO at y0 y1 y2 y3
        simp only [List.getElem?_toArray, List.getElem?_cons_zero, List.getElem?_cons_succ] at y0 y1 y2 y3
        clear hd hT hbA hszA kh ko kr kx hfi hun hbW kW kz hT2 o11 e11 hB6
        go_wp2_with fail
        exact bodyPost_ret (v := .agg #[.int .i64 2, .slice none 0 0, .slice Av U.length cv, .slice none 0 0]) (by simp [results, Tryz.results89, go_sem, y0, y1, y2, y3]) rfl ⟨_, rfl, ⟨_, _, _, rfl, World.ownsRow_nil _ _ _ _, hvz.out, FctO.nil _ _⟩, hBo.out⟩
end Go.Proofs.YtjomijnbnbideaaGreatDoor
