/-
  Walks: layer 31: a step of Search.
-/
import Derived.Test.YtjomijnbnbideaaGreatDoorM30
import Derived.Test.YtjomijnbnbideaaGreatDoorM32
import Derived.Test.YtjomijnbnbideaaGreatDoorM33
set_option linter.unusedVariables false
set_option linter.unusedSimpArgs false
namespace Go.Proofs.YtjomijnbnbideaaGreatDoor
open Go.RowKit Go.Inq
set_option maxHeartbeats 8000000
attribute [local go_sem ↓] Go.wp_at_zero Go.wp_at_succ

theorem stepP_is (H : List Txn) (level : Int) (L : List Fct) (path : List Mk) : (rightP H level L path = false → stepP H level L path = (path, stuckS)) ∧ (rightP H level L path = true →
    (findC H level (chosL L ++ pathC path) ≠ [] → stepP H level L path = backP H level L path.reverse [⟨zeroC, findC H level (chosL L ++ pathC path)⟩]) ∧
    (findC H level (chosL L ++ pathC path) = [] → (∀ p, openO H (chosL L ++ pathC path) = some p → stepP H level L path = (path ++ [⟨p, false, []⟩], goesS)) ∧
      (openO H (chosL L ++ pathC path) = none → stepP H level L path = (path, ⟨1, (orderT H.length (fullE H level (chosL L ++ pathC path))).getD [], [], []⟩)))) := by
  refine ⟨fun h => by unfold stepP; rw [h]; rfl, fun h => ⟨fun hf => ?_, fun hf => ⟨fun p hp => ?_, fun hp => ?_⟩⟩⟩
  · unfold stepP; rw [h]; simp only [if_true]; rw [if_pos hf]
  · unfold stepP; rw [h]; simp only [if_true]; rw [if_neg (by rw [hf]; simp), hp]
  · unfold stepP; rw [h]; simp only [if_true]; rw [if_neg (by rw [hf]; simp), hp]
def StepOut (w : World) (r : List Mk × Say) (e : Ending) (w' : World) : Prop := ∃ vp vo, e = .returned (.tuple #[vp, vo]) ∧ MkO w' w.heap.size vp r.1 ∧ SayV w' w.heap.size vo r.2 ∧ Below w.heap.size w w'
theorem row_right {H : List Txn} {level : Int} {L : List Fct} {path : List Mk} (h : RiP H level L path) : rightC H (chosL L ++ pathC path) = true := by
  unfold rightC
  have hl := h.len
  rw [(may_iff.1 (replB_may h.repl)).1, List.length_append, chosL_len, pathC_len, decide_eq_true (by omega), Bool.true_and, Bool.true_and, List.all_eq_true]
  exact h.one
set_option maxRecDepth 100000 in
theorem step31_any (A : Option Addr) (c : Nat) (H : List Txn) (level : Int) (Al : Option Addr) (cl : Nat) (L : List Fct) (Ap : Option Addr) (cp : Nat) (path : List Mk) (w : World) (h : TxnS w (Old w) (.slice A H.length c) H) (hn : SmallH H) (hL : FctS w (Old w) (.slice Al L.length cl) L) (hF : FitF L) (hP : MkS w (Old w) (.slice Ap path.length cp) path) (hM : FitM path) (hTB : TabB w) :
    Calls Tryz.prog 45 #[.agg #[.slice A H.length c], .int .i64 level, .slice Al L.length cl, .slice Ap path.length cp] w (StepOut w (stepP H level L path)) := by
  obtain ⟨ic, hic, ic1, ic2, ic3⟩ := info_parts infoC9
  obtain ⟨im, him, hm1, hm2, hm3⟩ := info_parts infoMk
  obtain ⟨W0, hW0⟩ : ∃ W0, (w.alloc (.cells #[.slice A H.length c] 24)).alloc (.cells #[.int .i64 0, .slice none 0 0, .slice none 0 0, .slice none 0 0] 35) = W0 := ⟨_, rfl⟩
  have hB := below_two hW0
  have k0 := Blk.two1 hW0
  have ko := Blk.two2 hW0
  have hfl := hF.1
  have hpl := hM.len
  have how := hide (own31_any Ap cp path W0 (hP.below hB) hM)
  have hrt := hide (fun W (hb : Below w.heap.size w W) => right31_any A c H level Al cl L Ap cp path W (h.below hb) hn (hL.below hb) hF (hP.below hb) hM)
  have hch := hide (fun W (hb : Below w.heap.size w W) => choices22_any Al cl L W (hL.below hb) hF.1)
  have hcp := hide (fun W (hb : Below w.heap.size w W) => choices31_any Ap cp path W (hP.below hb) hpl)
  have his := hide (stepP_is H level L path)
  have hall := hide (show rightP H level L path = true → RiP H level L path from rightP_iff.1)
  have hallF := hide (fun (g : RiP H level L path) W (hb : Below w.heap.size w W) A' c' (hC : ChoS W (Old W) (.slice A' (chosL L ++ pathC path).length c') (chosL L ++ pathC path)) => full18_any A c H level A' c' (chosL L ++ pathC path) W (h.below hb) hn hC (row_right g) (may_iff.1 (replB_may g.repl)).2 (hTB.below hb))
  have hallO := hide (fun (g : RiP H level L path) W (hb : Below w.heap.size w W) A' c' (hC : ChoS W (Old W) (.slice A' (chosL L ++ pathC path).length c') (chosL L ++ pathC path)) => open18_any A c H A' c' (chosL L ++ pathC path) W (h.below hb) hn hC (row_right g) (by have := g.len; rw [List.length_append, chosL_len, pathC_len]; omega))
  have hallB := hide (fun (g : RiP H level L path) Aq cq W (hb : Below w.heap.size w W) At ct tree (hPo : MkO W w.heap.size (.slice Aq path.length cq) path) (ht : NodP W w.heap.size (.slice At (List.length tree) ct) tree) (h1 : tree.length = 1) (hcy : CycN tree) =>
    back31_any w.heap.size A c H level Al cl L Aq cq path At ct tree W (h.below hb) hn (hL.below hb) hF g.repl (by have := g.len; omega) (hTB.below hb) hb.size hPo ht (by have := hM.1; omega) hM.2 hcy)
  have hgr := hide (fun (g : RiP H level L path) E gg W (hb : Below w.heap.size w W) (kg : Blk W gg 145 (rowsB H.length E)) => (by
    have h64 : H.length ≤ 64 := by have := ((rightH_iff H).1 (may_iff.1 (replB_may g.repl)).1).1; omega
    exact ⟨find15_any H.length (some ⟨gg, 0, none⟩) H.length E W (GrS.of_blk kg kg.lt h64) (hTB.below hb), order16_any H.length (some ⟨gg, 0, none⟩) H.length E (Old W) W (GrS.of_blk kg kg.lt h64) (fun _ h => h) (hTB.below hb)⟩ :
    Calls Tryz.prog 67 #[.agg #[.int .i64 H.length, .slice (some ⟨gg, 0, none⟩) H.length H.length]] W (OutI W (intsN (findL H.length E))) ∧ Calls Tryz.prog 61 #[.agg #[.int .i64 H.length, .slice (some ⟨gg, 0, none⟩) H.length H.length]] W (OrdOut W (orderT H.length E))))
  have hfc := hide (fun (g : RiP H level L path) => findC_len (may_iff.1 (replB_may g.repl)).1 level (chosL L ++ pathC path))
  have hlC := chosL_len L
  have hlP := pathC_len path
  obtain ⟨R, hR⟩ : ∃ R, stepP H level L path = R := ⟨_, rfl⟩
  rw [hR] at his
  rw [hR]
  clear h hL hP hTB hR
  replace hF := hide hF
  replace hM := hide hM
  obtain ⟨rp, hrp⟩ : ∃ rp, rightP H level L path = rp := ⟨_, rfl⟩
  rw [hrp] at his hrt hall
  clear hrp
  go_enter Tryz.func45, Tryz.ntmps45
  go_wp2_with fail
  clear hW0
  refine how.out.mono ?_
  rintro e w1 ⟨vo, rfl, hO, hb1⟩
  have hB1 := hB.trans (hb1.mono hB.size)
  replace k0 := k0.below hb1 k0.lt
  replace ko := ko.below hb1 ko.lt
  replace hO := hO.base hB.size
  obtain ⟨Ao, co, rfl⟩ := OwnR.form hO
  have hrt1 := hide (hrt.out w1 hB1)
  clear how hrt hb1 hB
  have c0 := Blk.n0 k0
  go_wp2_with fail
  refine hrt1.out.mono ?_
  rintro e w2 ⟨rfl, hb2⟩
  have hB2 := hB1.trans (hb2.mono hB1.size)
  replace k0 := k0.below hb2 k0.lt
  replace ko := ko.below hb2 ko.lt
  replace hO := hO.below hb2
  clear hrt1 hb2 hB1 c0
  cases rp with
  | false =>
    obtain rfl := his.out.1 (by trivial)
    have z0 := Blk.n0 ko
    have z1 := Blk.n1 ko
    have z2 := Blk.n2 ko
    have z3 := Blk.n3 ko
    have f0 := ko.frozen 0
    have f1 := ko.frozen 1
    have f2 := ko.frozen 2
    have f3 := ko.frozen 3
    have hBo := hide (setO_below (a := (.int .i64 3)) (b := (.slice none 0 0)) (c := (.slice none 0 0)) (d := (.slice none 0 0)) hB2 (show w.heap.size ≤ w.heap.size + 1 by omega))
    have hTo := setO_ty (n0 := w.heap.size) (a := (.int .i64 3)) (b := (.slice none 0 0)) (c := (.slice none 0 0)) (d := (.slice none 0 0)) ko (by omega)
    have kz := setO_blk (a := (.int .i64 3)) (b := (.slice none 0 0)) (c := (.slice none 0 0)) (d := (.slice none 0 0)) ko
    have y0 := kz.cell 0
    have y1 := kz.cell 1
    have y2 := kz.cell 2
    have y3 := kz.cell 3
    unfold setO at y0 y1 y2 y3
    simp only [gA, gZ, gS] at y0 y1 y2 y3
    have oM := hide (show MkO _ w.heap.size (.slice Ao path.length co) path from hTo.ownR MkR.stab hO (by decide))
    clear his hch hcp hall hallF hallO hallB hgr hfc hO ko k0 kz hTo hB2
    go_wp2_with fail
    repeat' (first | go_values | go_skip | go_guarded | go_step | go_upon)
    try simp only [Exit.inBlock, Exit.then]
    refine bodyPost_ret (v := .tuple #[(.slice Ao path.length co), .agg #[(.int .i64 3), (.slice none 0 0), (.slice none 0 0), (.slice none 0 0)]]) (by simp [results, Tryz.results45, go_sem, y0, y1, y2, y3]) rfl ?_
    exact ⟨_, _, rfl, oM.out, ⟨_, _, _, rfl, World.ownsRow_nil _ _ _ _, NodO.nil _ _, FctO.nil _ _⟩, hBo.out⟩
  | true =>
    have hRi := hall.out (by trivial)
    have hi2 := hide (his.out.2 (by trivial))
    have hrl := hRi.len
    have hch1 := hide (hch.out w2 hB2)
    have hfu := hide (hallF.out hRi)
    have hop := hide (hallO.out hRi)
    have hbk := hide (hallB.out hRi Ao co)
    have hgf := hide (hgr.out hRi)
    have hfcl := hfc.out hRi
    replace hRi := hide hRi
    clear his hall hch hallF hallO hallB hgr hfc
    go_wp2_with fail
    refine hch1.out.mono ?_
    rintro e w3 ⟨vC, rfl, hC, hb3⟩
    have hC3 := own_baseT hC hB2.size
    have hB3 := hB2.trans (hb3.mono hB2.size)
    replace k0 := k0.below hb3 k0.lt
    replace ko := ko.below hb3 ko.lt
    replace hO := hO.below hb3
    have hcp1 := hide (hcp.out w3 hB3)
    clear hch1 hb3 hB2 hC hcp
    go_wp2_with fail
    refine hcp1.out.mono ?_
    rintro e w4 ⟨vQ, rfl, hQ, hb4⟩
    have hC4 : w4.ownsRow w.heap.size 49 3 vC (chosL L).length ((chosL L).map encC).flatten := own_below hC3 hb4 (Nat.le_refl _)
    have hB4 := hB3.trans (hb4.mono hB3.size)
    replace k0 := k0.below hb4 k0.lt
    replace ko := ko.below hb4 ko.lt
    replace hO := hO.below hb4
    have hQs : SlR 3 (Flat encC) w4 (fun _ => True) vQ (pathC path) := OwnC.sl hQ fun _ _ _ => trivial
    have hsz4 := hB4.size
    clear hcp1 hb4 hB3 hC3 hQ
    obtain ⟨M, hMM⟩ : ∃ M, chosL L ++ pathC path = M := ⟨_, rfl⟩
    have hMl : M.length < 20000 := by rw [← hMM, List.length_append]; omega
    rw [hMM] at hfu hop hi2 hfcl
    replace hlC := hide hlC
    replace hlP := hide hlP
    replace hrl := hide hrl
    obtain ⟨AC, cC, rfl⟩ := own_slice hC4
    obtain ⟨AQ, cQ, _, rfl, -⟩ := id hQs
    go_upto_region 5 with (at_builtin; go_loud (refine wpList_append_flat (enc := encC) rfl (.tmp 30) (.tmp 32) 61 rfl w.heap.size 49 ic _ 3 24 Tryz.underlying61 hic ic1 ic2 ic3 rfl (by decide) (.slice AC (chosL L).length cC) (fun _ => True) (chosL L) rfl hC4 (fun _ => rfl) (.slice AQ (pathC path).length cQ) (pathC path) rfl hQs encC_one (by have := hlC.out; have := hlP.out; have := hrl.out; unfold maxLen; omega) (by have := hlC.out; have := hlP.out; have := hrl.out; omega) hsz4 ?_); intro v5 w5 hown5 hg5 hat5)
    rw [hMM] at hown5
    have hT5 : TyW w.heap.size [49] w4 w5 := TyW.grown hC4 hg5 (by simp) (Nat.le_refl _) hsz4
    have hB5 := hB4.trans hT5.below
    replace k0 := hT5.blk k0 (by decide)
    replace ko := hT5.blk ko (by decide)
    have hO5 : MkO w5 w.heap.size (.slice Ao path.length co) path := hT5.ownR MkR.stab hO (by decide)
    obtain ⟨A5, c5, rfl⟩ := own_slice hown5
    have hM5 : ChoS w5 (Old w5) (.slice A5 M.length c5) M := OwnC.sl hown5 fun _ _ h => h
    have hfu1 := hide (hfu.out w5 hB5 A5 c5 hM5)
    have hop1 := hide (fun W (hb : Below w5.heap.size w5 W) => hop.out W (hB5.trans (hb.mono hB5.size)) A5 c5 (hM5.below hb))
    replace hMM := hide hMM
    clear hfu hop hown5 hg5 hat5 hT5 hO hC4 hQs hB4 hsz4
    have c0 := Blk.n0 k0
    go_wp2_with fail
    refine hfu1.out.mono ?_
    rintro e w6 ⟨gg, hgg, rfl, kg, hb6⟩
    have hB6 := hB5.trans (hb6.mono hB5.size)
    replace k0 := k0.below hb6 k0.lt
    replace ko := ko.below hb6 ko.lt
    replace hO5 := hO5.below hb6
    have hFL : findC H level M = intsN (findL H.length (fullE H level M)) := rfl
    rw [hFL] at hi2 hfcl
    generalize fullE H level M = E at *
    obtain ⟨ot, hot⟩ : ∃ ot, orderT H.length E = ot := ⟨_, rfl⟩
    have hgf1 := hide (fun W hb kg => hgf.out E gg W hb kg)
    rw [hot] at hi2 hgf1
    generalize intsN (findL H.length E) = FL at *
    generalize openO H M = op at *
    obtain ⟨W7, hW7⟩ : ∃ W7, w6.alloc (.cells #[.int .i64 H.length, .slice (some ⟨gg, 0, none⟩) H.length H.length] 56) = W7 := ⟨_, rfl⟩
    have hb7 := below_allocEq (Below.refl w6.heap.size w6) hW7 (Nat.le_refl _)
    have hb67 := hb6.trans (hb7.mono hb6.size)
    have hB7 := hB6.trans (hb7.mono hB6.size)
    replace k0 := k0.below hb7 k0.lt
    replace ko := ko.below hb7 ko.lt
    replace hO5 := hO5.below hb7
    replace kg := kg.below hb7 kg.lt
    have kx := Blk.newEq hW7
    have x0 := Blk.n0 kx
    have x1 := Blk.n1 kx
    have hf1 := hide ((hgf1.out W7 hB7 kg).1)
    clear hfu1 hgf hb6 hB6 hb7 hB5 c0 hot hFL
    go_upto_region 6 with fail
    try rw [hW7]
    generalize w6.heap.size = gx at *
    clear hW7
    go_wp2_with fail
    refine hf1.out.mono ?_
    rintro e w8 ⟨vF, rfl, oF, hb8⟩
    have hB8 := hB7.trans (hb8.mono hB7.size)
    have hb58 := hb67.trans (hb8.mono hb67.size)
    replace k0 := k0.below hb8 k0.lt
    replace ko := ko.below hb8 ko.lt
    replace hO5 := hO5.below hb8
    replace kg := kg.below hb8 kg.lt
    replace kx := kx.below hb8 kx.lt
    have oF2 : OwnI w8 w.heap.size vF FL := own_baseT oF hB7.size
    obtain ⟨AF, cF, rfl⟩ := OwnI.form oF2
    clear hf1 x0 x1 hb8 hB7 oF hb67
    have c0 := Blk.n0 k0
    by_cases hFz : FL = []
    · have nF : FL.length = 0 := by rw [hFz]; rfl
      have g1 : decide ((FL.length : Int) > 0) = false := decide_eq_false (by omega)
      have g2 : decide (0 < FL.length) = false := decide_eq_false (by omega)
      have hi3 := hide (hi2.out.2 hFz)
      have hop2 := hide (hop1.out w8 hb58)
      replace nF := hide nF
      replace hFz := hide hFz
      clear hi2 hbk hop1 oF2 hfcl hb58
      go_wp2_with fail
      refine hop2.out.mono ?_
      rintro e w9 ⟨rfl, hb9⟩
      have hB9 := hB8.trans (hb9.mono hB8.size)
      replace k0 := k0.below hb9 k0.lt
      replace ko := ko.below hb9 ko.lt
      replace hO5 := hO5.below hb9
      replace kg := kg.below hb9 kg.lt
      replace kx := kx.below hb9 kx.lt
      clear hop2 c0 hb9 hB8
      unfold opnV
      obtain ⟨p, hp⟩ : ∃ p, op.getD zeroC = p := ⟨_, rfl⟩
      rw [hp]
      obtain ⟨q, hq⟩ : ∃ q, op.isSome = q := ⟨_, rfl⟩
      rw [hq]
      obtain ⟨pk, pa, pb⟩ := p
      dsimp only
      obtain ⟨Wp, hWp⟩ : ∃ Wp, w9.alloc (.cells #[.int .i64 pk, .int .i64 pa, .int .i64 pb] 49) = Wp := ⟨_, rfl⟩
      have hbp := below_allocEq (Below.refl w9.heap.size w9) hWp (Nat.le_refl _)
      have hBp := hB9.trans (hbp.mono hB9.size)
      replace k0 := k0.below hbp k0.lt
      replace ko := ko.below hbp ko.lt
      replace hO5 := hO5.below hbp
      replace kg := kg.below hbp kg.lt
      replace kx := kx.below hbp kx.lt
      have kp := Blk.newEq hWp
      have p0 := Blk.n0 kp
      have p1 := Blk.n1 kp
      have p2 := Blk.n2 kp
      clear hbp hB9
      go_upto_region 10 with fail
      try rw [hWp]
      generalize w9.heap.size = gp at *
      clear hWp
      cases op with
      | none =>
        obtain rfl : q = false := hq.symm
        have hi4 := hide (hi3.out.2 rfl)
        have hor := hide ((hgf1.out Wp hBp kg).2)
        have x0 := Blk.n0 kx
        have x1 := Blk.n1 kx
        clear hi3 hgf1 hq hp p0 p1 p2 kp
        go_wp2_with fail
        refine hor.out.mono ?_
        rintro e wz ⟨hoo, hbz⟩
        have hBz := hBp.trans (hbz.mono hBp.size)
        have hbs := hBp.size
        replace ko := ko.below hbz ko.lt
        replace hO5 := hO5.below hbz
        have hoo2 : ∃ v bq, e = .returned (.tuple #[v, .bool bq]) ∧ OwnI wz w.heap.size v (intsN (ot.getD [])) := by
          cases ot with
          | none => exact ⟨_, _, hoo, World.ownsRow_nil _ _ _ _⟩
          | some l =>
            obtain ⟨v, e1, e2⟩ := hoo
            exact ⟨v, true, e1, own_baseT e2 hbs⟩
        obtain ⟨v, bq, rfl, oV⟩ := hoo2
        obtain ⟨Av, cv, rfl⟩ := OwnI.form oV
        generalize ot.getD [] = ol at *
        clear hor hoo x0 x1 hbz hBp k0 kg kx
        have z0 := Blk.n0 ko
        have z1 := Blk.n1 ko
        have z2 := Blk.n2 ko
        have z3 := Blk.n3 ko
        have f0 := ko.frozen 0
        have f1 := ko.frozen 1
        have f2 := ko.frozen 2
        have f3 := ko.frozen 3
        have hBo := hide (setO_below (a := (.int .i64 1)) (b := (.slice Av (intsN ol).length cv)) (c := (.slice none 0 0)) (d := (.slice none 0 0)) hBz (show w.heap.size ≤ w.heap.size + 1 by omega))
        have hTo := setO_ty (n0 := w.heap.size) (a := (.int .i64 1)) (b := (.slice Av (intsN ol).length cv)) (c := (.slice none 0 0)) (d := (.slice none 0 0)) ko (by omega)
        have kz := setO_blk (a := (.int .i64 1)) (b := (.slice Av (intsN ol).length cv)) (c := (.slice none 0 0)) (d := (.slice none 0 0)) ko
        have y0 := kz.cell 0
        have y1 := kz.cell 1
        have y2 := kz.cell 2
        have y3 := kz.cell 3
        unfold setO at y0 y1 y2 y3
        simp only [gA, gZ, gS] at y0 y1 y2 y3
        have oM := hide (show MkO _ w.heap.size (.slice Ao path.length co) path from hTo.ownR MkR.stab hO5 (by decide))
        have oW := hide (hTo.own oV (by decide))
        clear hO5 oV ko kz hTo hBz
        go_wp2_with fail
        repeat' (first | go_values | go_skip | go_guarded | go_step | go_upon)
        try simp only [Exit.inBlock, Exit.then]
        refine bodyPost_ret (v := .tuple #[(.slice Ao path.length co), .agg #[(.int .i64 1), (.slice Av (intsN ol).length cv), (.slice none 0 0), (.slice none 0 0)]]) (by simp [results, Tryz.results45, go_sem, y0, y1, y2, y3]) rfl ?_
        exact ⟨_, _, rfl, by rw [hi4.out]; exact oM.out, by rw [hi4.out]; exact ⟨_, _, _, rfl, oW.out, NodO.nil _ _, FctO.nil _ _⟩, hBo.out⟩
      | some pp =>
        obtain rfl : q = true := hq.symm
        obtain rfl : pp = ⟨pk, pa, pb⟩ := hp
        have hi4 := hide (hi3.out.1 _ rfl)
        clear hi3 hgf1 hq k0 kg kx
        obtain ⟨Wb, hWb⟩ : ∃ Wb, Wp.alloc (.cells #[.int .i64 pk, .int .i64 pa, .int .i64 pb, .bool false, .slice none 0 0] 157) = Wb := ⟨_, rfl⟩
        have hbb := below_allocEq (Below.refl Wp.heap.size Wp) hWb (Nat.le_refl _)
        have hBb := hBp.trans (hbb.mono hBp.size)
        have ko1 := ko.below hbb ko.lt
        have hOb := hide (hO5.below hbb)
        have kb := Blk.newEq hWb
        have hsb := hBb.size
        have hrow : MkR Wb (TyK w.heap.size [114, 3] Wb) (#[Value.int .i64 pk, .int .i64 pa, .int .i64 pb, .bool false, .slice none 0 0] : Array Value).toList ⟨⟨pk, pa, pb⟩, false, []⟩ := ⟨none, 0, rfl, NodS.nil _ _ _ _⟩
        clear hbb hBp ko hO5 kp
        go_wp2_with (at_builtin; go_loud (refine wpList_pushT MkR.stab mk_one rfl (.tmp 72) (.tmp 75) 80 rfl w.heap.size 157 im _ 5 56 Tryz.underlying80 him hm1 hm2 hm3 rfl (by decide) [114, 3] (by decide) (.slice Ao path.length co) path rfl hOb.out _ _ ⟨⟨pk, pa, pb⟩, false, []⟩ kb rfl hrow rfl (by have := hrl.out; unfold maxLen; omega) (by have := hrl.out; omega) hsb w.heap.size (Nat.le_refl _) ?_); intro v6 w6 hO6 hT6 hat6; have ko := hT6.blk ko1 (by decide); obtain ⟨A6, c6, rfl⟩ := OwnR.form hO6; have hB6 := hBb.trans hT6.below; have z0 := ko.cell 0; have z1 := ko.cell 1; have z2 := ko.cell 2; have z3 := ko.cell 3; have f0 := ko.frozen 0; have f1 := ko.frozen 1; have f2 := ko.frozen 2; have f3 := ko.frozen 3; simp only [gA, gZ, gS] at z0 z1 z2 z3)
        have hBo := hide (setO_below (a := (.int .i64 0)) (b := (.slice none 0 0)) (c := (.slice none 0 0)) (d := (.slice none 0 0)) hB6 (show w.heap.size ≤ w.heap.size + 1 by omega))
        have hTo := setO_ty (n0 := w.heap.size) (a := (.int .i64 0)) (b := (.slice none 0 0)) (c := (.slice none 0 0)) (d := (.slice none 0 0)) ko (by omega)
        have kz := setO_blk (a := (.int .i64 0)) (b := (.slice none 0 0)) (c := (.slice none 0 0)) (d := (.slice none 0 0)) ko
        have y0 := kz.cell 0
        have y1 := kz.cell 1
        have y2 := kz.cell 2
        have y3 := kz.cell 3
        unfold setO at y0 y1 y2 y3
        simp only [gA, gZ, gS] at y0 y1 y2 y3
        have oM := hide (show MkO _ w.heap.size (.slice A6 (path ++ [(⟨⟨pk, pa, pb⟩, false, []⟩ : Mk)]).length c6) (path ++ [⟨⟨pk, pa, pb⟩, false, []⟩]) from hTo.ownR MkR.stab hO6 (by decide))
        rw [List.length_append, List.length_singleton] at oM
        refine bodyPost_ret (v := .tuple #[.slice A6 (path.length + 1) c6, .agg #[.int .i64 0, .slice none 0 0, .slice none 0 0, .slice none 0 0]]) (by simp [results, Tryz.results45, go_sem, y0, y1, y2, y3]) rfl ?_
        exact ⟨_, _, rfl, by rw [hi4.out]; exact oM.out, by rw [hi4.out]; exact ⟨_, _, _, rfl, World.ownsRow_nil _ _ _ _, NodO.nil _ _, FctO.nil _ _⟩, hBo.out⟩
    · have nF : 0 < FL.length := List.length_pos_iff.2 hFz
      have g1 : decide ((FL.length : Int) > 0) = true := decide_eq_true (by omega)
      have g2 : decide (0 < FL.length) = true := decide_eq_true (by omega)
      have hi3 := hide (hi2.out.1 hFz)
      replace nF := hide nF
      clear hi2 hFz hgf1 hop1 kg kx hb58
      obtain ⟨Wn, hWn⟩ : ∃ Wn, w8.alloc (.cells #[.int .i64 0, .int .i64 0, .int .i64 0, .slice AF FL.length cF] 114) = Wn := ⟨_, rfl⟩
      have hbn := below_allocEq (Below.refl w8.heap.size w8) hWn (Nat.le_refl _)
      have hBn := hB8.trans (hbn.mono hB8.size)
      have ko1 := ko.below hbn ko.lt
      have hOn := hO5.below hbn
      have oFn : OwnI Wn w.heap.size (.slice AF FL.length cF) FL := own_below oF2 hbn (Nat.le_refl _)
      have hNp : NodP Wn w.heap.size (.slice (some ⟨w8.heap.size, 0, none⟩) 1 1) [⟨zeroC, FL⟩] := (nodO_one (x := zeroC) (Blk.newEq hWn) hB8.size oFn).p
      have hbk1 := hide (hbk.out Wn hBn (some ⟨w8.heap.size, 0, none⟩) 1 [⟨zeroC, FL⟩] hOn hNp rfl (fun n hn => by
        rw [List.mem_singleton] at hn
        subst hn
        exact hfcl))
      obtain ⟨rr, hrr⟩ : ∃ rr, backP H level L path.reverse [⟨zeroC, FL⟩] = rr := ⟨_, rfl⟩
      rw [hrr] at hbk1 hi3
      have hbs := hBn.size
      clear hbk hbn hB8 ko hO5 oF2 hOn oFn hNp k0 hrr hfcl
      go_wp2_with fail
      refine hbk1.out.mono ?_
      rintro e wz ⟨vp, vo, rfl, oM, hS, hTz⟩
      have hBz := hBn.trans hTz.below
      have koz := hTz.blk ko1 (by decide)
      obtain ⟨so, st, sf, rfl, s1, s2, s3⟩ := hS
      obtain ⟨As, cs, rfl⟩ := OwnI.form s1
      obtain ⟨At, ct, rfl⟩ := OwnR.form s2
      obtain ⟨Af, cf, rfl⟩ := OwnR.form s3
      obtain ⟨Ap2, cp2, rfl⟩ := OwnR.form oM
      have hS : SayV wz w.heap.size (.agg #[.int .i64 rr.2.said, .slice As (intsN rr.2.order).length cs, .slice At rr.2.tree.length ct, .slice Af rr.2.facts.length cf]) rr.2 := ⟨_, _, _, rfl, s1, s2, s3⟩
      generalize hrd : rr.2.said = rd at *
      generalize hro : (intsN rr.2.order).length = ro at *
      generalize hrt : rr.2.tree.length = rt at *
      generalize hrf : rr.2.facts.length = rf at *
      generalize hrp : rr.1.length = rpl at *
      clear hbk1 s1 s2 s3 hrd hro hrt hrf hrp hBn ko1
      have z0 := Blk.n0 koz
      have z1 := Blk.n1 koz
      have z2 := Blk.n2 koz
      have z3 := Blk.n3 koz
      have f0 := koz.frozen 0
      have f1 := koz.frozen 1
      have f2 := koz.frozen 2
      have f3 := koz.frozen 3
      have hBo := hide (setO_below (a := (.int .i64 rd)) (b := (.slice As ro cs)) (c := (.slice At rt ct)) (d := (.slice Af rf cf)) hBz (show w.heap.size ≤ w.heap.size + 1 by omega))
      have hTo := setO_ty (n0 := w.heap.size) (a := (.int .i64 rd)) (b := (.slice As ro cs)) (c := (.slice At rt ct)) (d := (.slice Af rf cf)) koz (by omega)
      have kz := setO_blk (a := (.int .i64 rd)) (b := (.slice As ro cs)) (c := (.slice At rt ct)) (d := (.slice Af rf cf)) koz
      have y0 := kz.cell 0
      have y1 := kz.cell 1
      have y2 := kz.cell 2
      have y3 := kz.cell 3
      unfold setO at y0 y1 y2 y3
      simp only [gA, gZ, gS] at y0 y1 y2 y3
      have oM2 := hide (show MkO _ w.heap.size (.slice Ap2 rpl cp2) rr.1 from hTo.ownR MkR.stab oM (by decide))
      have oS := hide (SayV.setO (n0 := w.heap.size) (a := .int .i64 rd) (b := .slice As ro cs) (c := .slice At rt ct) (d := .slice Af rf cf) hS koz (by omega))
      clear hS oM koz kz hTo hBz hTz
      go_wp2_with fail
      repeat' (first | go_values | go_skip | go_guarded | go_step | go_upon)
      try simp only [Exit.inBlock, Exit.then]
      refine bodyPost_ret (v := .tuple #[(.slice Ap2 rpl cp2), .agg #[(.int .i64 rd), (.slice As ro cs), (.slice At rt ct), (.slice Af rf cf)]]) (by simp [results, Tryz.results45, go_sem, y0, y1, y2, y3]) rfl ?_
      exact ⟨_, _, rfl, by rw [hi3.out]; exact oM2.out, by rw [hi3.out]; exact oS.out, hBo.out⟩
end Go.Proofs.YtjomijnbnbideaaGreatDoor
