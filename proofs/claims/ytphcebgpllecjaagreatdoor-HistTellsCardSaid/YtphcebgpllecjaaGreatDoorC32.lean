/-
  Walks: layer 7: source.Hist.
-/
import Derived.Test.YtphcebgpllecjaaGreatDoorC28
import Derived.Test.YtphcebgpllecjaaGreatDoorC30
import Derived.Test.YtphcebgpllecjaaGreatDoorC31
set_option linter.unusedVariables false
set_option linter.unusedSimpArgs false
namespace Go.Proofs.YtphcebgpllecjaaGreatDoor
open Go.RowKit Go.Inq
set_option maxHeartbeats 8000000
attribute [local go_sem ↓] Go.wp_at_zero Go.wp_at_succ

theorem infoF7 : (Tryz.prog.info? 86).map (fun i => (i.zero, i.size, i.bytes)) = some (some (.agg #[.slice none 0 0, .slice none 0 0]), 2, 48) := by kernel_rfl
set_option maxRecDepth 100000 in
theorem hist7_any (l : List Tx) (A : Option Addr) (c : Nat) (w : World) (h : TxS w (Old w) (.slice A l.length c) l) (hs : SmallT l) :
    Calls Tryz.prog 15 #[.slice A l.length c] w (HistOut (histR l) w) := by
  obtain ⟨ix, hix, hix1, hix2, hix3⟩ := info_parts infoX7
  obtain ⟨ii, hii, hii1, hii2, hii3⟩ := info_parts infoI7
  obtain ⟨it, hit, hit1, hit2, hit3⟩ := info_parts infoT7
  have hn := hs.1
  have hmm := @run_makeMap Tryz.prog
  have k0 : Blk (w.alloc (.cells #[.slice none 0 0] 24)) w.heap.size 24 #[.slice none 0 0] := Blk.new _ _ _
  have hA : Below w.heap.size w (w.alloc (.cells #[.slice none 0 0] 24)) := (Below.refl _ _).alloc (Nat.le_refl _) _
  by_cases hm : 32 < l.length
--{ 2
  · have hr := hide (histR_many hm)
    have hm2 : (32 : Int) < (l.length : Int) := by omega
    go_enter Tryz.func15, Tryz.ntmps15
    go_wp2_with fail
    refine (none_any _ _ _).mono ?_
    rintro e w2 ⟨rfl, hb2⟩
    have k1 := k0.below hb2 k0.lt
    have y0 := k1.frozen 0
    have c0 := k1.cell 0
    simp only [List.getElem?_toArray, List.getElem?_cons_zero] at c0
    dsimp only
    repeat' (first | go_values | go_skip | go_guarded | go_step | go_upon)
    refine bodyPost_ret (results_hist rfl rfl (k1.set_ 0 _)) rfl ?_
    exact ⟨.slice none 0 0, by rw [hr.out]; rfl, by rw [hr.out]; exact TxnS.nil _ _ _ _, (hA.trans (hb2.mono hA.size)).setCell (p := ⟨w.heap.size, 0, none⟩) (Nat.le_refl _) _⟩
--} 2
  · have hm2 : ¬ (32 : Int) < (l.length : Int) := by omega
    have hmay := hide (fun i => histR_may (l := l) hm (i := i))
    have hunl := hide (fun h1 i => histR_unlike (l := l) hm h1 (i := i))
    have hlok := hide (fun h1 h2 i => histR_look (l := l) hm h1 h2 (i := i))
    have hone := hide (fun h1 h2 h3 i => histR_one (l := l) hm h1 h2 h3 (i := i))
    have hgd := hide (fun h1 h2 h3 h4 => histR_good (l := l) hm h1 h2 h3 h4)
    have hsm := hide hs.2
    have hTx := hide (fun (W : World) (hW : Below w.heap.size w W) => TxS.keep h (Agree.below hW fun _ h => h) (fun b hb => Nat.lt_of_lt_of_le hb hW.size))
    clear hs hm
    go_enter Tryz.func15, Tryz.ntmps15
    go_wp2_with fail
    generalize w.alloc (.cells #[.slice none 0 0] 24) = W0 at *
    go_loopw [6, 7, 45] (fun _ _ s45 wr => ∃ i : Nat, i ≤ l.length ∧ s45 = .int .i64 i ∧ Blk wr w.heap.size 24 #[.slice none 0 0] ∧ Hid (∀ j, j < i → mayAt l j = 0) ∧ Below w.heap.size w wr) (fun _ _ s45 _ => l.length - (intOf s45).toNat)
    case atStart => exact ⟨0, Nat.zero_le _, by go_num, k0, fun j h => absurd h (by omega), hA⟩
    case round =>
      obtain ⟨i, hi, rfl, k1, hall1, hb⟩ := hrel
      clear k0 hA
      have hi1 : (0 : Int) ≤ (i : Int) := Int.natCast_nonneg _
      by_cases hlt : i < l.length
--{ 6
      · have hi2 : (i : Int) < (l.length : Int) := by omega
        obtain ⟨b, off, A', c', rfl, hbK, d0, d1, d2, d3, hev⟩ := TxS.at_ (hTx.out wr hb) hlt
        have hop := may_at hlt
        have hls := hsm.out _ (List.getElem_mem hlt)
        have hbd := hide (fun hb => hmay.out i hlt hall1.out hb)
        have hst : mayAt l i = 0 → ∀ j, j < i + 1 → mayAt l j = 0 := fun g j hj => by
          by_cases hji : j = i
          · subst hji; exact g
          · exact hall1.out j (by omega)
        generalize mayAt l i = me at *
        generalize l[i] = t at *
        obtain ⟨ts, td, tf, xo⟩ := t
        dsimp only at *
        have hbx : Below wr.heap.size wr (wr.alloc (.cells #[.int .i64 ts, .bool td, .int .i64 tf, .slice A' xo.length c'] 49)) := (Below.refl _ _).alloc (Nat.le_refl _) _
        have k2 := k1.below hbx k1.lt
        have hb2 := hb.trans (hbx.mono hb.size)
        have hmy := may7_any ⟨ts, td, tf, xo⟩ A' c' _ (EvS.below hev hbx) (by dsimp only; omega)
        go_wp2_with fail
        refine hmy.mono ?_
        rintro e w2 ⟨rfl, hb4⟩
        have k3 := k2.below hb4 k2.lt
        have hb3 := hb2.trans (hb4.mono hb2.size)
        clear hb4 k1 k2 hmy hev d0 d1 d2 d3 hbx hb2
        cases hq : mayT ⟨ts, td, tf, xo⟩ with
        | true =>
          rw [if_pos hq] at hop
          have hst2 := hide (hst hop)
          clear hbd hst hop hq
          go_wp2
          go_roundw
          case rel => exact ⟨i + 1, by omega, by go_num, k3, hst2, hb3⟩
          case measure => simp [intOf]; omega
        | false =>
          rw [if_neg (by simp [hq])] at hop
          have hr := hbd.out (by rw [hop]; decide)
          rw [hop] at hr
          replace hr := hide hr
          clear hbd hst hop hq
          go_wp2_with fail
          refine (none_any _ _ _).mono ?_
          rintro e w5 ⟨rfl, hb5⟩
          have k4 := k3.below hb5 k3.lt
          have y0 := k4.frozen 0
          have c0 := k4.cell 0
          simp only [List.getElem?_toArray, List.getElem?_cons_zero] at c0
          dsimp only
          repeat' (first | go_values | go_skip | go_guarded | go_step | go_upon)
          refine bodyPost_ret (results_hist rfl rfl (k4.set_ 0 _)) rfl ?_
          exact ⟨.slice none 0 0, by rw [hr.out]; rfl, by rw [hr.out]; exact TxnS.nil _ _ _ _, (hb3.trans (hb5.mono hb3.size)).setCell (p := ⟨w.heap.size, 0, none⟩) (Nat.le_refl _) _⟩
--} 6
      · have : i = l.length := by omega
        subst this
        go_wp2_with fail
        have hm0 : MapF encW (wr.alloc (.map #[] 0)) wr.heap.size (byF l 0) := (MapF.new wr).same fun x => (byF_zero l x).symm
        have k2 := k1.alloc (.map #[] 0)
        have hb2 := hb.alloc hb.size (.map #[] 0)
        have hgm : w.heap.size < wr.heap.size := k1.lt
        generalize wr.alloc (.map #[] 0) = WM at *
        generalize wr.heap.size = gm at *
        replace hunl := hide (hunl.out hall1.out)
        replace hlok := hide (hlok.out hall1.out)
        replace hone := hide (hone.out hall1.out)
        replace hgd := hide (hgd.out hall1.out)
        clear hall1 k1 hb hmay
        go_loopw [9, 10, 11, 12, 13, 63] (fun s9 _ _ _ _ s63 wq => ∃ i : Nat, i ≤ l.length ∧ s63 = .int .i64 i ∧ s9 = .int .i64 (numR7 l i) ∧ Blk wq w.heap.size 24 #[.slice none 0 0] ∧ MapF encW wq gm (byF l i) ∧ Hid (∀ j, j < i → unlikeR l j = 0) ∧ Below w.heap.size w wq) (fun _ _ _ _ _ s63 _ => l.length - (intOf s63).toNat)
        case atStart => exact ⟨0, Nat.zero_le _, by go_num, by go_num, k2, hm0, fun j h => absurd h (by omega), hb2⟩
        case round =>
          clear k2 hm0 hb2 hi hi1 hlt
          obtain ⟨i, hi, rfl, rfl, k1, hmf, hall2, hb⟩ := hrel
          have hi1 : (0 : Int) ≤ (i : Int) := Int.natCast_nonneg _
          by_cases hlt : i < l.length
--{ 10
          · have hi2 : (i : Int) < (l.length : Int) := by omega
            obtain ⟨b, off, A', c', rfl, hbK0, e0, e1, e2, e3, hev⟩ := TxS.at_ h hlt
            have d0 := (hb.cell (p := ⟨b, off + i * 4, none⟩) hbK0).trans e0
            have d1 := (hb.cell (p := ⟨b, off + i * 4 + 1, none⟩) hbK0).trans e1
            have d2 := (hb.cell (p := ⟨b, off + i * 4 + 2, none⟩) hbK0).trans e2
            have d3 := (hb.cell (p := ⟨b, off + i * 4 + 3, none⟩) hbK0).trans e3
            have hev0 := hide hev
            have d0' := hbK0
            clear e0 e1 e2 e3
            have hls := hsm.out _ (List.getElem_mem hlt)
            have hbd := hide (fun hb => hunl.out i hlt hall2.out hb)
            have hst : unlikeR l i = 0 → ∀ j, j < i + 1 → unlikeR l j = 0 := fun g j hj => by
              by_cases hji : j = i
              · subst hji; exact g
              · exact hall2.out j (by omega)
            have hop := hide (noteR_op hlt)
            have hnx := hide (fun hu => byF_next hlt hu)
            have hns := hide (num7_step hlt)
            have hnl := num7_le l i
            have hwo : writerOf l i l[i] = ((i : Int), if l[i].done = true then (numR7 l i : Int) else -1) := rfl
            have hB := hide (fun x => byF_some l i x)
            generalize unlikeR l i = ue at *
            generalize l[i] = t at *
            obtain ⟨ts, td, tf, xo⟩ := t
            dsimp only at *
            generalize hnm : numR7 l i = nm at *
            replace hnm := hide hnm
            cases td with
            | false =>
              replace hwo : writerOf l i ⟨ts, false, tf, xo⟩ = ((i : Int), (-1)) := hwo
              rw [hwo] at hnx
              have hbx : Below wr.heap.size wr ((wr.alloc (.cells #[.int .i64 ts, .bool false, .int .i64 tf, .slice A' xo.length c'] 49)).alloc (.cells #[.int .i64 i, .int .i64 (-1)] 81)) := ((Below.refl _ _).alloc (Nat.le_refl _) _).alloc (by simp) _
              have k2 := k1.below hbx k1.lt
              have hb2 := hb.trans (hbx.mono hb.size)
              have hm2' := hmf.below hbx hmf.lt
              have hgl := hm2'.lt
              have hevX : EvS ((wr.alloc (.cells #[.int .i64 ts, .bool false, .int .i64 tf, .slice A' xo.length c'] 49)).alloc (.cells #[.int .i64 i, .int .i64 (-1)] 81)) (fun b => b < ((wr.alloc (.cells #[.int .i64 ts, .bool false, .int .i64 tf, .slice A' xo.length c'] 49)).alloc (.cells #[.int .i64 i, .int .i64 (-1)] 81)).heap.size ∧ b ≠ gm) (.slice A' xo.length c') xo := EvS.keep (EvS.keep hev0.out (Agree.below hb2 fun b h => h) (fun _ h => h)) (Agree.refl _ _) (fun b h => ⟨Nat.lt_of_lt_of_le h hb2.size, by have : b < w.heap.size := h; omega⟩)
              have hnt := note_any gm (byF l i) (sumW l i) i (-1) ⟨ts, false, tf, xo⟩ A' c' _ hm2' hB.out hevX (by dsimp only; omega)
              dsimp only at hnt
              rw [hop.out] at hnt
              clear hbx k1 hb hmf hev hm2' hevX hB d0' hwo hop
              go_wp2_with fail
              generalize ((wr.alloc (.cells #[.int .i64 ts, .bool false, .int .i64 tf, .slice A' xo.length c'] 49)).alloc (.cells #[.int .i64 i, .int .i64 (-1)] 81)) = WX at *
              refine hnt.mono ?_
              rintro e w2 ⟨rfl, hmn, hbn, -⟩
              have k3 := k2.below hbn hgm
              have hb3 := hb2.trans (hbn.mono (Nat.le_of_lt hgm))
              clear k2 hb2 hnt hbn
              by_cases hue : ue = 0
              · have hst2 := hide (hst hue)
                have hub : (ue != 0) = false := by simpa using hue
                have hm3 := (hmn hue).same fun x => hnx.out hue x
                have hn2 : Hid (numR7 l (i + 1) = nm + 0) := hns.out
                clear hbd hst hue hmn hnx hns
                go_wp2
                go_roundw
                case rel => exact ⟨i + 1, by omega, by go_num, by rw [hn2.out]; go_num, k3, hm3, hst2, hb3⟩
                case measure => simp [intOf]; omega
              · have hr := hide (hbd.out hue)
                have hub : (ue != 0) = true := by simpa using hue
                clear hbd hst hue hmn hnx hns
                go_wp2_with fail
                refine (none_any _ _ _).mono ?_
                rintro e w5 ⟨rfl, hb5⟩
                have k4 := k3.below hb5 k3.lt
                have y0 := k4.frozen 0
                have c0 := k4.cell 0
                simp only [List.getElem?_toArray, List.getElem?_cons_zero] at c0
                dsimp only
                repeat' (first | go_values | go_skip | go_guarded | go_step | go_upon)
                refine bodyPost_ret (results_hist rfl rfl (k4.set_ 0 _)) rfl ?_
                exact ⟨.slice none 0 0, by rw [hr.out]; rfl, by rw [hr.out]; exact TxnS.nil _ _ _ _, (hb3.trans (hb5.mono hb3.size)).setCell (p := ⟨w.heap.size, 0, none⟩) (Nat.le_refl _) _⟩
            | true =>
              replace hwo : writerOf l i ⟨ts, true, tf, xo⟩ = ((i : Int), (nm : Int)) := hwo
              rw [hwo] at hnx
              have hbx : Below wr.heap.size wr ((wr.alloc (.cells #[.int .i64 ts, .bool true, .int .i64 tf, .slice A' xo.length c'] 49)).alloc (.cells #[.int .i64 i, .int .i64 nm] 81)) := ((Below.refl _ _).alloc (Nat.le_refl _) _).alloc (by simp) _
              have k2 := k1.below hbx k1.lt
              have hb2 := hb.trans (hbx.mono hb.size)
              have hm2' := hmf.below hbx hmf.lt
              have hgl := hm2'.lt
              have hevX : EvS ((wr.alloc (.cells #[.int .i64 ts, .bool true, .int .i64 tf, .slice A' xo.length c'] 49)).alloc (.cells #[.int .i64 i, .int .i64 nm] 81)) (fun b => b < ((wr.alloc (.cells #[.int .i64 ts, .bool true, .int .i64 tf, .slice A' xo.length c'] 49)).alloc (.cells #[.int .i64 i, .int .i64 nm] 81)).heap.size ∧ b ≠ gm) (.slice A' xo.length c') xo := EvS.keep (EvS.keep hev0.out (Agree.below hb2 fun b h => h) (fun _ h => h)) (Agree.refl _ _) (fun b h => ⟨Nat.lt_of_lt_of_le h hb2.size, by have : b < w.heap.size := h; omega⟩)
              have hnt := note_any gm (byF l i) (sumW l i) i (nm : Int) ⟨ts, true, tf, xo⟩ A' c' _ hm2' hB.out hevX (by dsimp only; omega)
              dsimp only at hnt
              rw [hop.out] at hnt
              clear hbx k1 hb hmf hev hm2' hevX hB d0' hwo hop
              go_wp2_with fail
              generalize ((wr.alloc (.cells #[.int .i64 ts, .bool true, .int .i64 tf, .slice A' xo.length c'] 49)).alloc (.cells #[.int .i64 i, .int .i64 nm] 81)) = WX at *
              refine hnt.mono ?_
              rintro e w2 ⟨rfl, hmn, hbn, -⟩
              have k3 := k2.below hbn hgm
              have hb3 := hb2.trans (hbn.mono (Nat.le_of_lt hgm))
              clear k2 hb2 hnt hbn
              by_cases hue : ue = 0
              · have hst2 := hide (hst hue)
                have hub : (ue != 0) = false := by simpa using hue
                have hm3 := (hmn hue).same fun x => hnx.out hue x
                have hn2 : Hid (numR7 l (i + 1) = nm + 1) := hns.out
                clear hbd hst hue hmn hnx hns
                go_wp2
                go_roundw
                case rel => exact ⟨i + 1, by omega, by go_num, by rw [hn2.out]; go_num, k3, hm3, hst2, hb3⟩
                case measure => simp [intOf]; omega
              · have hr := hide (hbd.out hue)
                have hub : (ue != 0) = true := by simpa using hue
                clear hbd hst hue hmn hnx hns
                go_wp2_with fail
                refine (none_any _ _ _).mono ?_
                rintro e w5 ⟨rfl, hb5⟩
                have k4 := k3.below hb5 k3.lt
                have y0 := k4.frozen 0
                have c0 := k4.cell 0
                simp only [List.getElem?_toArray, List.getElem?_cons_zero] at c0
                dsimp only
                repeat' (first | go_values | go_skip | go_guarded | go_step | go_upon)
                refine bodyPost_ret (results_hist rfl rfl (k4.set_ 0 _)) rfl ?_
                exact ⟨.slice none 0 0, by rw [hr.out]; rfl, by rw [hr.out]; exact TxnS.nil _ _ _ _, (hb3.trans (hb5.mono hb3.size)).setCell (p := ⟨w.heap.size, 0, none⟩) (Nat.le_refl _) _⟩
--} 10
          · have : i = l.length := by omega
            subst this
            obtain ⟨jx, hjx, hjx1, hjx2, hjx3⟩ := info_parts infoF7
            have hmk := hide (fun (W : World) => run_make (P := Tryz.prog) W 83 86 jx _ Tryz.underlying83 hjx hjx1 .i64 .i64 (l.length : Int) (l.length : Int) (by omega) (Int.le_refl _) (by rw [hjx3]; omega) (by omega))
            simp only [Int.toNat_natCast, hjx2] at hmk
            have hmk2 := hmk.out wr
            have hF0 : Faces (wr.alloc (.cells (madeCells #[.slice none 0 0, .slice none 0 0] (l.length * 2)) 86)) wr.heap.size l.length 86 (fun b => wr.heap.size < b ∧ b < (wr.alloc (.cells (madeCells #[.slice none 0 0, .slice none 0 0] (l.length * 2)) 86)).heap.size) (faceTo l 0) := (Faces.new wr l.length _ _).same fun j hj => by unfold faceTo; rw [if_neg (by omega)]
            have k2 := k1.alloc (.cells (madeCells #[.slice none 0 0, .slice none 0 0] (l.length * 2)) 86)
            have hm2 : MapF encW (wr.alloc (.cells (madeCells #[.slice none 0 0, .slice none 0 0] (l.length * 2)) 86)) gm (byF l l.length) := hmf.agree (Below.heap_alloc _ _ _ hmf.lt)
            have hb2 := hb.alloc hb.size (.cells (madeCells #[.slice none 0 0, .slice none 0 0] (l.length * 2)) 86)
            have hsF : wr.heap.size < (wr.alloc (.cells (madeCells #[.slice none 0 0, .slice none 0 0] (l.length * 2)) 86)).heap.size := by simp
            have hgF := hmf.lt
            replace hlok := hide (hlok.out hall2.out)
            replace hone := hide (hone.out hall2.out)
            replace hgd := hide (hgd.out hall2.out)
            have hall2' := hide hall2.out
            clear hunl hall2 hmk k1 hmf hb hjx hjx1 hjx2 hjx3
            go_wp2_with fail
            generalize wr.alloc (.cells (madeCells #[.slice none 0 0, .slice none 0 0] (l.length * 2)) 86) = WF at *
            generalize wr.heap.size = gF at *
            clear hmk2
            go_loopw [15, 16, 17, 18, 19, 95] (fun _ _ _ _ _ s95 wq => ∃ i : Nat, i ≤ l.length ∧ s95 = .int .i64 i ∧ Blk wq w.heap.size 24 #[.slice none 0 0] ∧ MapF encW wq gm (byF l l.length) ∧ Faces wq gF l.length 86 (fun b => gF < b ∧ b < wq.heap.size) (faceTo l i) ∧ Hid (∀ j, j < i → lookAt l j = 0) ∧ Below w.heap.size w wq ∧ gF < wq.heap.size) (fun _ _ _ _ _ s95 _ => l.length - (intOf s95).toNat)
            case atStart => exact ⟨0, Nat.zero_le _, by go_num, k2, hm2, hF0, fun j h => absurd h (by omega), hb2, hsF⟩
            case round =>
              clear k2 hm2 hF0 hb2 hsF hi hi1 hlt
              obtain ⟨i, hi, rfl, k1, hmf, hfc, hall3, hb, hsz⟩ := hrel
              have hi1 : (0 : Int) ≤ (i : Int) := Int.natCast_nonneg _
              by_cases hlt : i < l.length
--{ 14 three
              · have hi2 : (i : Int) < (l.length : Int) := by omega
                obtain ⟨b, off, A', c', rfl, hbK, d0, d1, d2, d3, hev⟩ := TxS.at_ (hTx.out wr hb) hlt
                have hop := look_at hlt
                have hfa := faceAt_at hlt
                have hls := hsm.out _ (List.getElem_mem hlt)
                have hbd := hide (fun hb => hlok.out i hlt hall3.out hb)
                have hst : lookAt l i = 0 → ∀ j, j < i + 1 → lookAt l j = 0 := fun g j hj => by
                  by_cases hji : j = i
                  · subst hji; exact g
                  · exact hall3.out j (by omega)
                have hfn := hide (faceTo_next l i)
                have hfi : faceTo l i i = ([], []) := by unfold faceTo; rw [if_neg (by omega)]
                replace hfi := hide hfi
                generalize lookAt l i = le at *
                generalize faceAt l i = fa at *
                generalize l[i] = t at *
                obtain ⟨ts, td, tf, xo⟩ := t
                dsimp only at *
                have hlk := fun W hW => look_any ts tf td A' c' xo W hW (by omega)
                unfold LookPost at hlk
                generalize lookR xo = lk at *
                obtain ⟨lr, lw, lat, ler⟩ := lk
                dsimp only at *
                have hbx : Below wr.heap.size wr (wr.alloc (.cells #[.int .i64 ts, .bool td, .int .i64 tf, .slice A' xo.length c'] 49)) := (Below.refl _ _).alloc (Nat.le_refl _) _
                have k2 := k1.below hbx k1.lt
                have hb2 := hb.trans (hbx.mono hb.size)
                have hm2 := hmf.below hbx hmf.lt
                have hfc2 : Faces (wr.alloc (.cells #[.int .i64 ts, .bool td, .int .i64 tf, .slice A' xo.length c'] 49)) gF l.length 86 (fun b => gF < b ∧ b < (wr.alloc (.cells #[.int .i64 ts, .bool td, .int .i64 tf, .slice A' xo.length c'] 49)).heap.size) (faceTo l i) := hfc.keep (Agree.below hbx fun b h => h.2) (hbx.block _ hsz) (fun b h => ⟨h.1, Nat.lt_of_lt_of_le h.2 hbx.size⟩)
                have hsz2 := Nat.lt_of_lt_of_le hsz hbx.size
                have hlk2 := hlk _ (EvS.below hev hbx)
                clear hbx k1 hmf hfc hb hlk hev hsz
                cases td with
                | false =>
                  rw [if_neg (by simp)] at hop hfa
                  have hst2 := hide (hst hop)
                  have hfc3 := hfc2.same (F' := faceTo l (i + 1)) fun j hj => by
                    rw [hfn.out]
                    by_cases hji : j = i
                    · subst hji; rw [if_pos rfl, hfi.out, hfa]
                    · rw [if_neg hji]
                  clear hfc2 hbd hst hop hlk2 hfn hfi hfa
                  go_wp2
                  go_roundw
                  case rel => exact ⟨i + 1, by omega, by go_num, k2, hm2, hfc3, hst2, hb2, hsz2⟩
                  case measure => simp [intOf]; omega
                | true =>
                  rw [if_pos rfl] at hop hfa
                  go_wp2_with fail
                  generalize wr.alloc (.cells #[.int .i64 ts, .bool true, .int .i64 tf, .slice A' xo.length c'] 49) = WT at *
                  refine hlk2.mono ?_
                  rintro e w2 ⟨rv, wv, rfl, hrv, hwv, hb4⟩
                  obtain ⟨Aw, cw, rfl⟩ := SlR.form hwv
                  obtain ⟨Ar, cr, rfl⟩ := SlR.form hrv
                  (try dsimp only at hrv hwv)
                  clear hlk2 d0 d1 d2 d3
                  have hbf : Below WT.heap.size WT (w2.alloc (.cells #[.slice Ar lr.length cr, .slice Aw lw.length cw] 86)) := hb4.alloc hb4.size _
                  have k3 := k2.below hbf k2.lt
                  have hb3 := hb2.trans (hbf.mono hb2.size)
                  have hm3 := hm2.below hbf hm2.lt
                  have hfc3 : Faces (w2.alloc (.cells #[.slice Ar lr.length cr, .slice Aw lw.length cw] 86)) gF l.length 86 (fun b => gF < b ∧ b < (w2.alloc (.cells #[.slice Ar lr.length cr, .slice Aw lw.length cw] 86)).heap.size) (faceTo l i) := hfc2.keep (Agree.below hbf fun b h => h.2) (hbf.block _ hsz2) (fun b h => ⟨h.1, Nat.lt_of_lt_of_le h.2 hbf.size⟩)
                  have hsz3 := Nat.lt_of_lt_of_le hsz2 hbf.size
                  have hrv3 : ItS (w2.alloc (.cells #[.slice Ar lr.length cr, .slice Aw lw.length cw] 86)) (fun b => gF < b ∧ b < (w2.alloc (.cells #[.slice Ar lr.length cr, .slice Aw lw.length cw] 86)).heap.size) (.slice Ar lr.length cr) lr := ItS.keep hrv (Agree.alloc (K := fun b => WT.heap.size ≤ b ∧ b < w2.heap.size) (fun b h => h.2) _) (fun b h => ⟨by omega, by simp; omega⟩)
                  have hwv3 : ItS (w2.alloc (.cells #[.slice Ar lr.length cr, .slice Aw lw.length cw] 86)) (fun b => gF < b ∧ b < (w2.alloc (.cells #[.slice Ar lr.length cr, .slice Aw lw.length cw] 86)).heap.size) (.slice Aw lw.length cw) lw := ItS.keep hwv (Agree.alloc (K := fun b => WT.heap.size ≤ b ∧ b < w2.heap.size) (fun b h => h.2) _) (fun b h => ⟨by omega, by simp; omega⟩)
                  have hnK := hide (show ¬ (gF < gF ∧ gF < (w2.alloc (.cells #[.slice Ar lr.length cr, .slice Aw lw.length cw] 86)).heap.size) by omega)
                  have hset := hide (hfc3.set_ hlt hnK.out hrv3 hwv3)
                  have y0 := hfc3.frozen (i * 2)
                  have y1 := hfc3.frozen (i * 2 + 1)
                  obtain ⟨q1, q2, q3, q4, q5, q6, q7, q8⟩ := hfc3.at_ hlt
                  obtain ⟨z0, g0⟩ : ∃ z, (w2.alloc (.cells #[.slice Ar lr.length cr, .slice Aw lw.length cw] 86)).cell? ⟨gF, i * 2, none⟩ = some z := ⟨_, q5⟩
                  obtain ⟨z1, g1⟩ : ∃ z, (w2.alloc (.cells #[.slice Ar lr.length cr, .slice Aw lw.length cw] 86)).cell? ⟨gF, i * 2 + 1, none⟩ = some z := ⟨_, q6⟩
                  clear q5 q6 q7 q8 q1 q2 q3 q4
                  have hgw := hide (show w.heap.size ≠ gF by omega)
                  clear hbf k2 hb2 hm2 hfc2 hsz2 hrv hwv hrv3 hwv3 hb4 hfc3
                  by_cases hle : ler = 0
                  · have hst2 := hide (hst (hop.trans hle))
                    have hlb : (ler != 0) = false := by simpa using hle
                    have hfa' := hide hfa
                    clear hbd hst hop hle hfa
                    go_wp2
                    go_roundw
                    case rel =>
                      refine ⟨i + 1, by omega, by go_num, (k3.far (p := ⟨gF, i * 2, none⟩) hgw.out _).far (p := ⟨gF, i * 2 + 1, none⟩) hgw.out _, hm3.agree ?_, ?_, hst2, (hb3.setCell (p := ⟨gF, i * 2, none⟩) (by simp; omega) _).setCell (p := ⟨gF, i * 2 + 1, none⟩) (by simp; omega) _, by simp at hsz3 ⊢; omega⟩
                      · rw [Below.heap_setCell _ _ _ gm (by simp; omega), Below.heap_setCell _ _ _ gm (by simp; omega)]
                      · refine (hset.out.same (F' := faceTo l (i + 1)) fun j hj => ?_).keep (Agree.refl _ _) rfl (fun b h => ⟨h.1, by have := h.2; simp at this ⊢; omega⟩)
                        rw [hfn.out, hfa'.out]
                    case measure => simp [intOf]; omega
                  · have hr := hbd.out (by rw [hop]; exact hle)
                    rw [hop] at hr
                    replace hr := hide hr
                    have hlb : (ler != 0) = true := by simpa using hle
                    clear hbd hst hop hle hset hfa
                    go_wp2_with fail
                    refine (none_any _ _ _).mono ?_
                    rintro e w5 ⟨rfl, hb5⟩
                    have k4 := k3.below hb5 k3.lt
                    have y0 := k4.frozen 0
                    have c0 := k4.cell 0
                    simp only [List.getElem?_toArray, List.getElem?_cons_zero] at c0
                    dsimp only
                    repeat' (first | go_values | go_skip | go_guarded | go_step | go_upon)
                    refine bodyPost_ret (results_hist rfl rfl (k4.set_ 0 _)) rfl ?_
                    exact ⟨.slice none 0 0, by rw [hr.out]; rfl, by rw [hr.out]; exact TxnS.nil _ _ _ _, (hb3.trans (hb5.mono hb3.size)).setCell (p := ⟨w.heap.size, 0, none⟩) (Nat.le_refl _) _⟩
--} 14
              · have : i = l.length := by omega
                subst this
                replace hone := hide (hone.out hall3.out)
                replace hgd := hide (hgd.out hall3.out)
                have hall3' := hide hall3.out
                have hfc' : Faces wr gF l.length 86 (fun b => gF < b ∧ b < wr.heap.size) (faceAt l) := hfc.same fun j hj => faceTo_all hj
                clear hlok hall3 hfc
                go_wp2_with fail
                have hbm : Below wr.heap.size wr (wr.alloc (.map #[] 0)) := (Below.refl _ _).alloc (Nat.le_refl _) _
                have k2 := k1.below hbm k1.lt
                have hm2 := hmf.below hbm hmf.lt
                have hfc2 : Faces (wr.alloc (.map #[] 0)) gF l.length 86 (fun b => b < wr.heap.size) (faceAt l) := hfc'.keep (Agree.below hbm fun b h => h.2) (hbm.block _ hsz) (fun b h => h.2)
                have hb2 := hb.alloc hb.size (.map #[] 0)
                have hl0 : MapF encB (wr.alloc (.map #[] 0)) wr.heap.size (lastO l 0 0) := (MapF.new wr).same fun x => (last_zero l x).symm
                have hsl : wr.heap.size < (wr.alloc (.map #[] 0)).heap.size := by simp
                have hwl : w.heap.size < wr.heap.size := k1.lt
                have hlen := hide (fun (j : Nat) (hj : j < l.length) => show (faceAt l j).2.length ≤ 16 ∧ (faceAt l j).1.length ≤ 16 by
                  rw [faceAt_at hj]
                  by_cases hd : l[j].done = true
                  · rw [if_pos hd]; have := look_len l[j].ops; exact ⟨this.2, this.1⟩
                  · rw [if_neg hd]; exact ⟨by simp, by simp⟩)
                generalize wr.alloc (.map #[] 0) = WL at *
                generalize wr.heap.size = gl at *
                clear k1 hmf hb hfc' hbm
                go_loopw [22, 24, 126] (fun _ _ s126 wq => ∃ i : Nat, i ≤ l.length ∧ s126 = .int .i64 i ∧ MapF encB wq gl (lastO l i 0) ∧ Below gl WL wq ∧ gl < wq.heap.size) (fun _ _ s126 _ => l.length - (intOf s126).toNat)
                case atStart => exact ⟨0, Nat.zero_le _, by go_num, hl0, Below.refl _ _, hsl⟩
                case round =>
                  clear hl0 hsl hi hi1 hlt
                  obtain ⟨i, hi, rfl, hlm, hb, hsz4⟩ := hrel
                  have hi1 : (0 : Int) ≤ (i : Int) := Int.natCast_nonneg _
                  by_cases hlt : i < l.length
--{ 18 four
                  · have hi2 : (i : Int) < (l.length : Int) := by omega
                    obtain ⟨Ar, cr, Aw, cw, f0, f1, -, hws⟩ := hfc2.at_ hlt
                    have e0 := (hb.cell (p := ⟨gF, i * 2, none⟩) hsz).trans f0
                    have e1 := (hb.cell (p := ⟨gF, i * 2 + 1, none⟩) hsz).trans f1
                    have hrd := hide (fun x => last_round l i x)
                    have hnx := hide (fun m (hm : m < (faceAt l i).2.length) x => last_next hm x)
                    have hll := hlen.out i hlt
                    generalize faceAt l i = fa at *
                    obtain ⟨lr, lw⟩ := fa
                    dsimp only at *
                    have hbx : Below wr.heap.size wr (wr.alloc (.cells #[.slice Ar lr.length cr, .slice Aw lw.length cw] 86)) := (Below.refl _ _).alloc (Nat.le_refl _) _
                    have hlm2 := hlm.below hbx hlm.lt
                    have hb3 := hb.trans (hbx.mono (Nat.le_of_lt hsz4))
                    have hsz5 := Nat.lt_of_lt_of_le hsz4 hbx.size
                    clear hlm hb hbx f0 f1
                    go_wp2_with fail
                    generalize wr.alloc (.cells #[.slice Ar lr.length cr, .slice Aw lw.length cw] 86) = WX at *
                    clear e0 e1 hsz4
                    go_loopw [24, 133] (fun _ s133 wq => ∃ m : Nat, m ≤ lw.length ∧ s133 = .int .i64 m ∧ MapF encB wq gl (lastO l i m) ∧ Below gl WL wq ∧ gl < wq.heap.size) (fun _ s133 _ => lw.length - (intOf s133).toNat)
                    case atStart => exact ⟨0, Nat.zero_le _, by go_num, hlm2, hb3, hsz5⟩
                    case round =>
                      clear hlm2 hb3 hsz5
                      obtain ⟨m, hm, rfl, hlm, hb, hsz5⟩ := hrel
                      have hm1 : (0 : Int) ≤ (m : Int) := Int.natCast_nonneg _
                      by_cases hlt2 : m < lw.length
                      · have hm2 : (m : Int) < (lw.length : Int) := by omega
                        obtain ⟨bw, ow, rfl, hbw, v0, v1⟩ := ItS.at_ hws hlt2
                        have e0 := (hb.cell (p := ⟨bw, ow + m * 2, none⟩) hbw).trans v0
                        have e1 := (hb.cell (p := ⟨bw, ow + m * 2 + 1, none⟩) hbw).trans v1
                        have hnx2 := hide (hnx.out m hlt2)
                        generalize lw[m] = y at *
                        have hbx : Below wr.heap.size wr (wr.alloc (.cells #[.int .i64 y.a, .int .i64 y.b] 91)) := (Below.refl _ _).alloc (Nat.le_refl _) _
                        have hlm2 := hlm.below hbx hlm.lt
                        have hb3 := hb.trans (hbx.mono (Nat.le_of_lt hsz5))
                        obtain ⟨es, cl, hupd, hlm3⟩ := hlm2.update itemKey Tryz.underlying89 y true
                        replace hupd : (Instr.mapUpdate 89 (.map (some gl)) (.agg #[.int .i64 y.a, .int .i64 y.b]) (.bool true)).run Tryz.prog (wr.alloc (.cells #[.int .i64 y.a, .int .i64 y.b] 91)) = .ok () (ChangeMaps.setBlock (wr.alloc (.cells #[.int .i64 y.a, .int .i64 y.b] 91)) gl (.map es cl)) := hupd
                        have hlm4 := hlm3.same fun x => (hnx2.out x).symm
                        have hb4 := setBlock_below hb3 (Nat.le_refl _) (.map es cl)
                        have hsz6 : gl < (ChangeMaps.setBlock (wr.alloc (.cells #[.int .i64 y.a, .int .i64 y.b] 91)) gl (.map es cl)).heap.size := by rw [setBlock_size]; simp; omega
                        clear hlm hlm2 hlm3 hb hb3 v0 v1 hbx hsz5
                        go_wp2
                        go_roundw
                        case rel => exact ⟨m + 1, by omega, by go_num, hlm4, hb4, hsz6⟩
                        case measure => simp [intOf]; omega
                      · have : m = lw.length := by omega
                        subst this
                        have hlm4 := hlm.same fun x => (hrd.out x).symm
                        clear hlm
                        go_wp2
                        go_roundw
                        case rel => exact ⟨i + 1, by omega, by go_num, hlm4, hb, hsz5⟩
                        case measure => simp [intOf]; omega
--} 18
                  · have : i = l.length := by omega
                    subst this
                    have hO : Blk (wr.alloc (.cells #[.slice none 0 0] 24)) wr.heap.size 24 #[.slice none 0 0] := Blk.new _ _ _
                    have hbh : Below wr.heap.size wr (wr.alloc (.cells #[.slice none 0 0] 24)) := (Below.refl _ _).alloc (Nat.le_refl _) _
                    have hsH : (wr.alloc (.cells #[.slice none 0 0] 24)).heap.size = wr.heap.size + 1 := by simp
                    have hbh2 : Below gl WL (wr.alloc (.cells #[.slice none 0 0] 24)) := hb.trans (hbh.mono (Nat.le_of_lt hsz4))
                    have hl3 := hlm.below hbh hlm.lt
                    clear hlm hb hi1
                    go_wp2_with fail
                    generalize wr.alloc (.cells #[.slice none 0 0] 24) = WH at *
                    clear hbh
                    generalize wr.heap.size = gH at *
                    have hK := hide (fun (W : World) (hW : Below gH WH W) => k2.below (hbh2.trans (hW.mono (Nat.le_of_lt hsz4))) hwl)
                    have hM := hide (fun (W : World) (hW : Below gH WH W) => hm2.below (hbh2.trans (hW.mono (Nat.le_of_lt hsz4))) (show gm < gl by omega))
                    have hL := hide (fun (W : World) (hW : Below gH WH W) => hl3.below hW hsz4)
                    have hFc := hide (fun (W : World) (hW : Below gH WH W) => hfc2.keep (Agree.below (hbh2.trans (hW.mono (Nat.le_of_lt hsz4))) fun _ h => h) ((hbh2.trans (hW.mono (Nat.le_of_lt hsz4))).block _ hsz) (fun _ h => h))
                    have hB := hide (fun (W : World) (hW : Below gH WH W) => hb2.trans ((hbh2.trans (hW.mono (Nat.le_of_lt hsz4))).mono (Nat.le_of_lt hwl)))
                    have hTL : ∀ n, (txnsTo l n).length ≤ n := fun n => by
                      unfold txnsTo
                      rw [List.length_map]
                      exact Nat.le_trans (List.length_filter_le _ _) (by rw [List.length_take]; omega)
                    replace hTL := hide hTL
                    replace hsH := hide hsH
                    have hgs := hide (show gm < gF ∧ gF < gl ∧ gl < gH ∧ w.heap.size < gm from ⟨hgF, hsz, hsz4, hgm⟩)
                    clear k2 hm2 hl3 hfc2 hb2 hbh2 hgF hsz hgm
                    go_loopw [26, 27, 28, 30, 32, 33, 34, 143] (fun _ _ _ _ _ _ _ s143 wq => ∃ (i : Nat) (v : Value), i ≤ l.length ∧ s143 = .int .i64 i ∧ Blk wq gH 24 #[v] ∧
                      OwnR 3 TxnR wq (fun b => gH + 1 ≤ b ∧ b < wq.heap.size ∧ v.ownBlock ≠ some b) (gH + 1) 38 v (txnsTo l i) ∧ Hid (∀ j, j < i → oneAt l j = 0) ∧ Below gH WH wq ∧ gH + 1 ≤ wq.heap.size) (fun _ _ _ _ _ _ _ s143 _ => l.length - (intOf s143).toNat)
                    case atStart => exact ⟨0, .slice none 0 0, Nat.zero_le _, by go_num, hO, OwnR.nil _ _ _ _ _ _, fun j h => absurd h (by omega), Below.refl _ _, by have := hsH.out; omega⟩
                    case round =>
                      clear hO hsH hi hlt
                      obtain ⟨i, v, hi, rfl, kH, hown, hall4, hb, hsz⟩ := hrel
                      have hi1 : (0 : Int) ≤ (i : Int) := Int.natCast_nonneg _
                      by_cases hlt : i < l.length
--{ 22 six
                      · have hi2 : (i : Int) < (l.length : Int) := by omega
                        obtain ⟨b, off, A', c', rfl, hbK, d0, d1, d2, d3, -⟩ := TxS.at_ (hTx.out wr (hB.out wr hb)) hlt
                        have hop := one_at hlt
                        have hbd := hide (fun hb => hone.out i hlt hall4.out hb)
                        have hst : oneAt l i = 0 → ∀ j, j < i + 1 → oneAt l j = 0 := fun g j hj => by
                          by_cases hji : j = i
                          · subst hji; exact g
                          · exact hall4.out j (by omega)
                        have htk := txnsTo_step hlt
                        have htl := hTL.out i
                        have hfa := faceAt_at hlt
                        have hls := hlen.out i hlt
                        have hFi := hide (fun (W : World) (hW : Below gH WH W) => (hFc.out W hW).at_ hlt)
                        have hbr := hide (fun j => oneR_bad (l := l) (t := l[i]) (i := j))
                        have hgr := hide (oneR_good (l := l) (t := l[i]))
                        generalize faceAt l i = fa at *
                        generalize oneAt l i = oe0 at *
                        generalize oneR l l[i] = ro at *
                        generalize l[i] = t at *
                        generalize txnsTo l i = L at *
                        obtain ⟨ts, td, tf, xo⟩ := t
                        dsimp only at *
                        have hbx : Below wr.heap.size wr (wr.alloc (.cells #[.int .i64 ts, .bool td, .int .i64 tf, .slice A' xo.length c'] 49)) := (Below.refl _ _).alloc (Nat.le_refl _) _
                        cases td with
                        | false =>
--[ 26 given
                          rw [if_neg (by simp)] at hop htk
                          have hst2 := hide (hst hop)
                          replace htk := hide htk
                          have kH2 := kH.below hbx kH.lt
                          have hb2 := hb.trans (hbx.mono (by omega))
                          have hlt2 : ∀ g, v.ownBlock = some g → gH + 1 ≤ g ∧ g < wr.heap.size := fun g hg => hown.lt g hg
                          have hown2 : OwnR 3 TxnR (wr.alloc (.cells #[.int .i64 ts, .bool false, .int .i64 tf, .slice A' xo.length c'] 49)) (fun b => gH + 1 ≤ b ∧ b < (wr.alloc (.cells #[.int .i64 ts, .bool false, .int .i64 tf, .slice A' xo.length c'] 49)).heap.size ∧ v.ownBlock ≠ some b) (gH + 1) 38 v L := OwnR.keep TxnR.stab hown (Agree.below hbx fun b h => h.2.1) (fun b h => ⟨h.1, Nat.lt_of_lt_of_le h.2.1 hbx.size, h.2.2⟩) (fun g hg => hbx.block g (hlt2 g hg).2)
                          have hsz2 := Nat.le_trans hsz hbx.size
                          clear hbd hst hop hbr hgr hFi hown kH hb hsz hlt2 hbx
                          go_wp2
                          go_roundw
                          case rel => exact ⟨i + 1, v, by omega, by go_num, kH2, by rw [htk.out, List.append_nil]; exact hown2, hst2, hb2, hsz2⟩
                          case measure => simp [intOf]; omega
--] 26
                        | true =>
                          rw [if_pos rfl] at hop htk hfa
                          replace htk := hide htk
                          generalize lookR xo = lk at *
                          obtain ⟨lr, lw, lat, ler⟩ := lk
                          dsimp only at *
                          subst hfa
                          dsimp only at *
                          have hb6x : Below wr.heap.size wr ((wr.alloc (.cells #[.int .i64 ts, .bool true, .int .i64 tf, .slice A' xo.length c'] 49)).alloc (.cells #[.int .i64 ts, .slice none 0 0, .slice none 0 0] 38)) := hbx.alloc hbx.size _
                          have kX : Blk ((wr.alloc (.cells #[.int .i64 ts, .bool true, .int .i64 tf, .slice A' xo.length c'] 49)).alloc (.cells #[.int .i64 ts, .slice none 0 0, .slice none 0 0] 38)) (wr.heap.size + 1) 38 #[.int .i64 ts, .slice none 0 0, .slice none 0 0] := by
                            have := Blk.new (wr.alloc (.cells #[.int .i64 ts, .bool true, .int .i64 tf, .slice A' xo.length c'] 49)) 38 #[.int .i64 ts, .slice none 0 0, .slice none 0 0]
                            simpa using this
                          have hs6 : wr.heap.size + 2 ≤ ((wr.alloc (.cells #[.int .i64 ts, .bool true, .int .i64 tf, .slice A' xo.length c'] 49)).alloc (.cells #[.int .i64 ts, .slice none 0 0, .slice none 0 0] 38)).heap.size := by simp
                          have hb6 := hb.trans (hb6x.mono (by omega))
                          have kH6 := kH.below hb6x kH.lt
                          have hlt6 := hide (fun g (hg : v.ownBlock = some g) => hown.lt g hg)
                          have hown6 : OwnR 3 TxnR ((wr.alloc (.cells #[.int .i64 ts, .bool true, .int .i64 tf, .slice A' xo.length c'] 49)).alloc (.cells #[.int .i64 ts, .slice none 0 0, .slice none 0 0] 38)) (fun b => gH + 1 ≤ b ∧ b < wr.heap.size ∧ v.ownBlock ≠ some b) (gH + 1) 38 v L := OwnR.keep TxnR.stab hown (Agree.below hb6x fun b h => h.2.1) (fun b h => h) (fun g hg => hb6x.block g (hlt6.out g hg).2)
                          obtain ⟨Ar, cr, Aw, cw, f0, f1, hrs, hws⟩ := hFi.out _ hb6
                          (try dsimp only at f0 f1 hrs hws)
                          replace hown6 := hide hown6
                          have hgs2 := hide hgs.out
                          clear hown kH hb hb6x hbx hFi
                          go_wp2_with fail
                          generalize ((wr.alloc (.cells #[.int .i64 ts, .bool true, .int .i64 tf, .slice A' xo.length c'] 49)).alloc (.cells #[.int .i64 ts, .slice none 0 0, .slice none 0 0] 38)) = W6 at *
                          generalize wr.heap.size = N at *
                          clear d0 d1 d2 d3
                          go_loopw [30, 160] (fun _ s160 wq => ∃ (m : Nat) (u : Value), m ≤ lw.length ∧ s160 = .int .i64 m ∧ Blk wq (N + 1) 38 #[.int .i64 ts, u, .slice none 0 0] ∧
                            wq.ownsRow (N + 2) 3 1 u ((lw.take m).map (·.a)).length (((lw.take m).map (·.a)).map encI).flatten ∧ Below N W6 wq ∧ N + 2 ≤ wq.heap.size) (fun _ s160 _ => lw.length - (intOf s160).toNat)
                          case atStart => exact ⟨0, .slice none 0 0, Nat.zero_le _, by go_num, kX, World.ownsRow_nil _ _ _ _, Below.refl _ _, hs6⟩
                          case round =>
                            clear kX hs6
                            obtain ⟨m, u, hm, rfl, jX, hown, hq, hsq⟩ := hrel
                            have hm1 : (0 : Int) ≤ (m : Int) := Int.natCast_nonneg _
                            have hgs3 := hgs2.out
                            have hoff := hide (show ∀ g, u.ownBlock = some g → N + 2 ≤ g from fun g hg => (hown.lt g hg).1)
                            by_cases hlt2 : m < lw.length
--{ 28 seven
                            · have hm2 : (m : Int) < (lw.length : Int) := by omega
                              obtain ⟨bw, ow, rfl, hbw, v0, v1⟩ := ItS.at_ hws hlt2
                              have e0 := (hq.cell (p := ⟨bw, ow + m * 2, none⟩) (by simp; omega)).trans v0
                              have e1 := (hq.cell (p := ⟨bw, ow + m * 2 + 1, none⟩) (by simp; omega)).trans v1
                              have htk2 : (lw.take (m + 1)).map (·.a) = (lw.take m).map (·.a) ++ [lw[m].a] := by rw [List.take_succ_eq_append_getElem hlt2, List.map_append]; rfl
                              have htl2 : ((lw.take m).map (·.a)).length = m := by rw [List.length_map, List.length_take]; omega
                              generalize lw[m] = z at *
                              generalize (lw.take m).map (·.a) = M at *
                              replace htk2 := hide htk2
                              replace htl2 := hide htl2
                              have hownX : ((wr.alloc (.cells #[.int .i64 z.a, .int .i64 z.b] 91)).alloc (.cells #[.int .i64 z.a] 3)).ownsRow (N + 2) 3 1 u M.length (M.map encI).flatten := (hown.alloc _).alloc _
                              have mX : Blk ((wr.alloc (.cells #[.int .i64 z.a, .int .i64 z.b] 91)).alloc (.cells #[.int .i64 z.a] 3)) (N + 1) 38 #[.int .i64 ts, u, .slice none 0 0] := (jX.alloc _).alloc _
                              have hbX : Below N W6 ((wr.alloc (.cells #[.int .i64 z.a, .int .i64 z.b] 91)).alloc (.cells #[.int .i64 z.a] 3)) := (hq.alloc (by omega) _).alloc (by simp; omega) _
                              have kN := hide (show SlR 1 (Flat encI) ((wr.alloc (.cells #[.int .i64 z.a, .int .i64 z.b] 91)).alloc (.cells #[.int .i64 z.a] 3)) (fun _ => True) (.slice (some ⟨wr.heap.size + 1, 0, none⟩) 1 1) [z.a] by
                                have := SlR.one (R := Flat encI) (size := 1) (K := fun _ => True) (x := z.a) (Blk.new (wr.alloc (.cells #[.int .i64 z.a, .int .i64 z.b] 91)) 3 #[.int .i64 z.a]) rfl rfl trivial
                                rwa [show (wr.alloc (.cells #[.int .i64 z.a, .int .i64 z.b] 91)).heap.size = wr.heap.size + 1 by simp] at this)
                              have x1 := mX.cell 1
                              have x1' := (jX.alloc (.cells #[.int .i64 z.a, .int .i64 z.b] 91)).cell 1
                              simp only [List.getElem?_toArray, List.getElem?_cons_zero, List.getElem?_cons_succ] at x1 x1'
                              replace hgs3 := hide hgs3
                              clear hown jX hq v0 v1 htk hst hbd hbr hgr hop htl
                              go_wp2_with (at_builtin; refine wpList_append_flat (enc := encI) rfl (.tmp 165) (.tmp 168) 35 rfl (N + 2) 3 ii _ 1 8 Tryz.underlying35 hii hii1 hii2 hii3 rfl (by decide) u (fun _ => True) M rfl hownX (fun _ => rfl) _ [z.a] rfl kN.out encI1 (by have := htl2.out; simp [maxLen]; omega) (by have := htl2.out; simp; omega) (by simp; omega) ?_; intro v6 W7 hown7 hgrow7 hat7; obtain ⟨A7, c7, rfl⟩ := own_slice hown7; have nX := mX.grown hgrow7 (fun e => by have := hoff.out _ e.symm; omega); have tc := nX.cell 1; have tf := nX.frozen 1; simp only [List.getElem?_toArray, List.getElem?_cons_zero, List.getElem?_cons_succ] at tc)
                              go_roundw
                              case rel =>
                                refine ⟨m + 1, _, by omega, by go_num, nX.set_ 1 _, ?_, ?_, ?_⟩
                                · rw [htk2.out]
                                  have hq := own_setCell hown7 (p := ⟨N + 1, 1, none⟩) (fun e => by have : N + 2 ≤ N + 1 := (hown7.lt _ e).1; omega) (.slice A7 (M.length + 1) c7)
                                  rw [List.length_append] at hq ⊢
                                  exact hq
                                · exact (hbX.grown hgrow7 (by simp; omega) (fun g hg => by have := hoff.out g hg; omega)).setCell (p := ⟨N + 1, 1, none⟩) (by simp) _
                                · have h1 := hgrow7.size
                                  rw [World.size_setCell]
                                  simp at h1
                                  omega
                              case measure => simp [intOf]; omega
--} 28
                            · have : m = lw.length := by omega
                              subst this
                              rw [List.take_length] at hown
                              obtain ⟨AW, cW, rfl⟩ := own_slice hown
                              have hIW : IntS wr (fun b => N + 2 ≤ b ∧ b < wr.heap.size) (.slice AW (lw.map (·.a)).length cW) (lw.map (·.a)) := SlR.of_flat hown rfl (fun _ => rfl) (fun g h1 h2 => ⟨h1, h2⟩)
                              have e0 := (hq.cell (p := ⟨gF, i * 2, none⟩) (by simp; omega)).trans f0
                              clear hown hoff hm1 hlt2 hm
                              generalize lw.map (·.a) = WL at *
                              obtain ⟨N2, hN2⟩ : ∃ n, n = wr.heap.size := ⟨_, rfl⟩
                              rw [← hN2] at hIW hsq
                              have hle : N2 ≤ wr.heap.size := by omega
                              clear hN2
                              replace hgs3 := hide hgs3
                              go_wp2_with fail
                              go_loopw [32, 33, 34, 178] (fun _ _ _ s178 wq => ∃ (m : Nat) (u : Value), m ≤ lr.length ∧ s178 = .int .i64 m ∧ Blk wq (N + 1) 38 #[.int .i64 ts, .slice AW WL.length cW, u] ∧
                                wq.ownsRow N2 40 2 u ((lr.take m).map fun r => (⟨r.a, (fromR l r).1⟩ : It)).length (((lr.take m).map fun r => (⟨r.a, (fromR l r).1⟩ : It)).map It.enc).flatten ∧ IntS wq (fun b => N + 2 ≤ b ∧ b < N2) (.slice AW WL.length cW) WL ∧ Hid (∀ j, j < m → readE l lr j = 0) ∧ Below N W6 wq ∧ N2 ≤ wq.heap.size) (fun _ _ _ s178 _ => lr.length - (intOf s178).toNat)
                              case atStart => exact ⟨0, .slice none 0 0, Nat.zero_le _, by go_num, jX, World.ownsRow_nil _ _ _ _, hIW, fun j h => absurd h (by omega), hq, hle⟩
                              case round =>
                                clear jX hIW hq hle
                                clear e0
                                obtain ⟨m, u, hm, rfl, jX, hown, hIW, hrd, hq, hle⟩ := hrel
                                have hm1 : (0 : Int) ≤ (m : Int) := Int.natCast_nonneg _
                                by_cases hlt2 : m < lr.length
--{ 32 eight
                                · have hm2 : (m : Int) < (lr.length : Int) := by omega
                                  have hgs3 := hgs3.out
                                  obtain ⟨bw, ow, rfl, hbw, v0, v1⟩ := ItS.at_ hrs hlt2
                                  have e0 := (hq.cell (p := ⟨bw, ow + m * 2, none⟩) (by simp; omega)).trans v0
                                  have e1 := (hq.cell (p := ⟨bw, ow + m * 2 + 1, none⟩) (by simp; omega)).trans v1
                                  have htk2 : (lr.take (m + 1)).map (fun r => (⟨r.a, (fromR l r).1⟩ : It)) = (lr.take m).map (fun r => (⟨r.a, (fromR l r).1⟩ : It)) ++ [⟨lr[m].a, (fromR l lr[m]).1⟩] := by rw [List.take_succ_eq_append_getElem hlt2, List.map_append]; rfl
                                  have htl2 : ((lr.take m).map fun r => (⟨r.a, (fromR l r).1⟩ : It)).length = m := by rw [List.length_map, List.length_take]; omega
                                  have hre := readE_at (l := l) hlt2
                                  have hbi := hide (fun hb => hbr.out m hlt2 hrd.out hb)
                                  have hrs2 : readE l lr m = 0 → ∀ j, j < m + 1 → readE l lr j = 0 := fun g j hj => by
                                    by_cases hji : j = m
                                    · subst hji; exact g
                                    · exact hrd.out j (by omega)
                                  rw [hre] at hbi hrs2
                                  have hF0 := hide (from_zero (l := l) (x := lr[m]))
                                  have hF1 := hide (from_thin (l := l) (x := lr[m]))
                                  have hF2 := hide (fun p q => from_gone (l := l) (x := lr[m]) (p := p) (q := q))
                                  have hF3 := hide (fun p q => from_kept (l := l) (x := lr[m]) (p := p) (q := q) hall2'.out hall3'.out)
                                  have hMz := hide (fun (W : World) (hW : Below gH WH W) => (hM.out W hW).lookup itemKey Tryz.underlying79 zeroW lr[m])
                                  have hLz := hide (fun (W : World) (hW : Below gH WH W) => (hL.out W hW).lookup1 itemKey Tryz.underlying89 (z := .bool false) (fun w => by kernel_rfl) lr[m])
                                  generalize lr[m] = z at *
                                  generalize (lr.take m).map (fun r => (⟨r.a, (fromR l r).1⟩ : It)) = M at *
                                  generalize fromR l z = fz at *
                                  obtain ⟨fn, fe⟩ := fz
                                  rw [last_val] at hLz
                                  generalize lastB l z = lb at *
                                  generalize byF l l.length z = bo at *
                                  obtain ⟨p, q, is, hv, his, hbo⟩ : ∃ (p q : Int) (is : Bool), valOr encW (.agg #[.int .i64 0, .int .i64 0]) bo = .agg #[.int .i64 p, .int .i64 q] ∧ bo.isSome = is ∧ ((is = false ∧ bo = none) ∨ (is = true ∧ bo = some (p, q))) := by
                                    cases bo with
                                    | none => exact ⟨0, 0, false, rfl, rfl, .inl ⟨rfl, rfl⟩⟩
                                    | some y => exact ⟨y.1, y.2, true, rfl, rfl, .inr ⟨rfl, rfl⟩⟩
                                  rw [hv, his] at hMz
                                  have hqH := hide (fun (W : World) (hW : Below wr.heap.size wr W) => hb6.trans ((hq.trans (hW.mono (by omega))).mono (show gH ≤ N by omega)))
                                  have hqN := hide (fun (W : World) (hW : Below wr.heap.size wr W) => hq.trans (hW.mono (show N ≤ wr.heap.size by omega)))
                                  have hlook : (Instr.lookup 79 (.map (some gm)) (.agg #[.int .i64 z.a, .int .i64 z.b]) true).run Tryz.prog (wr.alloc (.cells #[.int .i64 z.a, .int .i64 z.b] 91)) = .ok (.tuple #[.agg #[.int .i64 p, .int .i64 q], .bool is]) (wr.alloc (.cells #[.int .i64 z.a, .int .i64 z.b] 91)) := hMz.out _ (hqH.out _ ((Below.refl _ _).alloc (Nat.le_refl _) _))
                                  have hlast : (Instr.lookup 89 (.map (some gl)) (.agg #[.int .i64 z.a, .int .i64 z.b]) false).run Tryz.prog ((wr.alloc (.cells #[.int .i64 z.a, .int .i64 z.b] 91)).alloc (.cells #[.int .i64 p, .int .i64 q] 81)) = .ok (.bool lb) ((wr.alloc (.cells #[.int .i64 z.a, .int .i64 z.b] 91)).alloc (.cells #[.int .i64 p, .int .i64 q] 81)) := hLz.out _ (hqH.out _ (((Below.refl _ _).alloc (Nat.le_refl _) _).alloc (by simp) _))
                                  replace hgs3 := hide hgs3
                                  clear hMz hLz hv his v0 v1 hre hrd hst hgr htk
                                  dsimp only at htk2 hbi hrs2 hF0 hF1 hF2 hF3
                                  by_cases hz : z.b = 0
                                  · have hzb : (z.b == 0) = true := by simpa using hz
                                    have hfz := hF0.out hz
                                    injection hfz with hf1 hf2
                                    subst hf1 hf2
                                    have hrs3 := hide (hrs2 rfl)
                                    clear hF0 hF1 hF2 hF3 hbi hrs2 hbo hz
                                    have hoff := hide (show ∀ g, u.ownBlock = some g → N2 ≤ g from fun g hg => (hown.lt g hg).1)
                                    have mX2 : Blk ((wr.alloc (.cells #[.int .i64 z.a, .int .i64 z.b] 91)).alloc (.cells #[.int .i64 p, .int .i64 (-1)] 81)) (N + 1) 38 #[.int .i64 ts, .slice AW WL.length cW, u] := (jX.alloc _).alloc _
                                    have mX : Blk (((wr.alloc (.cells #[.int .i64 z.a, .int .i64 z.b] 91)).alloc (.cells #[.int .i64 p, .int .i64 (-1)] 81)).alloc (.cells #[.int .i64 z.a, .int .i64 (-1)] 40)) (N + 1) 38 #[.int .i64 ts, .slice AW WL.length cW, u] := mX2.alloc _
                                    have hownX : (((wr.alloc (.cells #[.int .i64 z.a, .int .i64 z.b] 91)).alloc (.cells #[.int .i64 p, .int .i64 (-1)] 81)).alloc (.cells #[.int .i64 z.a, .int .i64 (-1)] 40)).ownsRow N2 40 2 u M.length (M.map It.enc).flatten := ((hown.alloc _).alloc _).alloc _
                                    have kN := hide (show SlR 2 (Flat It.enc) (((wr.alloc (.cells #[.int .i64 z.a, .int .i64 z.b] 91)).alloc (.cells #[.int .i64 p, .int .i64 (-1)] 81)).alloc (.cells #[.int .i64 z.a, .int .i64 (-1)] 40)) (fun _ => True) (.slice (some ⟨wr.heap.size + 2, 0, none⟩) 1 1) [(⟨z.a, (-1)⟩ : It)] by
                                      have := SlR.one (R := Flat It.enc) (size := 2) (K := fun _ => True) (x := (⟨z.a, (-1)⟩ : It)) (Blk.new ((wr.alloc (.cells #[.int .i64 z.a, .int .i64 z.b] 91)).alloc (.cells #[.int .i64 p, .int .i64 (-1)] 81)) 40 #[.int .i64 z.a, .int .i64 (-1)]) rfl rfl trivial
                                      rwa [show ((wr.alloc (.cells #[.int .i64 z.a, .int .i64 z.b] 91)).alloc (.cells #[.int .i64 p, .int .i64 (-1)] 81)).heap.size = wr.heap.size + 2 by simp] at this)
                                    have x2 := mX.cell 2
                                    have x2' := mX2.cell 2
                                    simp only [List.getElem?_toArray, List.getElem?_cons_zero, List.getElem?_cons_succ] at x2 x2'
                                    have hbX : Below wr.heap.size wr (((wr.alloc (.cells #[.int .i64 z.a, .int .i64 z.b] 91)).alloc (.cells #[.int .i64 p, .int .i64 (-1)] 81)).alloc (.cells #[.int .i64 z.a, .int .i64 (-1)] 40)) := (((Below.refl _ _).alloc (Nat.le_refl _) _).alloc (by simp) _).alloc (by simp; omega) _
                                    have hbX2 := hqN.out _ hbX
                                    replace htk2 := hide htk2
                                    replace htl2 := hide htl2
                                    clear hown jX mX2 hbd hop hbr hq htl
                                    go_wp2_with (at_builtin; refine wpList_append_flat (enc := It.enc) rfl (.tmp 224) (.tmp 230) 36 rfl N2 40 it _ 2 16 Tryz.underlying36 hit hit1 hit2 hit3 rfl (by decide) u (fun _ => True) M rfl hownX (fun _ => rfl) _ [(⟨z.a, (-1)⟩ : It)] rfl kN.out encIt1 (by have := htl2.out; simp [maxLen]; omega) (by have := htl2.out; simp; omega) (by simp; omega) ?_; intro v6 W7 hown7 hgrow7 hat7; obtain ⟨A7, c7, rfl⟩ := own_slice hown7; have nX := mX.grown hgrow7 (fun e => by have := hoff.out _ e.symm; omega); have tc := nX.cell 2; have tf := nX.frozen 2; simp only [List.getElem?_toArray, List.getElem?_cons_zero, List.getElem?_cons_succ] at tc)
                                    go_roundw
                                    case rel =>
                                      have hagA : Agree (fun b => N + 2 ≤ b ∧ b < N2) wr (W7.setCell ⟨N + 1, 2, none⟩ (.slice A7 (M.length + 1) c7)) := ((Agree.below hbX (fun b h => by omega)).trans (Agree.grown hgrow7 (fun b h => ⟨by simp; omega, fun e => by have := hoff.out _ e.symm; omega⟩))).trans (Agree.setCell ⟨N + 1, 2, none⟩ (by simp) _)
                                      refine ⟨m + 1, _, by omega, by go_num, nX.set_ 2 _, ?_, IntS.keep hIW hagA (fun _ h => h), hrs3, ?_, ?_⟩
                                      · rw [htk2.out]
                                        have hq := own_setCell hown7 (p := ⟨N + 1, 2, none⟩) (fun e => by have : N2 ≤ N + 1 := (hown7.lt _ e).1; omega) (.slice A7 (M.length + 1) c7)
                                        rw [List.length_append] at hq ⊢
                                        exact hq
                                      · exact (hbX2.grown hgrow7 (by simp; omega) (fun g hg => by have := hoff.out g hg; omega)).setCell (p := ⟨N + 1, 2, none⟩) (by simp) _
                                      · have h1 := hgrow7.size
                                        rw [World.size_setCell]
                                        simp at h1
                                        omega
                                    case measure => simp [intOf]; omega
                                  · have hzb : (z.b == 0) = false := by simpa using hz
                                    rcases hbo with ⟨rfl, rfl⟩ | ⟨rfl, rfl⟩
                                    · have hfz := hF1.out hz rfl
                                      clear hF0 hF1 hF2 hF3 hrs2 hz
                                      injection hfz with hf1 hf2
                                      subst hf1 hf2
                                      have hro := hbi.out (by decide)
                                      rw [hro] at hop
                                      have hr := hbd.out (by rw [hop]; decide)
                                      rw [hop] at hr
                                      replace hr := hide hr
                                      have hk3 := hide (fun (W : World) (hW : Below wr.heap.size wr W) => hK.out W (hqH.out W hW))
                                      have hb3 := hide (fun (W : World) (hW : Below wr.heap.size wr W) => hB.out W (hqH.out W hW))
                                      have hbX : Below wr.heap.size wr ((wr.alloc (.cells #[.int .i64 z.a, .int .i64 z.b] 91)).alloc (.cells #[.int .i64 p, .int .i64 q] 81)) := ((Below.refl _ _).alloc (Nat.le_refl _) _).alloc (by simp) _
                                      clear hbd hop hbi hro hq jX hown hIW htk2 htl2 htl
                                      go_wp2_with fail
                                      refine (none_any _ _ _).mono ?_
                                      rintro e w5 ⟨rfl, hb5⟩
                                      have hbY := hbX.trans (hb5.mono hbX.size)
                                      have k4 := hk3.out _ hbY
                                      have y0 := k4.frozen 0
                                      have c0 := k4.cell 0
                                      simp only [List.getElem?_toArray, List.getElem?_cons_zero] at c0
                                      dsimp only
                                      repeat' (first | go_values | go_skip | go_guarded | go_step | go_upon)
                                      refine bodyPost_ret (results_hist rfl rfl (k4.set_ 0 _)) rfl ?_
                                      exact ⟨.slice none 0 0, by rw [hr.out]; rfl, by rw [hr.out]; exact TxnS.nil _ _ _ _, (hb3.out _ hbY).setCell (p := ⟨w.heap.size, 0, none⟩) (Nat.le_refl _) _⟩
                                    · by_cases hq0 : q < 0
                                      · have hqd : decide (q < 0) = true := by simpa using hq0
                                        have hfz := hF2.out p q hz rfl hq0
                                        clear hF0 hF1 hF2 hF3 hrs2 hz
                                        injection hfz with hf1 hf2
                                        subst hf1 hf2
                                        have hro := hbi.out (by decide)
                                        rw [hro] at hop
                                        have hr := hbd.out (by rw [hop]; decide)
                                        rw [hop] at hr
                                        replace hr := hide hr
                                        have hk3 := hide (fun (W : World) (hW : Below wr.heap.size wr W) => hK.out W (hqH.out W hW))
                                        have hb3 := hide (fun (W : World) (hW : Below wr.heap.size wr W) => hB.out W (hqH.out W hW))
                                        have hbX : Below wr.heap.size wr ((wr.alloc (.cells #[.int .i64 z.a, .int .i64 z.b] 91)).alloc (.cells #[.int .i64 p, .int .i64 q] 81)) := ((Below.refl _ _).alloc (Nat.le_refl _) _).alloc (by simp) _
                                        clear hbd hop hbi hro hq jX hown hIW htk2 htl2 htl
                                        go_wp2_with fail
                                        refine (none_any _ _ _).mono ?_
                                        rintro e w5 ⟨rfl, hb5⟩
                                        have hbY := hbX.trans (hb5.mono hbX.size)
                                        have k4 := hk3.out _ hbY
                                        have y0 := k4.frozen 0
                                        have c0 := k4.cell 0
                                        simp only [List.getElem?_toArray, List.getElem?_cons_zero] at c0
                                        dsimp only
                                        repeat' (first | go_values | go_skip | go_guarded | go_step | go_upon)
                                        refine bodyPost_ret (results_hist rfl rfl (k4.set_ 0 _)) rfl ?_
                                        exact ⟨.slice none 0 0, by rw [hr.out]; rfl, by rw [hr.out]; exact TxnS.nil _ _ _ _, (hb3.out _ hbY).setCell (p := ⟨w.heap.size, 0, none⟩) (Nat.le_refl _) _⟩
                                      · have hqd : decide (q < 0) = false := by simpa using hq0
                                        have hfz := hF3.out p q hz rfl hq0
                                        cases lb with
                                        | false =>
                                          rw [if_pos rfl] at hfz
                                          clear hF0 hF1 hF2 hF3 hrs2 hz
                                          injection hfz with hf1 hf2
                                          subst hf1 hf2
                                          have hro := hbi.out (by decide)
                                          rw [hro] at hop
                                          have hr := hbd.out (by rw [hop]; decide)
                                          rw [hop] at hr
                                          replace hr := hide hr
                                          have hk3 := hide (fun (W : World) (hW : Below wr.heap.size wr W) => hK.out W (hqH.out W hW))
                                          have hb3 := hide (fun (W : World) (hW : Below wr.heap.size wr W) => hB.out W (hqH.out W hW))
                                          have hbX : Below wr.heap.size wr ((wr.alloc (.cells #[.int .i64 z.a, .int .i64 z.b] 91)).alloc (.cells #[.int .i64 p, .int .i64 q] 81)) := ((Below.refl _ _).alloc (Nat.le_refl _) _).alloc (by simp) _
                                          clear hbd hop hbi hro hq jX hown hIW htk2 htl2 htl
                                          go_wp2_with fail
                                          refine (none_any _ _ _).mono ?_
                                          rintro e w5 ⟨rfl, hb5⟩
                                          have hbY := hbX.trans (hb5.mono hbX.size)
                                          have k4 := hk3.out _ hbY
                                          have y0 := k4.frozen 0
                                          have c0 := k4.cell 0
                                          simp only [List.getElem?_toArray, List.getElem?_cons_zero] at c0
                                          dsimp only
                                          repeat' (first | go_values | go_skip | go_guarded | go_step | go_upon)
                                          refine bodyPost_ret (results_hist rfl rfl (k4.set_ 0 _)) rfl ?_
                                          exact ⟨.slice none 0 0, by rw [hr.out]; rfl, by rw [hr.out]; exact TxnS.nil _ _ _ _, (hb3.out _ hbY).setCell (p := ⟨w.heap.size, 0, none⟩) (Nat.le_refl _) _⟩
                                        | true =>
                                          rw [if_neg (by simp)] at hfz
                                          injection hfz with hf1 hf2
                                          subst hf1 hf2
                                          have hrs3 := hide (hrs2 rfl)
                                          clear hF0 hF1 hF2 hF3 hbi hrs2 hz
                                          have hoff := hide (show ∀ g, u.ownBlock = some g → N2 ≤ g from fun g hg => (hown.lt g hg).1)
                                          have mX2 : Blk ((wr.alloc (.cells #[.int .i64 z.a, .int .i64 z.b] 91)).alloc (.cells #[.int .i64 p, .int .i64 fn] 81)) (N + 1) 38 #[.int .i64 ts, .slice AW WL.length cW, u] := (jX.alloc _).alloc _
                                          have mX : Blk (((wr.alloc (.cells #[.int .i64 z.a, .int .i64 z.b] 91)).alloc (.cells #[.int .i64 p, .int .i64 fn] 81)).alloc (.cells #[.int .i64 z.a, .int .i64 fn] 40)) (N + 1) 38 #[.int .i64 ts, .slice AW WL.length cW, u] := mX2.alloc _
                                          have hownX : (((wr.alloc (.cells #[.int .i64 z.a, .int .i64 z.b] 91)).alloc (.cells #[.int .i64 p, .int .i64 fn] 81)).alloc (.cells #[.int .i64 z.a, .int .i64 fn] 40)).ownsRow N2 40 2 u M.length (M.map It.enc).flatten := ((hown.alloc _).alloc _).alloc _
                                          have kN := hide (show SlR 2 (Flat It.enc) (((wr.alloc (.cells #[.int .i64 z.a, .int .i64 z.b] 91)).alloc (.cells #[.int .i64 p, .int .i64 fn] 81)).alloc (.cells #[.int .i64 z.a, .int .i64 fn] 40)) (fun _ => True) (.slice (some ⟨wr.heap.size + 2, 0, none⟩) 1 1) [(⟨z.a, fn⟩ : It)] by
                                            have := SlR.one (R := Flat It.enc) (size := 2) (K := fun _ => True) (x := (⟨z.a, fn⟩ : It)) (Blk.new ((wr.alloc (.cells #[.int .i64 z.a, .int .i64 z.b] 91)).alloc (.cells #[.int .i64 p, .int .i64 fn] 81)) 40 #[.int .i64 z.a, .int .i64 fn]) rfl rfl trivial
                                            rwa [show ((wr.alloc (.cells #[.int .i64 z.a, .int .i64 z.b] 91)).alloc (.cells #[.int .i64 p, .int .i64 fn] 81)).heap.size = wr.heap.size + 2 by simp] at this)
                                          have x2 := mX.cell 2
                                          have x2' := mX2.cell 2
                                          simp only [List.getElem?_toArray, List.getElem?_cons_zero, List.getElem?_cons_succ] at x2 x2'
                                          have hbX : Below wr.heap.size wr (((wr.alloc (.cells #[.int .i64 z.a, .int .i64 z.b] 91)).alloc (.cells #[.int .i64 p, .int .i64 fn] 81)).alloc (.cells #[.int .i64 z.a, .int .i64 fn] 40)) := (((Below.refl _ _).alloc (Nat.le_refl _) _).alloc (by simp) _).alloc (by simp; omega) _
                                          have hbX2 := hqN.out _ hbX
                                          replace htk2 := hide htk2
                                          replace htl2 := hide htl2
                                          clear hown jX mX2 hbd hop hbr hq htl
                                          go_wp2_with (at_builtin; refine wpList_append_flat (enc := It.enc) rfl (.tmp 224) (.tmp 230) 36 rfl N2 40 it _ 2 16 Tryz.underlying36 hit hit1 hit2 hit3 rfl (by decide) u (fun _ => True) M rfl hownX (fun _ => rfl) _ [(⟨z.a, fn⟩ : It)] rfl kN.out encIt1 (by have := htl2.out; simp [maxLen]; omega) (by have := htl2.out; simp; omega) (by simp; omega) ?_; intro v6 W7 hown7 hgrow7 hat7; obtain ⟨A7, c7, rfl⟩ := own_slice hown7; have nX := mX.grown hgrow7 (fun e => by have := hoff.out _ e.symm; omega); have tc := nX.cell 2; have tf := nX.frozen 2; simp only [List.getElem?_toArray, List.getElem?_cons_zero, List.getElem?_cons_succ] at tc)
                                          go_roundw
                                          case rel =>
                                            have hagA : Agree (fun b => N + 2 ≤ b ∧ b < N2) wr (W7.setCell ⟨N + 1, 2, none⟩ (.slice A7 (M.length + 1) c7)) := ((Agree.below hbX (fun b h => by omega)).trans (Agree.grown hgrow7 (fun b h => ⟨by simp; omega, fun e => by have := hoff.out _ e.symm; omega⟩))).trans (Agree.setCell ⟨N + 1, 2, none⟩ (by simp) _)
                                            refine ⟨m + 1, _, by omega, by go_num, nX.set_ 2 _, ?_, IntS.keep hIW hagA (fun _ h => h), hrs3, ?_, ?_⟩
                                            · rw [htk2.out]
                                              have hq := own_setCell hown7 (p := ⟨N + 1, 2, none⟩) (fun e => by have : N2 ≤ N + 1 := (hown7.lt _ e).1; omega) (.slice A7 (M.length + 1) c7)
                                              rw [List.length_append] at hq ⊢
                                              exact hq
                                            · exact (hbX2.grown hgrow7 (by simp; omega) (fun g hg => by have := hoff.out g hg; omega)).setCell (p := ⟨N + 1, 2, none⟩) (by simp) _
                                            · have h1 := hgrow7.size
                                              rw [World.size_setCell]
                                              simp at h1
                                              omega
                                          case measure => simp [intOf]; omega
--} 32
                                · have : m = lr.length := by omega
                                  subst this
--[ 34 nine
                                  rw [List.take_length] at hown
                                  obtain ⟨AR, cR, rfl⟩ := own_slice hown
                                  have hro := hgr.out hrd.out
                                  rw [hro] at hop
                                  have hst2 := hide (hst hop)
                                  have htk3 := hide (show txnsTo l (i + 1) = L ++ [(⟨ts, WL, lr.map fun r => (⟨r.a, (fromR l r).1⟩ : It)⟩ : Txn)] by rw [htk.out, hro])
                                  have hIR : ItS wr (fun b => N2 ≤ b ∧ b < wr.heap.size) (.slice AR (lr.map fun r => (⟨r.a, (fromR l r).1⟩ : It)).length cR) (lr.map fun r => (⟨r.a, (fromR l r).1⟩ : It)) := SlR.of_flat hown rfl (fun _ => rfl) (fun g h1 h2 => ⟨h1, h2⟩)
                                  clear hro hop htk hst hgr hbr hbd hown hrd
                                  generalize lr.map (fun r => (⟨r.a, (fromR l r).1⟩ : It)) = RL7 at *
                                  have hNw : N ≤ wr.heap.size := by omega
                                  have hwz : Below wr.heap.size wr (wr.alloc (.cells #[.int .i64 ts, .slice AW WL.length cW, .slice AR RL7.length cR] 38)) := (Below.refl _ _).alloc (Nat.le_refl _) _
                                  have hqz : Below N W6 (wr.alloc (.cells #[.int .i64 ts, .slice AW WL.length cW, .slice AR RL7.length cR] 38)) := hq.trans (hwz.mono hNw)
                                  have hbz : Below gH WH (wr.alloc (.cells #[.int .i64 ts, .slice AW WL.length cW, .slice AR RL7.length cR] 38)) := hb6.trans (hqz.mono (by omega))
                                  have kH8 := kH6.below hqz (by omega)
                                  have kH7 := kH6.below hq (by omega)
                                  have hown8 : OwnR 3 TxnR (wr.alloc (.cells #[.int .i64 ts, .slice AW WL.length cW, .slice AR RL7.length cR] 38)) (fun b => gH + 1 ≤ b ∧ b < (wr.alloc (.cells #[.int .i64 ts, .slice AW WL.length cW, .slice AR RL7.length cR] 38)).heap.size ∧ v.ownBlock ≠ some b) (gH + 1) 38 v L := OwnR.keep TxnR.stab hown6.out (Agree.below hqz fun b h => h.2.1) (fun b h => ⟨h.1, by simp; have := h.2.1; omega, h.2.2⟩) (fun g hg => hqz.block g (hlt6.out g hg).2)
                                  have kN : SlR 3 TxnR (wr.alloc (.cells #[.int .i64 ts, .slice AW WL.length cW, .slice AR RL7.length cR] 38)) (fun b => gH + 1 ≤ b ∧ b < (wr.alloc (.cells #[.int .i64 ts, .slice AW WL.length cW, .slice AR RL7.length cR] 38)).heap.size ∧ v.ownBlock ≠ some b) (.slice (some ⟨wr.heap.size, 0, none⟩) 1 1) [(⟨ts, WL, RL7⟩ : Txn)] :=
                                    SlR.one (R := TxnR) (size := 3) (x := (⟨ts, WL, RL7⟩ : Txn)) (Blk.new wr 38 #[.int .i64 ts, .slice AW WL.length cW, .slice AR RL7.length cR]) rfl
                                      ⟨_, _, rfl, IntS.keep hIW (Agree.below hwz fun b h => by omega) (fun b h => ⟨by omega, by simp; omega, fun e => by have := (hlt6.out _ e).2; omega⟩), ItS.keep hIR (Agree.below hwz fun b h => h.2) (fun b h => ⟨by omega, by simp; omega, fun e => by have := (hlt6.out _ e).2; omega⟩)⟩
                                      ⟨by omega, by simp, fun e => by have := (hlt6.out _ e).2; omega⟩
                                  have h1c := kH8.cell 0
                                  have h1c' := kH7.cell 0
                                  have x0 := jX.cell 0
                                  have x1 := jX.cell 1
                                  have x2 := jX.cell 2
                                  simp only [List.getElem?_toArray, List.getElem?_cons_zero, List.getElem?_cons_succ] at h1c h1c' x0 x1 x2
                                  have hsz8 : gH + 1 ≤ (wr.alloc (.cells #[.int .i64 ts, .slice AW WL.length cW, .slice AR RL7.length cR] 38)).heap.size := by simp; omega
                                  replace kN := hide kN
                                  replace hown8 := hide hown8
                                  clear hwz hqz hq jX hIW hIR kH7 kH6 hown6 hb6
                                  go_wp2_with (at_builtin; refine wpList_append_list (R := TxnR) rfl (.tmp 235) (.tmp 237) 22 rfl (gH + 1) 38 ix _ 3 56 Tryz.underlying22 hix hix1 hix2 hix3 rfl (by decide) v (fun b => gH + 1 ≤ b ∧ b < (wr.alloc (.cells #[.int .i64 ts, .slice AW WL.length cW, .slice AR RL7.length cR] 38)).heap.size ∧ v.ownBlock ≠ some b) L rfl hown8.out _ [(⟨ts, WL, RL7⟩ : Txn)] rfl kN.out (fun cs x hr => TxnR.one hr) (by simp [maxLen]; omega) (by simp; omega) hsz8 (fun w' hg cs x hr => TxnR.stab _ _ _ _ _ _ hr (Agree.grown hg (fun b hb => ⟨hb.2.1, fun e => hb.2.2 e.symm⟩)) (fun _ h => h)) ?_; intro v6 W9 hown9 hgrow9 hat9; obtain ⟨A9, c9, rfl⟩ := hown9.form; have pH := kH8.grown hgrow9 (fun e => by have := (hlt6.out _ e.symm).1; omega); have tc := pH.cell 0; have tf := pH.frozen 0; simp only [List.getElem?_toArray, List.getElem?_cons_zero] at tc)
                                  go_roundw
                                  case rel =>
                                    have hl6 : (L ++ [(⟨ts, WL, RL7⟩ : Txn)]).length = L.length + 1 := by simp
                                    rw [hl6] at hown9 hat9
                                    have hg6 := hgrow9.size
                                    have hlt9 := hown9.lt
                                    refine ⟨i + 1, .slice A9 (L.length + 1) c9, by omega, by go_num, pH.set_ 0 _, ?_, hst2, (hbz.grown hgrow9 (by omega) (fun g hg => by have := (hlt6.out g hg).1; omega)).setCell (p := ⟨gH, 0, none⟩) (by simp) _, by rw [World.size_setCell]; omega⟩
                                    rw [htk3.out]
                                    refine OwnR.keep TxnR.stab hown9 (Agree.setCell ⟨gH, 0, none⟩ (by intro h; have : gH + 1 ≤ gH := h.1; omega) _) (fun b h => ⟨h.1, by rw [World.size_setCell]; have := h.2.1; omega, fun e => ?_⟩) (fun g hg => Below.heap_setCell _ _ _ g (by have := (hlt9 g hg).1; simp; omega))
                                    rcases hat9 with h6 | h6
                                    · exact h.2.2 (h6.symm.trans e)
                                    · have := h6.symm.trans e
                                      injection this with this
                                      have := h.2.1
                                      omega
                                  case measure => simp [intOf]; omega
--] 34
--} 22
--{ 22 last
                      · have : i = l.length := by omega
                        subst this
                        obtain ⟨AV, cV, rfl⟩ := hown.form
                        have hr := hide (hgd.out hall4.out)
                        have hlt2 := hown.lt
                        have hS : TxnS wr (fun b => gH + 1 ≤ b ∧ b < wr.heap.size) (.slice AV (txnsTo l l.length).length cV) (txnsTo l l.length) := OwnR.sl (OwnR.keep TxnR.stab hown (Agree.refl _ _) (fun b h => ⟨h.1, h.2.1⟩) (fun g hg => rfl)) (fun g hg => hlt2 g hg)
                        have h1c := kH.cell 0
                        have k3 := hK.out wr hb
                        have y1 := k3.frozen 0
                        have c1 := k3.cell 0
                        simp only [List.getElem?_toArray, List.getElem?_cons_zero, List.getElem?_cons_succ] at h1c c1
                        have hb3 := hB.out wr hb
                        have hgs2 := hgs.out
                        clear hlt2 hown hgd hone hTL
                        generalize txnsTo l l.length = RT at *
                        go_wp2
                        (try simp only [Exit.inBlock, Exit.then])
                        refine bodyPost_ret (results_hist rfl rfl (k3.set_ 0 _)) rfl ?_
                        refine ⟨.slice AV RT.length cV, by rw [hr.out]; rfl, ?_, hb3.setCell (p := ⟨w.heap.size, 0, none⟩) (Nat.le_refl _) _⟩
                        rw [hr.out]
                        exact TxnS.keep hS (Agree.setCell ⟨w.heap.size, 0, none⟩ (by intro h; have := h.1; simp at this; omega) _) (fun b h => ⟨by omega, by simp; exact h.2⟩)
--} 22
end Go.Proofs.YtphcebgpllecjaaGreatDoor
