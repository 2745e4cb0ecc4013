/-
  Walks: layer 8: hist.Show.
-/
import Derived.OwnWalk
import Derived.Test.YtphcebgpllecjaaGreatDoorC09
import Derived.Test.YtphcebgpllecjaaGreatDoorC11
import Derived.Test.YtphcebgpllecjaaGreatDoorC15
import Derived.Test.YtphcebgpllecjaaGreatDoorC23
set_option linter.unusedVariables false
set_option linter.unusedSimpArgs false
namespace Go.Proofs.YtphcebgpllecjaaGreatDoor
open Go.RowKit Go.Inq
set_option maxHeartbeats 4000000
attribute [local go_sem ↓] Go.wp_at_zero Go.wp_at_succ

theorem rise_le {l : List Int} (h : l.Pairwise (· < ·)) (hb : ∀ k ∈ l, 0 ≤ k ∧ k < 16) : l.length ≤ 16 := by
  have key : ∀ (l : List Int) (m : Nat), l.Pairwise (· < ·) → (∀ k ∈ l, (16 - m : Int) ≤ k ∧ k < 16) → l.length ≤ m := by
    intro l
    induction l with
    | nil => intro m _ _; exact Nat.zero_le _
    | cons x r ih =>
      intro m h1 h2
      rw [List.pairwise_cons] at h1
      have hx := h2 x (by simp)
      have := ih (m - 1) h1.2 fun k hk => by
        have := h1.1 k hk
        have := h2 k (List.mem_cons_of_mem _ hk)
        omega
      simp only [List.length_cons]
      omega
  exact key l 16 h fun k hk => by have := hb k hk; omega
theorem ok_len {H : List Txn} {n : Nat} {t : Txn} (h : TxnOk H n t) : t.reads.length ≤ 16 ∧ t.writes.length ≤ 16 := by
  refine ⟨?_, rise_le h.wrise h.wkey⟩
  have := rise_le h.rrise fun k hk => by
    obtain ⟨x, hx, rfl⟩ := List.mem_map.1 hk
    exact h.rkey x hx
  rwa [List.length_map] at this

set_option maxRecDepth 100000 in
theorem show8_any (A : Option Addr) (c : Nat) (H : List Txn) (w : World) (h : TxnS w (Old w) (.slice A H.length c) H) (hn : SmallH H) (henv : Env w) :
    Calls Tryz.prog 8 #[.agg #[.slice A H.length c]] w fun e w' => e = .returned (.tuple #[.string (mk (showH H).1), .int .i64 (showH H).2]) ∧ Below w.heap.size w w' := by
  obtain ⟨ig, hig, hig1, hig2, hig3⟩ := info_parts infoG5
  obtain ⟨ie, hie, hie1, hie2, hie3⟩ := info_parts infoE5
  have hA : Below w.heap.size w (w.alloc (.cells #[.slice A H.length c] 24)) := (Below.refl _ _).alloc (Nat.le_refl _) _
  have kH : Blk (w.alloc (.cells #[.slice A H.length c] 24)) w.heap.size 24 #[.slice A H.length c] := Blk.new _ _ _
  have h1 := TxnS.below h hA
  have hrc := right8_any A c H _ h1 hn
  have hmax := hn.1
  go_enter Tryz.func8, Tryz.ntmps8
  go_wp2_with fail
  refine hrc.mono ?_
  clear hrc
  rintro e w1 ⟨rfl, hb1⟩
  dsimp only
  have kH1 := kH.below hb1 kH.lt
  have hB1 := hA.trans (hb1.mono hA.size)
  have hT1 := TxnS.keep h (Agree.below hB1 fun b h => h) (fun b h => h)
  have y0 := kH1.cell 0
  simp only [List.getElem?_toArray, List.getElem?_cons_zero] at y0
  have hs1 : w.heap.size + 1 ≤ w1.heap.size := kH1.lt
  clear hA kH h1 hb1
  cases hr : rightH H with
  | false =>
    have hsh := hide (showH_bad hr)
    clear hr
    go_wp2
    go_ret2
    exact ⟨by rw [hsh.out]; rfl, hB1⟩
  | true =>
    obtain ⟨h32, hok⟩ := (rightH_iff H).1 hr
    have hsh : showH H = showD (eventsR (txsOf H)) := by unfold showH; rw [if_neg (by simp [hr])]
    replace hok := hide hok
    replace hsh := hide hsh
    clear hr
    have hl1 : (0 : Int) ≤ (H.length : Int) := Int.natCast_nonneg _
    go_wp2_with (at_make; refine wpList_make_full _ rfl (.tmp 16) (.tmp 16) 44 rfl (w.heap.size + 1) 49 ig _ 4 Tryz.underlying44 hig hig1 hig2 .i64 .i64 H.length H.length H.length rfl rfl rfl rfl (by rw [hig3]; omega) (by unfold maxLen; omega) hs1 ?_; intro W2 hown2 hgrow2; have kH2 : Blk W2 w.heap.size 24 #[.slice A H.length c] := kH1.grown hgrow2 (fun e => by cases e); have y2 := kH2.cell 0; simp only [List.getElem?_toArray, List.getElem?_cons_zero] at y2)
    generalize hgv : w1.heap.size = g at *
    have hN0 : NestT W2 (w.heap.size + 1) 49 56 (.slice (some ⟨g, 0, none⟩) H.length H.length) (fillT H 0) (List.replicate H.length (.slice none 0 0)) := by
      rw [fillT_zero]; exact NestT.made hown2
    have hB2 : Below w.heap.size w W2 := hB1.grown hgrow2 hB1.size (fun k e => by cases e)
    have hg2 : w.heap.size + 1 ≤ g := by omega
    have hgl : g < W2.heap.size := (hown2.lt g rfl).2
    have hfs := hide (fun n => fillT_step (H := H) (n := n))
    have hfl := hide (fun n => fillT_len (H := H) (n := n))
    clear hown2 hgrow2 kH1 hB1 y0 hgv hs1 y2
    go_loopw [21] (fun s21 wr => ∃ (n : Nat) (vs : List Value), n ≤ H.length ∧ s21 = .int .i64 n ∧ NestT wr (w.heap.size + 1) 49 56 (.slice (some ⟨g, 0, none⟩) H.length H.length) (fillT H n) vs ∧ Below w.heap.size w wr ∧ Blk wr w.heap.size 24 #[.slice A H.length c] ∧ g < wr.heap.size) (fun s21 _ => H.length - (intOf s21).toNat)
    case atStart => exact ⟨0, _, Nat.zero_le _, by go_num, hN0, hB2, kH2, hgl⟩
    case round =>
      clear hN0 hB2 kH2 hgl
      obtain ⟨n, vs, hnl, rfl, hnest, hb, kH, hgw⟩ := hrel
      have hn1 : (0 : Int) ≤ (n : Int) := Int.natCast_nonneg _
      by_cases hlt : n < H.length
      · have hn2 : (n : Int) < (H.length : Int) := by omega
        obtain ⟨b, off, Aw, cw, Ar, cr, rfl, hbK, d0', d1', d2', hws, hrs⟩ := TxnS.at_ h hlt
        have d0 := (hb.cell (p := ⟨b, off + n * 3, none⟩) hbK).trans d0'
        have d1 := (hb.cell (p := ⟨b, off + n * 3 + 1, none⟩) hbK).trans d1'
        have d2 := (hb.cell (p := ⟨b, off + n * 3 + 2, none⟩) hbK).trans d2'
        clear d0' d1' d2'
        have hto := hok.out n hlt
        have hstep := hide (hfs.out n hlt)
        have hlen := hide (hfl.out n hnl)
        obtain ⟨l1, l2⟩ := ok_len hto
        have hfr := hide (fun x hx => from_le hto h32 (x := x) hx)
        generalize H[n] = t at *
        obtain ⟨ts, ws, rs⟩ := t
        dsimp only at d0 d1 d2 hws hrs l1 l2
        generalize fillT H n = M at *
        generalize hMd : fillT H (n + 1) = M' at *
        replace hMd := hide hMd
        have hM : M[n]? = some (M[n]'(by rw [hlen.out]; exact hlt)) := List.getElem?_eq_getElem _
        obtain ⟨vo, hvo⟩ := hnest.at_ (i := n) (by rw [hlen.out]; exact hlt)
        obtain ⟨x0, x1, x2, x3⟩ := NestT.cellsN hlen.out hnest hM hvo
        have hsN : g < wr.heap.size := hgw
        have hbw := hb.size
        have hnR := (NestT.reset hlen.out hnest hlt ts true 0).alloc (.cells #[.int .i64 ts, .slice Aw ws.length cw, .slice Ar rs.length cr] 38)
        have f0 := NestT.frozenN hlen.out hnest (n * 4)
        have f1 := NestT.frozenN hlen.out hnest (n * 4 + 1)
        have f2 := NestT.frozenN hlen.out hnest (n * 4 + 2)
        have f3 := NestT.frozenN hlen.out hnest (n * 4 + 3)
        have hbR : Below w.heap.size w (((((wr.setCell ⟨g, n * 4, none⟩ (.int .i64 ts)).setCell ⟨g, n * 4 + 1, none⟩ (.bool true)).setCell ⟨g, n * 4 + 2, none⟩ (.int .i64 0)).setCell ⟨g, n * 4 + 3, none⟩ (.slice none 0 0)).alloc (.cells #[.int .i64 ts, .slice Aw ws.length cw, .slice Ar rs.length cr] 38)) := ((((hb.setCell (p := ⟨g, n * 4, none⟩) (by show _ ≤ g; omega) _).setCell (p := ⟨g, n * 4 + 1, none⟩) (by show _ ≤ g; omega) _).setCell (p := ⟨g, n * 4 + 2, none⟩) (by show _ ≤ g; omega) _).setCell (p := ⟨g, n * 4 + 3, none⟩) (by show _ ≤ g; omega) _).alloc (by simp only [World.size_setCell]; exact hbw) _
        have kT : Blk (((((wr.setCell ⟨g, n * 4, none⟩ (.int .i64 ts)).setCell ⟨g, n * 4 + 1, none⟩ (.bool true)).setCell ⟨g, n * 4 + 2, none⟩ (.int .i64 0)).setCell ⟨g, n * 4 + 3, none⟩ (.slice none 0 0)).alloc (.cells #[.int .i64 ts, .slice Aw ws.length cw, .slice Ar rs.length cr] 38)) wr.heap.size 38 #[.int .i64 ts, .slice Aw ws.length cw, .slice Ar rs.length cr] := by
          have := Blk.new ((((wr.setCell ⟨g, n * 4, none⟩ (.int .i64 ts)).setCell ⟨g, n * 4 + 1, none⟩ (.bool true)).setCell ⟨g, n * 4 + 2, none⟩ (.int .i64 0)).setCell ⟨g, n * 4 + 3, none⟩ (.slice none 0 0)) 38 #[.int .i64 ts, .slice Aw ws.length cw, .slice Ar rs.length cr]
          simp only [World.size_setCell] at this
          exact this
        have kH3 : Blk (((((wr.setCell ⟨g, n * 4, none⟩ (.int .i64 ts)).setCell ⟨g, n * 4 + 1, none⟩ (.bool true)).setCell ⟨g, n * 4 + 2, none⟩ (.int .i64 0)).setCell ⟨g, n * 4 + 3, none⟩ (.slice none 0 0)).alloc (.cells #[.int .i64 ts, .slice Aw ws.length cw, .slice Ar rs.length cr] 38)) w.heap.size 24 #[.slice (some ⟨b, off, none⟩) H.length c] := ((((kH.far (p := ⟨g, n * 4, none⟩) (by show w.heap.size ≠ g; omega) _).far (p := ⟨g, n * 4 + 1, none⟩) (by show w.heap.size ≠ g; omega) _).far (p := ⟨g, n * 4 + 2, none⟩) (by show w.heap.size ≠ g; omega) _).far (p := ⟨g, n * 4 + 3, none⟩) (by show w.heap.size ≠ g; omega) _).alloc _
        have hsz := hide (show (((((wr.setCell ⟨g, n * 4, none⟩ (.int .i64 ts)).setCell ⟨g, n * 4 + 1, none⟩ (.bool true)).setCell ⟨g, n * 4 + 2, none⟩ (.int .i64 0)).setCell ⟨g, n * 4 + 3, none⟩ (.slice none 0 0)).alloc (.cells #[.int .i64 ts, .slice Aw ws.length cw, .slice Ar rs.length cr] 38)).heap.size = wr.heap.size + 1 by simp)
        have hvn : n < vs.length := by rw [hnest.len, hlen.out]; exact hlt
        have hvo2 : ∀ (vo : Value) (q : Nat), (vs.set n (.slice none 0 0))[n]? = some vo → vo.ownBlock = some q → wr.heap.size < q := fun vo q h1 h2 => by
          rw [List.getElem?_set_self hvn] at h1
          injection h1 with h1
          subst h1
          cases h2
        have e2 := kT.cell 2
        simp only [List.getElem?_toArray, List.getElem?_cons_zero, List.getElem?_cons_succ] at e2
        replace hM := hide hM
        replace hvo := hide hvo
        clear hb
        generalize vs.set n (.slice none 0 0) = vs' at *
        go_wp2
        clear x0 x1 x2 x3 f0 f1 f2 f3 d0 d1 d2 hnest kH hM hvo
        generalize ((((wr.setCell ⟨g, n * 4, none⟩ (.int .i64 ts)).setCell ⟨g, n * 4 + 1, none⟩ (.bool true)).setCell ⟨g, n * 4 + 2, none⟩ (.int .i64 0)).setCell ⟨g, n * 4 + 3, none⟩ (.slice none 0 0)).alloc (.cells #[.int .i64 ts, .slice Aw ws.length cw, .slice Ar rs.length cr] 38) = Wr at *
        generalize hN6 : wr.heap.size = N6 at *
        generalize wr = Wo at *
        go_loopw [35] (fun s35 wr => ∃ (j : Nat) (vs : List Value), j ≤ rs.length ∧ s35 = .int .i64 j ∧ NestT wr (w.heap.size + 1) 49 56 (.slice (some ⟨g, 0, none⟩) H.length H.length) (M.set n ⟨ts, true, 0, rdOps ⟨ts, ws, rs⟩ j⟩) vs ∧ Below w.heap.size w wr ∧ Blk wr w.heap.size 24 #[.slice (some ⟨b, off, none⟩) H.length c] ∧ Blk wr N6 38 #[.int .i64 ts, .slice Aw ws.length cw, .slice Ar rs.length cr] ∧ Hid (∀ (vo : Value) (q : Nat), vs[n]? = some vo → vo.ownBlock = some q → N6 < q)) (fun s35 _ => rs.length - (intOf s35).toNat)
        case atStart => exact ⟨0, _, Nat.zero_le _, by go_num, hnR, hbR, kH3, kT, hvo2⟩
        case round =>
          clear hnR hbR kH3 kT hvo2 e2 hsz
          obtain ⟨j, vs2, hj, rfl, hnest, hb, kH, kT, hvo2⟩ := hrel
          have hj1 : (0 : Int) ≤ (j : Int) := Int.natCast_nonneg _
          by_cases hjl : j < rs.length
          · have hj2 : (j : Int) < (rs.length : Int) := by omega
            obtain ⟨br, or_, rfl, hbr, ec0, ec1⟩ := ItS.at_ (ItS.keep hrs (Agree.below hb fun b h => h) (fun b h => h)) hjl
            have hx := hfr.out _ (List.getElem_mem hjl)
            have hst := hide (rdOps_step (t := ⟨ts, ws, rs⟩) (j := j) hjl)
            dsimp only at hst
            generalize rs[j] = x at *
            obtain ⟨xa, xb⟩ := x
            dsimp only at ec0 ec1 hx hst
            have hbs := hb.size
            have hOl := rdOps_len ⟨ts, ws, rs⟩ j
            dsimp only at hOl
            generalize hOd : rdOps ⟨ts, ws, rs⟩ j = O at *
            replace hOd := hide hOd
            replace hnest := hnest.alloc (.cells #[.int .i64 xa, .int .i64 xb] 40)
            replace hb := hb.alloc hb.size (.cells #[.int .i64 xa, .int .i64 xb] 40)
            replace kH := kH.alloc (.cells #[.int .i64 xa, .int .i64 xb] 40)
            have kTl := kT.lt
            replace kT := kT.alloc (.cells #[.int .i64 xa, .int .i64 xb] 40)
            have kX := Blk.new wr 40 #[.int .i64 xa, .int .i64 xb]
            have hgW : g < (wr.alloc (.cells #[.int .i64 xa, .int .i64 xb] 40)).heap.size := by simp; omega
            have hNW : N6 < (wr.alloc (.cells #[.int .i64 xa, .int .i64 xb] 40)).heap.size := by simp; omega
            have hbW : w.heap.size + 1 ≤ (wr.alloc (.cells #[.int .i64 xa, .int .i64 xb] 40)).heap.size := by simp; omega
            go_wp2_with fail
            generalize wr.alloc (.cells #[.int .i64 xa, .int .i64 xb] 40) = WA at *
            generalize wr.heap.size = N8 at *
            have u0 := kX.cell 0
            have u1 := kX.cell 1
            have v0 := kT.cell 0
            simp only [List.getElem?_toArray, List.getElem?_cons_zero, List.getElem?_cons_succ] at u0 u1 v0
            clear ec0 ec1 kX
            have hw1 : IntKind.i64.wrap (xb + 1) = xb + 1 := by rw [IntKind.wrap_i64]; omega
            have hL : (M.set n ⟨ts, true, 0, O⟩).length = H.length := by rw [List.length_set]; exact hlen.out
            replace hL := hide hL
            have hMn : (M.set n ⟨ts, true, 0, O⟩)[n]? = some ⟨ts, true, 0, O⟩ := List.getElem?_set_self (by rw [hlen.out]; exact hlt)
            obtain ⟨vo, hvo⟩ := hnest.at_ (i := n) (by rw [hL.out]; exact hlt)
            have hvq := hide (fun q => hvo2.out vo q hvo)
            have hvl := hide (fun q (hq : vo.ownBlock = some q) => (hnest.ops n vo _ hvo hMn).lt q hq)
            have hne : vo.ownBlock ≠ some g := fun e => hnest.out n vo g hvo e rfl
            obtain ⟨_, _, _, x3⟩ := NestT.cellsN hL.out hnest hMn hvo
            have f3 := NestT.frozenN hL.out hnest (n * 4 + 3)
            obtain ⟨Ao, co, rfl⟩ := own_slice (hnest.ops n vo _ hvo hMn)
            dsimp only at x3 hvq hvl hne
            have hnX := (hnest.alloc (.cells #[.int .i64 1, .int .i64 ts, .int .i64 xa, .int .i64 (xb + 1)] 56)).drew
            have hownX : ((WA.alloc (.cells #[.int .i64 1, .int .i64 ts, .int .i64 xa, .int .i64 (xb + 1)] 56)).drew).ownsRow (w.heap.size + 1) 56 4 (.slice Ao O.length co) O.length (O.map Ev.enc).flatten := hnX.ops n _ _ hvo hMn
            have kN := hide (show SlR 4 (Flat Ev.enc) ((WA.alloc (.cells #[.int .i64 1, .int .i64 ts, .int .i64 xa, .int .i64 (xb + 1)] 56)).drew) (fun _ => True) (.slice (some ⟨WA.heap.size, 0, none⟩) 1 1) [(⟨1, ts, xa, (xb + 1)⟩ : Ev)] from SlR.one (R := Flat Ev.enc) (size := 4) (K := fun _ => True) (x := (⟨1, ts, xa, (xb + 1)⟩ : Ev)) (w := ((WA.alloc (.cells #[.int .i64 1, .int .i64 ts, .int .i64 xa, .int .i64 (xb + 1)] 56)).drew)) (Blk.new WA 56 #[.int .i64 1, .int .i64 ts, .int .i64 xa, .int .i64 (xb + 1)]) rfl rfl trivial)
            have hbX : Below w.heap.size w ((WA.alloc (.cells #[.int .i64 1, .int .i64 ts, .int .i64 xa, .int .i64 (xb + 1)] 56)).drew) := (hb.alloc hb.size _).drew
            have kHX : Blk ((WA.alloc (.cells #[.int .i64 1, .int .i64 ts, .int .i64 xa, .int .i64 (xb + 1)] 56)).drew) w.heap.size 24 _ := (kH.alloc _).drew
            have kTX : Blk ((WA.alloc (.cells #[.int .i64 1, .int .i64 ts, .int .i64 xa, .int .i64 (xb + 1)] 56)).drew) N6 38 _ := (kT.alloc _).drew
            have z3 : ((WA.alloc (.cells #[.int .i64 1, .int .i64 ts, .int .i64 xa, .int .i64 (xb + 1)] 56)).drew).cell? ⟨g, n * 4 + 3, none⟩ = some (.slice Ao O.length co) := (World.cell?_of_block (Below.heap_alloc WA (.cells #[.int .i64 1, .int .i64 ts, .int .i64 xa, .int .i64 (xb + 1)] 56) g hgW)).trans x3
            have zf : ((WA.alloc (.cells #[.int .i64 1, .int .i64 ts, .int .i64 xa, .int .i64 (xb + 1)] 56)).drew).frozen? ⟨g, n * 4 + 3, none⟩ = false := (World.frozen?_of_block (Below.heap_alloc WA (.cells #[.int .i64 1, .int .i64 ts, .int .i64 xa, .int .i64 (xb + 1)] 56) g hgW)).trans f3
            have hsX : w.heap.size + 1 ≤ ((WA.alloc (.cells #[.int .i64 1, .int .i64 ts, .int .i64 xa, .int .i64 (xb + 1)] 56)).drew).heap.size := by simp; omega
            have hsX2 : ((WA.alloc (.cells #[.int .i64 1, .int .i64 ts, .int .i64 xa, .int .i64 (xb + 1)] 56)).drew).heap.size = WA.heap.size + 1 := by simp
            replace hsX2 := hide hsX2
            have hvn2 : n < vs2.length := by rw [hnest.len, hL.out]; exact hlt
            replace hMn := hide hMn
            replace hvo := hide hvo
            replace hnX := hide hnX
            replace kHX := hide kHX
            replace kTX := hide kTX
            clear hnest hb kH kT hvo2
            refine wp_region_plan [0, 1, 2, 3, 4, 5, 6, 7, 8, 9, 10, 11, 12, 13, 14] [15, 16, 17, 18, 19] (by kernel_rfl) (by kernel_rfl) (fun _ _ d _ _ h => by cases d <;> exact h) ?_
            simp only [List.filterMap_cons, List.filterMap_nil, List.getElem?_cons_zero, List.getElem?_cons_succ]
            repeat still_step
            refine wpStill_nil ?_
            clear x3 f3
            refine wpList_plain rfl (fun K hK => ?_)
            go_simp
            refine hK _ _ ?_
            clear hK K
            refine wpList_append_flat (enc := Ev.enc) rfl (.tmp 45) (.tmp 54) 41 rfl (w.heap.size + 1) 56 ie _ 4 32 Tryz.underlying41 hie hie1 hie2 hie3 rfl (by decide) (.slice Ao O.length co) (fun _ => True) O rfl hownX (fun _ => rfl) _ [(⟨1, ts, xa, (xb + 1)⟩ : Ev)] rfl kN.out encE5 (by simp [maxLen]; omega) (by simp; omega) hsX ?_
            intro v6 W6 hown6 hgrow6 hat6
            have hgX : g < ((WA.alloc (.cells #[.int .i64 1, .int .i64 ts, .int .i64 xa, .int .i64 (xb + 1)] 56)).drew).heap.size := by rw [hsX2.out]; omega
            have hv6 := hide (fun q (hq : v6.ownBlock = some q) => (by
              rcases hat6 with e | e
              · rw [e] at hq; exact hvq.out q hq
              · rw [e, hsX2.out] at hq; injection hq with hq; omega : N6 < q))
            obtain ⟨A6, c6, rfl⟩ := own_slice hown6
            have tc := hgrow6.cell z3 (fun e => hne e.symm)
            have tf := (World.frozen?_of_block (a := ⟨g, n * 4 + 3, none⟩) (hgrow6.block g hgX (fun e => hne e.symm))).trans zf
            have hn6 := hide (NestT.addOpN hL.out hnX.out hMn.out hvo.out hown6 hgrow6 hat6)
            have kH6 := hide ((kHX.out.grown hgrow6 (fun e => by have := (hvl.out _ e.symm).1; omega)).far (p := ⟨g, n * 4 + 3, none⟩) (by show w.heap.size ≠ g; omega) (.slice A6 (O ++ [(⟨1, ts, xa, (xb + 1)⟩ : Ev)]).length c6))
            have kT6 := hide ((kTX.out.grown hgrow6 (fun e => by have := hvq.out _ e.symm; omega)).far (p := ⟨g, n * 4 + 3, none⟩) (by show N6 ≠ g; omega) (.slice A6 (O ++ [(⟨1, ts, xa, (xb + 1)⟩ : Ev)]).length c6))
            have hb6 := hide ((hbX.grown hgrow6 hbX.size (fun q hq => by have := (hvl.out q hq).1; omega)).setCell (p := ⟨g, n * 4 + 3, none⟩) (by show _ ≤ g; omega) (.slice A6 (O ++ [(⟨1, ts, xa, (xb + 1)⟩ : Ev)]).length c6))
            have hlen6 : (O ++ [(⟨1, ts, xa, (xb + 1)⟩ : Ev)]).length = O.length + 1 := by simp
            rw [hlen6] at hn6 kH6 kT6 hb6 hv6
            rw [List.set_set] at hn6
            clear hgrow6 hown6 hat6 z3 zf hbX hnX kHX kTX hownX kN hlen6
            go_wp2
            go_roundw
            case rel =>
              refine ⟨j + 1, _, by omega, by go_num, by rw [hst.out]; exact hn6.out, hb6.out, kH6.out, kT6.out, fun vo q h1 h2 => ?_⟩
              rw [List.getElem?_set_self hvn2] at h1
              injection h1 with h1
              subst h1
              exact hv6.out q h2
            case measure => simp [intOf]; omega
          · obtain rfl : j = rs.length := by omega
            have e1 := kT.cell 1
            simp only [List.getElem?_toArray, List.getElem?_cons_zero, List.getElem?_cons_succ] at e1
            rw [← wrOps_zero _ n] at hnest
            go_wp2
            generalize wr = Wq at *
            go_loopw [10, 62] (fun s10 s62 wr => ∃ (j : Nat) (vs : List Value), j ≤ ws.length ∧ s62 = .int .i64 j ∧ NestT wr (w.heap.size + 1) 49 56 (.slice (some ⟨g, 0, none⟩) H.length H.length) (M.set n ⟨ts, true, 0, wrOps ⟨ts, ws, rs⟩ n j⟩) vs ∧ Below w.heap.size w wr ∧ Blk wr w.heap.size 24 #[.slice (some ⟨b, off, none⟩) H.length c] ∧ Blk wr N6 38 #[.int .i64 ts, .slice Aw ws.length cw, .slice Ar rs.length cr] ∧ Hid (∀ (vo : Value) (q : Nat), vs[n]? = some vo → vo.ownBlock = some q → N6 < q)) (fun _ s62 _ => ws.length - (intOf s62).toNat)
            case atStart => exact ⟨0, _, Nat.zero_le _, by go_num, hnest, hb, kH, kT, hvo2⟩
            case round =>
              clear hnest hb kH kT hvo2 e1 hj hjl
              obtain ⟨j, vs2, hj, rfl, hnest, hb, kH, kT, hvo2⟩ := hrel
              have hj1 : (0 : Int) ≤ (j : Int) := Int.natCast_nonneg _
              by_cases hjl : j < ws.length
              · have hj2 : (j : Int) < (ws.length : Int) := by omega
                obtain ⟨br, or_, rfl, hbr, ec0⟩ := IntS.at_ (IntS.keep hws (Agree.below hb fun b h => h) (fun b h => h)) hjl
                have hst := hide (wrOps_step (t := ⟨ts, ws, rs⟩) (n := n) (j := j) hjl)
                dsimp only at hst
                generalize ws[j] = xa at *
                have hOl := wrOps_len ⟨ts, ws, rs⟩ n j
                dsimp only at hOl
                generalize hOd : wrOps ⟨ts, ws, rs⟩ n j = O at *
                replace hOd := hide hOd
                have kTl := kT.lt
                have hNW : N6 < wr.heap.size := kTl
                have hgW : g < wr.heap.size := by omega
                have hbW : w.heap.size + 1 ≤ wr.heap.size := by omega
                have v0 := kT.cell 0
                simp only [List.getElem?_toArray, List.getElem?_cons_zero, List.getElem?_cons_succ] at v0
                go_wp2_with fail
                clear ec0
                generalize wr = WA at *
                have hw1 : IntKind.i64.wrap ((n : Int) + 1) = (n : Int) + 1 := by rw [IntKind.wrap_i64]; omega
                have hL : (M.set n ⟨ts, true, 0, O⟩).length = H.length := by rw [List.length_set]; exact hlen.out
                replace hL := hide hL
                have hMn : (M.set n ⟨ts, true, 0, O⟩)[n]? = some ⟨ts, true, 0, O⟩ := List.getElem?_set_self (by rw [hlen.out]; exact hlt)
                obtain ⟨vo, hvo⟩ := hnest.at_ (i := n) (by rw [hL.out]; exact hlt)
                have hvq := hide (fun q => hvo2.out vo q hvo)
                have hvl := hide (fun q (hq : vo.ownBlock = some q) => (hnest.ops n vo _ hvo hMn).lt q hq)
                have hne : vo.ownBlock ≠ some g := fun e => hnest.out n vo g hvo e rfl
                obtain ⟨_, _, _, x3⟩ := NestT.cellsN hL.out hnest hMn hvo
                have f3 := NestT.frozenN hL.out hnest (n * 4 + 3)
                obtain ⟨Ao, co, rfl⟩ := own_slice (hnest.ops n vo _ hvo hMn)
                dsimp only at x3 hvq hvl hne
                have hnX := (hnest.alloc (.cells #[.int .i64 2, .int .i64 ts, .int .i64 xa, .int .i64 ((n : Int) + 1)] 56)).drew
                have hownX : ((WA.alloc (.cells #[.int .i64 2, .int .i64 ts, .int .i64 xa, .int .i64 ((n : Int) + 1)] 56)).drew).ownsRow (w.heap.size + 1) 56 4 (.slice Ao O.length co) O.length (O.map Ev.enc).flatten := hnX.ops n _ _ hvo hMn
                have kN := hide (show SlR 4 (Flat Ev.enc) ((WA.alloc (.cells #[.int .i64 2, .int .i64 ts, .int .i64 xa, .int .i64 ((n : Int) + 1)] 56)).drew) (fun _ => True) (.slice (some ⟨WA.heap.size, 0, none⟩) 1 1) [(⟨2, ts, xa, ((n : Int) + 1)⟩ : Ev)] from SlR.one (R := Flat Ev.enc) (size := 4) (K := fun _ => True) (x := (⟨2, ts, xa, ((n : Int) + 1)⟩ : Ev)) (w := ((WA.alloc (.cells #[.int .i64 2, .int .i64 ts, .int .i64 xa, .int .i64 ((n : Int) + 1)] 56)).drew)) (Blk.new WA 56 #[.int .i64 2, .int .i64 ts, .int .i64 xa, .int .i64 ((n : Int) + 1)]) rfl rfl trivial)
                have hbX : Below w.heap.size w ((WA.alloc (.cells #[.int .i64 2, .int .i64 ts, .int .i64 xa, .int .i64 ((n : Int) + 1)] 56)).drew) := (hb.alloc hb.size _).drew
                have kHX : Blk ((WA.alloc (.cells #[.int .i64 2, .int .i64 ts, .int .i64 xa, .int .i64 ((n : Int) + 1)] 56)).drew) w.heap.size 24 _ := (kH.alloc _).drew
                have kTX : Blk ((WA.alloc (.cells #[.int .i64 2, .int .i64 ts, .int .i64 xa, .int .i64 ((n : Int) + 1)] 56)).drew) N6 38 _ := (kT.alloc _).drew
                have z3 : ((WA.alloc (.cells #[.int .i64 2, .int .i64 ts, .int .i64 xa, .int .i64 ((n : Int) + 1)] 56)).drew).cell? ⟨g, n * 4 + 3, none⟩ = some (.slice Ao O.length co) := (World.cell?_of_block (Below.heap_alloc WA (.cells #[.int .i64 2, .int .i64 ts, .int .i64 xa, .int .i64 ((n : Int) + 1)] 56) g hgW)).trans x3
                have zf : ((WA.alloc (.cells #[.int .i64 2, .int .i64 ts, .int .i64 xa, .int .i64 ((n : Int) + 1)] 56)).drew).frozen? ⟨g, n * 4 + 3, none⟩ = false := (World.frozen?_of_block (Below.heap_alloc WA (.cells #[.int .i64 2, .int .i64 ts, .int .i64 xa, .int .i64 ((n : Int) + 1)] 56) g hgW)).trans f3
                have hsX : w.heap.size + 1 ≤ ((WA.alloc (.cells #[.int .i64 2, .int .i64 ts, .int .i64 xa, .int .i64 ((n : Int) + 1)] 56)).drew).heap.size := by simp; omega
                have hsX2 : ((WA.alloc (.cells #[.int .i64 2, .int .i64 ts, .int .i64 xa, .int .i64 ((n : Int) + 1)] 56)).drew).heap.size = WA.heap.size + 1 := by simp
                replace hsX2 := hide hsX2
                have hvn2 : n < vs2.length := by rw [hnest.len, hL.out]; exact hlt
                replace hMn := hide hMn
                replace hvo := hide hvo
                replace hnX := hide hnX
                replace kHX := hide kHX
                replace kTX := hide kTX
                clear hnest hb kH kT hvo2
                refine wp_region_plan [0, 1, 2, 3, 4, 5, 6, 7, 8, 9, 10, 11, 12] [13, 14, 15, 16, 17] (by kernel_rfl) (by kernel_rfl) (fun _ _ d _ _ h => by cases d <;> exact h) ?_
                simp only [List.filterMap_cons, List.filterMap_nil, List.getElem?_cons_zero, List.getElem?_cons_succ]
                repeat still_step
                refine wpStill_nil ?_
                clear x3 f3
                refine wpList_plain rfl (fun K hK => ?_)
                go_simp
                refine hK _ _ ?_
                clear hK K
                refine wpList_append_flat (enc := Ev.enc) rfl (.tmp 72) (.tmp 79) 41 rfl (w.heap.size + 1) 56 ie _ 4 32 Tryz.underlying41 hie hie1 hie2 hie3 rfl (by decide) (.slice Ao O.length co) (fun _ => True) O rfl hownX (fun _ => rfl) _ [(⟨2, ts, xa, ((n : Int) + 1)⟩ : Ev)] rfl kN.out encE5 (by simp [maxLen]; omega) (by simp; omega) hsX ?_
                intro v6 W6 hown6 hgrow6 hat6
                have hgX : g < ((WA.alloc (.cells #[.int .i64 2, .int .i64 ts, .int .i64 xa, .int .i64 ((n : Int) + 1)] 56)).drew).heap.size := by rw [hsX2.out]; omega
                have hv6 := hide (fun q (hq : v6.ownBlock = some q) => (by
                  rcases hat6 with e | e
                  · rw [e] at hq; exact hvq.out q hq
                  · rw [e, hsX2.out] at hq; injection hq with hq; omega : N6 < q))
                obtain ⟨A6, c6, rfl⟩ := own_slice hown6
                have tc := hgrow6.cell z3 (fun e => hne e.symm)
                have tf := (World.frozen?_of_block (a := ⟨g, n * 4 + 3, none⟩) (hgrow6.block g hgX (fun e => hne e.symm))).trans zf
                have hn6 := hide (NestT.addOpN hL.out hnX.out hMn.out hvo.out hown6 hgrow6 hat6)
                have kH6 := hide ((kHX.out.grown hgrow6 (fun e => by have := (hvl.out _ e.symm).1; omega)).far (p := ⟨g, n * 4 + 3, none⟩) (by show w.heap.size ≠ g; omega) (.slice A6 (O ++ [(⟨2, ts, xa, ((n : Int) + 1)⟩ : Ev)]).length c6))
                have kT6 := hide ((kTX.out.grown hgrow6 (fun e => by have := hvq.out _ e.symm; omega)).far (p := ⟨g, n * 4 + 3, none⟩) (by show N6 ≠ g; omega) (.slice A6 (O ++ [(⟨2, ts, xa, ((n : Int) + 1)⟩ : Ev)]).length c6))
                have hb6 := hide ((hbX.grown hgrow6 hbX.size (fun q hq => by have := (hvl.out q hq).1; omega)).setCell (p := ⟨g, n * 4 + 3, none⟩) (by show _ ≤ g; omega) (.slice A6 (O ++ [(⟨2, ts, xa, ((n : Int) + 1)⟩ : Ev)]).length c6))
                have hlen6 : (O ++ [(⟨2, ts, xa, ((n : Int) + 1)⟩ : Ev)]).length = O.length + 1 := by simp
                rw [hlen6] at hn6 kH6 kT6 hb6 hv6
                rw [List.set_set] at hn6
                clear hgrow6 hown6 hat6 z3 zf hbX hnX kHX kTX hownX kN hlen6
                go_wp2
                go_roundw
                case rel =>
                  refine ⟨j + 1, _, by omega, by go_num, by rw [hst.out]; exact hn6.out, hb6.out, kH6.out, kT6.out, fun vo q h1 h2 => ?_⟩
                  rw [List.getElem?_set_self hvn2] at h1
                  injection h1 with h1
                  subst h1
                  exact hv6.out q h2
                case measure => simp [intOf]; omega
              · obtain rfl : j = ws.length := by omega
                rw [wrOps_all, show (⟨ts, true, 0, opsOf ⟨ts, ws, rs⟩ n⟩ : Tx) = txOf ⟨ts, ws, rs⟩ n from rfl, hstep.out] at hnest
                have hgl : g < wr.heap.size := Nat.lt_trans hgw kT.lt
                go_wp2
                go_roundw
                case rel => exact ⟨n + 1, vs2, by omega, by go_num, by rw [hMd.out]; exact hnest, hb, kH, hgl⟩
                case measure => simp [intOf]; omega
      · obtain rfl : n = H.length := by omega
        rw [fillT_all] at hnest
        have hS : TxS wr (Old wr) (.slice (some ⟨g, 0, none⟩) (txsOf H).length H.length) (txsOf H) := by
          rw [txsOf_len]
          exact TxS.fit hnest.txs (fun b h => h.2)
        have hec := events5_any (txsOf H) (some ⟨g, 0, none⟩) H.length wr hS (by rw [txsOf_len]; omega) (fun t ht => by
          obtain ⟨i, hi, rfl⟩ := List.getElem_of_mem ht
          rw [txsOf_at hi]
          rw [txsOf_len] at hi
          obtain ⟨l1, l2⟩ := ok_len (hok.out i hi)
          simp [txOf, opsOf]
          omega)
        rw [txsOf_len] at hec
        have hev := henv.below hb
        have hle : (eventsR (txsOf H)).length ≤ maxLen := by
          have := eventsR_le (txsOf H) fun t ht => by
            obtain ⟨i, hi, rfl⟩ := List.getElem_of_mem ht
            rw [txsOf_at hi]
            rw [txsOf_len] at hi
            obtain ⟨l1, l2⟩ := ok_len (hok.out i hi)
            simp [txOf, opsOf]
            omega
          rw [txsOf_len] at this
          unfold maxLen
          omega
        replace hle := hide hle
        clear hnest hS kH henv hok hfs hfl
        generalize eventsR (txsOf H) = E at *
        go_wp2_with fail
        refine hec.mono ?_
        clear hec
        rintro e w3 ⟨A', c', rfl, kE, hb3⟩
        have hB3 := hb.trans (hb3.mono hb.size)
        have hev3 := hev.below hb3
        have kE3 := EvS.fit (K' := Old w3) kE (fun b h => h.2)
        have hdc := dshow_any A' c' E w3 kE3 hle.out hev3
        clear kE hb3 hev
        go_wp2_with fail
        refine hdc.mono ?_
        rintro e w4 ⟨rfl, hb4⟩
        go_wp2
        go_ret2
        exact ⟨by rw [hsh.out]; rfl, hB3.trans (hb4.mono hB3.size)⟩
end Go.Proofs.YtphcebgpllecjaaGreatDoor
