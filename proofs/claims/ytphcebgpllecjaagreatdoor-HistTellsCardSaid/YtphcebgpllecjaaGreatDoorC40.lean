/-
  Walks: the reference of layer 8: Show.
-/
import Derived.Test.YtphcebgpllecjaaGreatDoorC39
import Derived.Test.YtphcebgpllecjaaGreatDoorC24
set_option linter.unusedVariables false
set_option linter.unusedSimpArgs false
namespace Go.Proofs.YtphcebgpllecjaaGreatDoor
open Go.RowKit Go.Inq
set_option maxHeartbeats 4000000
attribute [local go_sem ↓] Go.wp_at_zero Go.wp_at_succ

theorem txsOf_step {H : List Txn} {n : Nat} (h : n < H.length) : eventsR ((txsOf H).take (n + 1)) = eventsR ((txsOf H).take n) ++ txEvents (txOf H[n] n) := by
  rw [List.take_succ_eq_append_getElem (by rw [txsOf_len]; exact h), eventsR_snoc, txsOf_at]
set_option maxRecDepth 100000 in
theorem show08_any (A : Option Addr) (c : Nat) (H : List Txn) (w : World) (h : TxnS w (Old w) (.slice A H.length c) H) (hn : SmallH H) :
    Calls Tryz.prog 9 #[.agg #[.slice A H.length c]] w fun e w' => e = .returned (.tuple #[.string (mk (showH H).1), .int .i64 (showH H).2]) ∧ Below w.heap.size w w' := by
  obtain ⟨ie, hie, hie1, hie2, hie3⟩ := info_parts infoE5
  have hmax := hn.1
  have hA : Below w.heap.size w (w.alloc (.cells #[.slice A H.length c] 24)) := (Below.refl _ _).alloc (Nat.le_refl _) _
  have kH : Blk (w.alloc (.cells #[.slice A H.length c] 24)) w.heap.size 24 #[.slice A H.length c] := Blk.new _ _ _
  have hc := right08_any A c H _ (TxnS.below h hA) hn
  go_enter Tryz.func9, Tryz.ntmps9
  go_wp2_with fail
  refine hc.mono ?_
  clear hc
  rintro e w1 ⟨rfl, hb1⟩
  have kH1 := kH.below hb1 kH.lt
  have hB1 := hA.trans (hb1.mono hA.size)
  clear hA kH hb1
  cases hr : rightH H with
  | false =>
    have hsh := hide (showH_bad hr)
    clear hr
    go_wp2
    go_ret2
    exact ⟨by rw [hsh.out]; rfl, hB1⟩
  | true =>
    obtain ⟨h32, hok⟩ := (rightH_iff H).1 hr
    have hsh : showH H = showD (eventsR (txsOf H)) := by unfold showH; rw [if_neg (by simp [hr])]
    replace hok := hide hok
    replace hsh := hide hsh
    have hst := hide (fun n hn => txsOf_step (H := H) (n := n) hn)
    have hlt0 := hide (fun n => eventsR_le ((txsOf H).take n) fun t ht => by
      obtain ⟨i, hi, rfl⟩ := List.getElem_of_mem (List.mem_of_mem_take ht)
      rw [txsOf_at hi]
      rw [txsOf_len] at hi
      obtain ⟨l1, l2⟩ := ok_len (hok.out i hi)
      simp [txOf, opsOf]
      omega)
    clear hr
    have hs1 : w.heap.size + 1 ≤ w1.heap.size := kH1.lt
    go_wp2_with fail
    go_loopw [5, 6] (fun s5 s6 wr => ∃ (n : Nat) (v : Value), n ≤ H.length ∧ s6 = .int .i64 n ∧ v = s5 ∧ wr.ownsRow (w.heap.size + 1) 56 4 v (eventsR ((txsOf H).take n)).length ((eventsR ((txsOf H).take n)).map Ev.enc).flatten ∧ Below w.heap.size w wr ∧ Blk wr w.heap.size 24 #[.slice A H.length c]) (fun _ s6 _ => H.length - (intOf s6).toNat)
    case atStart => exact ⟨0, _, Nat.zero_le _, by go_num, rfl, by simpa [eventsR] using World.ownsRow_nil _ _ _ _, hB1, kH1⟩
    case round =>
      clear hB1 kH1 hs1
      obtain ⟨n, v, hnl, rfl, rfl, hown, hb, kH⟩ := hrel
      have hn1 : (0 : Int) ≤ (n : Int) := Int.natCast_nonneg _
      have y0 := kH.cell 0
      simp only [List.getElem?_toArray, List.getElem?_cons_zero] at y0
      by_cases hlt : n < H.length
      · have hn2 : (n : Int) < (H.length : Int) := by omega
        obtain ⟨b, off, Aw, cw, Ar, cr, rfl, hbK, d0, d1, d2, hws, hrs⟩ := TxnS.at_ (TxnS.keep h (Agree.below hb fun b h => h) (fun b h => Nat.lt_of_lt_of_le h hb.size)) hlt
        have hto := hok.out n hlt
        have hs2 := hst.out n hlt
        have hle := hlt0.out n
        have htl : ((txsOf H).take n).length ≤ 32 := Nat.le_trans (List.length_take_le _ _) (by omega)
        obtain ⟨l1, l2⟩ := ok_len hto
        have hfr := fun x hx => from_le hto h32 (x := x) hx
        generalize H[n] = t at *
        obtain ⟨ts, ws, rs⟩ := t
        dsimp only at d0 d1 d2 hws hrs l1 l2 hfr
        have hc := events08_any ts ws rs Aw Ar cw cr n wr hws hrs (by omega) (by omega) (by omega) (fun x hx => by have := hfr x hx; omega)
        have hel : (txEvents (txOf ⟨ts, ws, rs⟩ n)).length ≤ 100 := by simp [txEvents, txOf, opsOf]; omega
        replace hs2 := hide hs2
        generalize txEvents (txOf ⟨ts, ws, rs⟩ n) = X at *
        generalize eventsR ((txsOf H).take n) = O at *
        clear hfr hto
        go_wp2_with fail
        refine hc.mono ?_
        clear hc
        rintro e w2 ⟨A2, c2, rfl, k2, hb2⟩
        have kH2 := kH.below hb2 kH.lt
        have hB2 := hb.trans (hb2.mono hb.size)
        have hown2 := own_below hown hb2 (Nat.le_refl _)
        have hkl := kH2.lt
        have hvl := hide (fun g hg => hown2.lt g hg)
        clear hown hb kH hb2 y0 d0 d1 d2 hws hrs
        go_wp2_with (at_builtin; refine wpList_append_flat (enc := Ev.enc) rfl (.tmp 20) (.tmp 27) 41 rfl (w.heap.size + 1) 56 ie _ 4 32 Tryz.underlying41 hie hie1 hie2 hie3 rfl (by decide) v _ O rfl hown2 (fun _ => rfl) _ X rfl k2 encE5 (by simp [maxLen]; omega) (by omega) (by omega) ?_; intro v6 W6 hown6 hgrow6 hat6)
        have hb6 := hB2.grown hgrow6 hB2.size (fun g hg => by have := (hvl.out g hg).1; omega)
        have kH6 := kH2.grown hgrow6 (fun e => by have := (hvl.out _ e.symm).1; omega)
        clear hgrow6 hat6
        go_roundw
        case rel => exact ⟨n + 1, v6, by omega, by go_num, rfl, by rw [hs2.out]; exact hown6, hb6, kH6⟩
        case measure => simp [intOf]; omega
      · obtain rfl : n = H.length := by omega
        have hle := hlt0.out H.length
        rw [List.take_of_length_le (by rw [txsOf_len]; exact Nat.le_refl _)] at hown hle
        rw [txsOf_len] at hle
        generalize eventsR (txsOf H) = E at *
        obtain ⟨A6, c6, rfl⟩ := own_slice hown
        have hS : EvS wr (Old wr) (.slice A6 E.length c6) E := SlR.of_flat hown rfl (fun _ => rfl) (fun g h1 h2 => h2)
        have hc := rdshow_any A6 c6 E wr hS (by unfold maxLen; omega)
        clear hown hle
        go_wp2_with fail
        refine hc.mono ?_
        rintro e w4 ⟨rfl, hb4⟩
        go_wp2
        go_ret2
        exact ⟨by rw [hsh.out]; rfl, hb.trans (hb4.mono hb.size)⟩
end Go.Proofs.YtphcebgpllecjaaGreatDoor
