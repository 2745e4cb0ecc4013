/-
  Walks: SourceRight.
-/
import Derived.Test.YtapkbinlhmddiaaSrc7A
import Derived.Test.YtapkbinlhmddiaaSrc7S
set_option linter.unusedVariables false
set_option linter.unusedSimpArgs false
namespace Go.Proofs.Ytapkbinlhmddiaa
open Go.RowKit Go.Inq
set_option maxHeartbeats 4000000
attribute [local go_sem ↓] Go.wp_at_zero Go.wp_at_succ

set_option maxRecDepth 100000 in
theorem right7_any (A : Option Addr) (c : Nat) (l : List Tx) (w : World) (h : TxS w (Old w) (.slice A l.length c) l) (hn : l.length ≤ maxLen) :
    Calls Try.prog 4 #[.slice A l.length c] w fun e w' => e = .returned (.bool true) ∧ Below w.heap.size w w' := by
  go_enter Try.func4, Try.ntmps4
  go_wp2_with fail
  refine (awake7_any _).mono ?_
  rintro e w1 ⟨rfl, hb1⟩
  have h1 := TxS.below h hb1
  dsimp only
  go_wp2_with fail
  refine (few7_any l A c w1 h1 hn).mono ?_
  rintro e w2 ⟨rfl, rfl⟩
  cases hf : fewB l with
  | false =>
    go_wp2
    go_ret
    exact ⟨rfl, hb1⟩
  | true =>
    have hsm := few_small hf
    have hn1 : l.length ≤ 1000 := hsm.1
    clear hf hn h
    go_wp2_with fail
    refine (hist7_any l A c w1 h1 hsm).mono ?_
    rintro e w2 ⟨v, rfl, hS, hb2⟩
    have hsH := histR_smallH l
    rcases histR_ways l with ⟨hz1, ia, hz2, hz3, hz4⟩ | ⟨hz1, hl32, g1, g2, g3, g4⟩
    · have hia : (0 : Int) ≤ (ia : Int) := Int.natCast_nonneg _
      have hia3 : (ia : Int) = 0 ∨ (ia : Int) < (l.length : Int) := by omega
      generalize histR l = r at *
      obtain ⟨rt, ra, re⟩ := r
      dsimp only at hz1 hz2 hz4 hS ⊢
      subst hz1 hz2
      obtain ⟨Av, cv, rfl⟩ := SlR.form hS
      have hb3 := hb1.trans (hb2.mono hb1.size)
      have hre : (re != 0) = true := by simpa using hz4
      simp only [List.length_nil] at hS ⊢
      clear hz4 hz3 hS hsH hb1 hb2 h1
      by_cases hi0 : ia = 0
      · subst hi0
        clear hia3
        go_wp2
        go_ret
        exact ⟨by simp, hb3.alloc hb3.size _⟩
      · have hia4 : (0 : Int) < (ia : Int) := by omega
        have hia5 : (ia : Int) < (l.length : Int) := by omega
        have hia6 : ((ia : Int) == 0) = false := by simpa using hi0
        have hia7 : 0 < ia := by omega
        clear hia3
        go_wp2
        go_ret
        exact ⟨by simp, hb3.alloc hb3.size _⟩
    · have hR := right_hist g2 g3 g4
      rw [hz1] at hS hsH ⊢
      dsimp only at hS hsH ⊢
      clear hz1 g1 g2 g3 g4
      have rnum := hR.num
      have rsess := hR.sess
      have rat := hide (fun i (hi : i < (txnsTo l l.length).length) => RightH.at_ hR hi)
      clear hR
      generalize txnsTo l l.length = rt at *
      obtain ⟨Av, cv, rfl⟩ := SlR.form hS
      have hrl : rt.length ≤ 1000 := by rw [← rnum]; exact Nat.le_trans (num7_le _ _) hn1
      have hT : TxS w2 (Old w2) (.slice A l.length c) l := TxS.below h1 hb2
      have hS1 : TxnS w2 (Old w2) (.slice Av rt.length cv) rt := TxnS.fit hS (fun b h => h.2)
      have hb3 := hb1.trans (hb2.mono hb1.size)
      have hup : Below w2.heap.size w2 (w2.alloc (.cells #[.slice Av rt.length cv] 27)) := (Below.refl _ _).alloc (Nat.le_refl _) _
      have k0 : Blk (w2.alloc (.cells #[.slice Av rt.length cv] 27)) w2.heap.size 27 #[.slice Av rt.length cv] := Blk.new _ _ _
      have hTx := hide (TxS.below hT hup)
      have hTn := hide (TxnS.below hS1 hup)
      replace hb3 := hb3.trans (hup.mono hb3.size)
      replace rnum := hide rnum
      replace rsess := hide rsess
      replace hsH := hide hsH
      clear hS hb2 hup hb1 h1 hS1 hT
      go_wp2_with fail
      generalize w2.alloc (.cells #[.slice Av rt.length cv] 27) = V at *
      generalize w2.heap.size = g at *
      have k00 := hide (fun (W : World) (hW : Below V.heap.size V W) => k0.below hW k0.lt)
      go_loopw [8, 9] (fun s8 s9 wr => ∃ i : Nat, i ≤ l.length ∧ s9 = .int .i64 i ∧ s8 = .int .i64 (numR7 l i) ∧ Below V.heap.size V wr) (fun _ s9 _ => l.length - (intOf s9).toNat)
      case atStart => exact ⟨0, Nat.zero_le _, by go_num, by go_num, Below.refl _ _⟩
      case round =>
        obtain ⟨i, hi, rfl, rfl, hb⟩ := hrel
        have hi1 : (0 : Int) ≤ (i : Int) := Int.natCast_nonneg _
        have k1 := (k0.below hb k0.lt).cell 0
        simp only [List.getElem?_toArray, List.getElem?_cons_zero] at k1
        by_cases hlt : i < l.length
        · have hi2 : (i : Int) < (l.length : Int) := by omega
          obtain ⟨b, off, A', c', rfl, hbK, d0, d1, d2, d3, -⟩ := TxS.at_ (TxS.below hTx.out hb) hlt
          have hns := hide (num7_step hlt)
          have hse := hide (rsess.out i hlt)
          generalize l[i] = t at *
          obtain ⟨ts, td, tf, xo⟩ := t
          dsimp only at d0 d1 d2 d3 hns hse
          cases td with
          | false =>
            have hn2 : Hid (numR7 l (i + 1) = numR7 l i) := hns.out
            clear hns hse
            generalize numR7 l i = nm at *
            go_wp2
            go_roundw
            case rel => exact ⟨i + 1, by omega, by go_num, by rw [hn2.out], hb⟩
            case measure => simp [intOf]; omega
          | true =>
            have hn2 : Hid (numR7 l (i + 1) = numR7 l i + 1) := hns.out
            obtain ⟨hkl, hks⟩ := hse.out rfl
            clear hns hse
            have hkt : (i : Int) < 1000 := by omega
            obtain ⟨b', off', Aw, cw, Ar, cr, rfl, hbK', e0, e1, e2, hw1, hr1⟩ := TxnS.at_ (TxnS.below hTn.out hb) hkl
            rw [hks] at e0
            clear hks hw1 hr1
            generalize numR7 l i = nm at *
            have hm0 : (0 : Int) ≤ (nm : Int) := Int.natCast_nonneg _
            have hm1 : (nm : Int) < (rt.length : Int) := by omega
            go_wp2_with fail
            go_quiet (fail)
            go_wp2
            go_roundw
            case rel => exact ⟨i + 1, by omega, by go_num, by rw [hn2.out]; go_num, ⟨hb.os, hb.tape, hb.output, hb.size, hb.block⟩⟩
            case measure => simp [intOf]; omega
        · have : i = l.length := by omega
          subst this
          rw [rnum.out]
          clear rsess
          go_wp2_with fail
          clear k1 k0
          have k0 : Blk wr g 27 #[.slice Av rt.length cv] := k00.out wr hb
          replace hTn := hide (TxnS.below hTn.out hb)
          clear hTx
          generalize wr = V1 at *
          go_loopw [10, 11, 12, 13, 14, 15, 16] (fun s10 _ _ _ _ _ _ wr => ∃ i : Nat, i ≤ rt.length ∧ s10 = .int .i64 i ∧ Below V1.heap.size V1 wr) (fun s10 _ _ _ _ _ _ _ => rt.length - (intOf s10).toNat)
          case atStart => exact ⟨0, Nat.zero_le _, by go_num, Below.refl _ _⟩
          case round =>
            clear hlt hi hi1
            obtain ⟨i, hi, rfl, hb2⟩ := hrel
            have hi1 : (0 : Int) ≤ (i : Int) := Int.natCast_nonneg _
            have k1 := (k0.below hb2 k0.lt).cell 0
            simp only [List.getElem?_toArray, List.getElem?_cons_zero] at k1
            by_cases hlt : i < rt.length
            · have hi2 : (i : Int) < (rt.length : Int) := by omega
              obtain ⟨b, off, Aw, cw, Ar, cr, rfl, hbK, e0, e1, e2, hw1, hr1⟩ := TxnS.at_ (TxnS.below hTn.out hb2) hlt
              have hrt := rat.out i hlt
              have htl := hsH.out.2 _ (List.getElem_mem hlt)
              generalize rt[i] = t at *
              obtain ⟨ts, tw, tr⟩ := t
              dsimp only at e0 e1 e2 hw1 hr1 htl
              obtain ⟨hwr, hri, hrd, hrr, hth⟩ := hrt
              dsimp only at hwr hri hrd hrr hth
              replace hwr := hide hwr
              replace hri := hide hri
              replace hrd := hide hrd
              replace hrr := hide hrr
              replace hth := hide hth
              have hup : Below wr.heap.size wr (wr.alloc (.cells #[.int .i64 ts, .slice Aw tw.length cw, .slice Ar tr.length cr] 41)) := (Below.refl _ _).alloc (Nat.le_refl _) _
              have kt : Blk (wr.alloc (.cells #[.int .i64 ts, .slice Aw tw.length cw, .slice Ar tr.length cr] 41)) wr.heap.size 41 #[.int .i64 ts, .slice Aw tw.length cw, .slice Ar tr.length cr] := Blk.new _ _ _
              have hb3' := hb2.trans (hup.mono hb2.size)
              have hgw : g < wr.heap.size := Nat.lt_of_lt_of_le k0.lt hb2.size
              have kg := (k0.below hb3' k0.lt)
              replace hw1 := hide (IntS.below hw1 hup)
              replace hr1 := hide (ItS.below hr1 hup)
              have hTn2 := hide (TxnS.below hTn.out hb3')
              clear hup k0 hTn rat
              go_wp2_with fail
              generalize wr.alloc (.cells #[.int .i64 ts, .slice Aw tw.length cw, .slice Ar tr.length cr] 41) = V2 at *
              generalize wr.heap.size = gt at *
              clear e0 e1 e2 k1
              go_loopw [12] (fun s12 wr => ∃ j : Nat, j ≤ tw.length ∧ s12 = .int .i64 j ∧ Below V2.heap.size V2 wr) (fun s12 _ => tw.length - (intOf s12).toNat)
              case atStart => exact ⟨0, Nat.zero_le _, by go_num, Below.refl _ _⟩
              case round =>
                obtain ⟨j, hj, rfl, hb⟩ := hrel
                have hj1 : (0 : Int) ≤ (j : Int) := Int.natCast_nonneg _
                have x1 := (kt.below hb kt.lt).cell 1
                simp only [List.getElem?_toArray, List.getElem?_cons_zero, List.getElem?_cons_succ] at x1
                by_cases hjl : j < tw.length
                · have hj2 : (j : Int) < (tw.length : Int) := by omega
                  obtain ⟨bw, ow, rfl, hbw, f0⟩ := IntS.at_ (IntS.below hw1.out hb) hjl
                  obtain ⟨a1, a2⟩ := hwr.out j hjl
                  have a3 : decide (tw[j] < 0) = false := by simpa using a1
                  have a4 : decide (16 ≤ tw[j]) = false := by simpa using a2
                  by_cases hj0 : 0 < j
                  · obtain ⟨m, rfl⟩ : ∃ m, j = m + 1 := ⟨j - 1, by omega⟩
                    obtain ⟨bw2, ow2, hA2, hbw2, f1⟩ := IntS.at_ (IntS.below hw1.out hb) (show m < tw.length by omega)
                    injection hA2 with hA2
                    injection hA2 with hA3 hA4
                    subst hA3 hA4
                    have hrm := hri.out m hjl
                    have a5 : decide (tw[m + 1] ≤ tw[m]) = false := by simpa using hrm
                    have hm0 : (0 : Int) ≤ (m : Int) := Int.natCast_nonneg _
                    have hm1 : (m : Int) < (tw.length : Int) := by omega
                    clear a1 a2 hrm
                    generalize tw[m + 1] = x at *
                    generalize tw[m] = y at *
                    go_wp2_with fail
                    go_quiet (fail)
                    go_wp2
                    go_roundw
                    case rel => exact ⟨m + 1 + 1, by omega, by go_num, ⟨hb.os, hb.tape, hb.output, hb.size, hb.block⟩⟩
                    case measure => simp [intOf]; omega
                  · have hjd : decide (0 < j) = false := by simpa using hj0
                    clear a1 a2 hj0
                    generalize tw[j] = x at *
                    go_wp2_with fail
                    go_quiet (fail)
                    go_wp2
                    go_roundw
                    case rel => exact ⟨j + 1, by omega, by go_num, ⟨hb.os, hb.tape, hb.output, hb.size, hb.block⟩⟩
                    case measure => simp [intOf]; omega
                · have : j = tw.length := by omega
                  subst this
                  go_wp2_with fail
                  clear x1
                  have hb4 := hb3'.trans (hb.mono hb3'.size)
                  have kt3 := kt.below hb kt.lt
                  have kg3 := kg.below hb kg.lt
                  replace hr1 := hide (ItS.below hr1.out hb)
                  have hTn3 := hide (TxnS.below hTn2.out hb)
                  clear kt kg hTn2 hw1 hwr hri hb hj hj1 hjl
                  generalize wr = V3 at *
                  go_loopw [13, 14, 15, 16] (fun s13 _ _ _ wr => ∃ j : Nat, j ≤ tr.length ∧ s13 = .int .i64 j ∧ Below V3.heap.size V3 wr) (fun s13 _ _ _ _ => tr.length - (intOf s13).toNat)
                  case atStart => exact ⟨0, Nat.zero_le _, by go_num, Below.refl _ _⟩
                  case round =>
                    obtain ⟨j, hj, rfl, hb⟩ := hrel
                    have hj1 : (0 : Int) ≤ (j : Int) := Int.natCast_nonneg _
                    have x2 := (kt3.below hb kt3.lt).cell 2
                    simp only [List.getElem?_toArray, List.getElem?_cons_zero, List.getElem?_cons_succ] at x2
                    by_cases hjl : j < tr.length
                    · have hj2 : (j : Int) < (tr.length : Int) := by omega
                      obtain ⟨bw, ow, rfl, hbw, f0, f1⟩ := ItS.at_ (ItS.below hr1.out hb) hjl
                      obtain ⟨a1, a2, a3, a4, a5⟩ := hrd.out j hjl
                      have hth2 := hth.out j hjl
                      have hup : Below wr.heap.size wr (wr.alloc (.cells #[.int .i64 tr[j].a, .int .i64 tr[j].b] 43)) := (Below.refl _ _).alloc (Nat.le_refl _) _
                      have hbz := hb.trans (hup.mono hb.size)
                      by_cases hj0 : 0 < j
                      · obtain ⟨m, rfl⟩ : ∃ m, j = m + 1 := ⟨j - 1, by omega⟩
                        obtain ⟨bw2, ow2, hA2, hbw2, p0, p1⟩ := ItS.at_ (ItS.below hr1.out hbz) (show m < tr.length by omega)
                        injection hA2 with hA2
                        injection hA2 with hA3 hA4
                        subst hA3 hA4
                        have a6 := hrr.out m hjl
                        have hm0 : (0 : Int) ≤ (m : Int) := Int.natCast_nonneg _
                        have hm1 : (m : Int) < (tr.length : Int) := by omega
                        generalize tr[m + 1] = x at *
                        generalize tr[m] = y at *
                        have a7 : decide (x.a ≤ y.a) = false := by simpa using a6
                        clear a6 p1
                        have b1 : decide (x.a < 0) = false := by simpa using a1
                        have b2 : decide (16 ≤ x.a) = false := by simpa using a2
                        have b3 : decide (x.b < -1) = false := by simpa using a3
                        have b4 : decide ((rt.length : Int) ≤ x.b) = false := by simpa using a4
                        have b5 : (x.b == (i : Int)) = false := by simpa using a5
                        have kt4 := kt3.below hbz kt3.lt
                        have kg4 := kg3.below hbz kg3.lt
                        have x2' := kt4.cell 2
                        have q0 := kg4.cell 0
                        simp only [List.getElem?_toArray, List.getElem?_cons_zero, List.getElem?_cons_succ] at x2' q0
                        have kx : Blk (wr.alloc (.cells #[.int .i64 x.a, .int .i64 x.b] 43)) wr.heap.size 43 #[.int .i64 x.a, .int .i64 x.b] := Blk.new _ _ _
                        have z0 := kx.cell 0
                        have z1 := kx.cell 1
                        simp only [List.getElem?_toArray, List.getElem?_cons_zero, List.getElem?_cons_succ] at z0 z1
                        have hTn4 := hide (TxnS.below hTn3.out hbz)
                        clear a1 a2 a5 hup
                        go_wp2_with fail
                        clear f0 f1 x2
                        generalize wr.alloc (.cells #[.int .i64 x.a, .int .i64 x.b] 43) = V4 at *
                        generalize wr.heap.size = gx at *
                        go_quiet (fail)
                        clear b1 b2 b3 b4 b5 x2' hb
                        by_cases hxn : x.b < 0
                        · have hxd : decide (x.b < 0) = true := by simpa using hxn
                          clear hxn a3 a4 hth2 q0
                          go_wp2_with fail
                          go_loopw [15, 16] (fun s15 _ wr => s15 = .bool true ∧ Below V4.heap.size V4 wr) (fun _ _ _ => 0)
                          case atStart => exact ⟨rfl, (Below.refl V4.heap.size V4).os, (Below.refl V4.heap.size V4).tape, (Below.refl V4.heap.size V4).output, (Below.refl V4.heap.size V4).size, (Below.refl V4.heap.size V4).block⟩
                          case round =>
                            obtain ⟨rfl, hbe⟩ := hrel
                            clear z0 z1
                            go_wp2
                            go_roundw
                            case rel => exact ⟨(m + 1) + 1, by omega, by go_num, hbz.trans (hbe.mono hbz.size)⟩
                            case measure => simp [intOf]; omega
                        · have hxd : decide (x.b < 0) = false := by simpa using hxn
                          obtain ⟨k, hk⟩ := Int.eq_ofNat_of_zero_le (show 0 ≤ x.b by omega)
                          have hkl : k < rt.length := by omega
                          have hmem := hth2 k hkl hk
                          obtain ⟨bk, ok, Aq, cq, Ar2, cr2, hA2, hbk, u0, u1, u2, hw2, -⟩ := TxnS.at_ hTn4.out hkl
                          injection hA2 with hA2
                          injection hA2 with hA3 hA4
                          subst hA3 hA4
                          have hmem2 := hide (fun (hno : ∀ m (hm : m < rt[k].writes.length), rt[k].writes[m] ≠ x.a) => by
                            obtain ⟨m, hm, he⟩ := List.getElem_of_mem hmem
                            exact hno m hm he)
                          have hTl := (hsH.out.2 _ (List.getElem_mem hkl)).1
                          generalize rt[k].writes = T at *
                          rw [hk] at z1 hxd
                          clear hth2 hmem hxn a3 a4 hk u0 u2
                          have hk0 : (0 : Int) ≤ (k : Int) := Int.natCast_nonneg _
                          have hk1 : (k : Int) < (rt.length : Int) := by omega
                          replace hw2 := hide hw2
                          go_wp2_with fail
                          have hV := hide (fun (W : World) (hW : Below V4.heap.size V4 W) => show W.cell? ⟨g, 0, none⟩ = _ ∧ W.cell? ⟨gx, 0, none⟩ = _ ∧ W.cell? ⟨gx, 1, none⟩ = _ ∧ W.cell? ⟨b, off + k * 3 + 1, none⟩ = _ from
                            ⟨(hW.cell (p := ⟨g, 0, none⟩) kg4.lt).trans q0, (hW.cell (p := ⟨gx, 0, none⟩) kx.lt).trans z0, (hW.cell (p := ⟨gx, 1, none⟩) kx.lt).trans z1, (hW.cell (p := ⟨b, off + k * 3 + 1, none⟩) hbk).trans u1⟩)
                          clear q0 z0 z1 u1
                          go_loopw [15, 16] (fun s15 s16 wr => ∃ (mq : Nat) (bis : Bool), mq ≤ T.length ∧ s16 = .int .i64 mq ∧ s15 = .bool bis ∧ Hid (bis = false → ∀ j (hj : j < T.length), j < mq → T[j] ≠ x.a) ∧ Below V4.heap.size V4 wr) (fun _ s16 _ => T.length - (intOf s16).toNat)
                          case atStart => exact ⟨0, false, Nat.zero_le _, by go_num, rfl, fun _ j _ h => absurd h (by omega), (Below.refl V4.heap.size V4).os, (Below.refl V4.heap.size V4).tape, (Below.refl V4.heap.size V4).output, (Below.refl V4.heap.size V4).size, (Below.refl V4.heap.size V4).block⟩
                          case round =>
                            obtain ⟨mq, bis, hm, rfl, rfl, hno, hbe⟩ := hrel
                            have hmm0 : (0 : Int) ≤ (mq : Int) := Int.natCast_nonneg _
                            cases bis with
                            | true =>
                              go_wp2
                              go_roundw
                              case rel => exact ⟨(m + 1) + 1, by omega, by go_num, hbz.trans (hbe.mono hbz.size)⟩
                              case measure => simp [intOf]; omega
                            | false =>
                              obtain ⟨q0, z0, z1, u1⟩ := hV.out wr hbe
                              by_cases hml : mq < T.length
                              · have hml2 : (mq : Int) < (T.length : Int) := by omega
                                obtain ⟨bq, oq, rfl, hbq, v0⟩ := IntS.at_ (IntS.below hw2.out hbe) hml
                                have hno2 : Hid ((T[mq] == x.a) = false → ∀ j (hj : j < T.length), j < mq + 1 → T[j] ≠ x.a) := fun hq j hj hjm => by
                                  by_cases hjj : j = mq
                                  · subst hjj; simpa using hq
                                  · exact hno.out rfl j hj (by omega)
                                generalize T[mq] = y at *
                                go_wp2_with fail
                                go_quiet (fail)
                                go_wp2
                                go_roundw
                                case rel => exact ⟨mq + 1, _, by omega, by go_num, rfl, hno2, hbe.os, hbe.tape, hbe.output, hbe.size, hbe.block⟩
                                case measure => simp [intOf]; omega
                              · exact (hmem2.out fun j hj => hno.out rfl j hj (by omega)).elim
                      · have hjd : decide (0 < j) = false := by simpa using hj0
                        clear hj0
                        generalize tr[j] = x at *
                        have b1 : decide (x.a < 0) = false := by simpa using a1
                        have b2 : decide (16 ≤ x.a) = false := by simpa using a2
                        have b3 : decide (x.b < -1) = false := by simpa using a3
                        have b4 : decide ((rt.length : Int) ≤ x.b) = false := by simpa using a4
                        have b5 : (x.b == (i : Int)) = false := by simpa using a5
                        have kt4 := kt3.below hbz kt3.lt
                        have kg4 := kg3.below hbz kg3.lt
                        have x2' := kt4.cell 2
                        have q0 := kg4.cell 0
                        simp only [List.getElem?_toArray, List.getElem?_cons_zero, List.getElem?_cons_succ] at x2' q0
                        have kx : Blk (wr.alloc (.cells #[.int .i64 x.a, .int .i64 x.b] 43)) wr.heap.size 43 #[.int .i64 x.a, .int .i64 x.b] := Blk.new _ _ _
                        have z0 := kx.cell 0
                        have z1 := kx.cell 1
                        simp only [List.getElem?_toArray, List.getElem?_cons_zero, List.getElem?_cons_succ] at z0 z1
                        have hTn4 := hide (TxnS.below hTn3.out hbz)
                        clear a1 a2 a5 hup
                        go_wp2_with fail
                        clear f0 f1 x2
                        generalize wr.alloc (.cells #[.int .i64 x.a, .int .i64 x.b] 43) = V4 at *
                        generalize wr.heap.size = gx at *
                        go_quiet (fail)
                        clear b1 b2 b3 b4 b5 x2' hb
                        by_cases hxn : x.b < 0
                        · have hxd : decide (x.b < 0) = true := by simpa using hxn
                          clear hxn a3 a4 hth2 q0
                          go_wp2_with fail
                          go_loopw [15, 16] (fun s15 _ wr => s15 = .bool true ∧ Below V4.heap.size V4 wr) (fun _ _ _ => 0)
                          case atStart => exact ⟨rfl, (Below.refl V4.heap.size V4).os, (Below.refl V4.heap.size V4).tape, (Below.refl V4.heap.size V4).output, (Below.refl V4.heap.size V4).size, (Below.refl V4.heap.size V4).block⟩
                          case round =>
                            obtain ⟨rfl, hbe⟩ := hrel
                            clear z0 z1
                            go_wp2
                            go_roundw
                            case rel => exact ⟨j + 1, by omega, by go_num, hbz.trans (hbe.mono hbz.size)⟩
                            case measure => simp [intOf]; omega
                        · have hxd : decide (x.b < 0) = false := by simpa using hxn
                          obtain ⟨k, hk⟩ := Int.eq_ofNat_of_zero_le (show 0 ≤ x.b by omega)
                          have hkl : k < rt.length := by omega
                          have hmem := hth2 k hkl hk
                          obtain ⟨bk, ok, Aq, cq, Ar2, cr2, hA2, hbk, u0, u1, u2, hw2, -⟩ := TxnS.at_ hTn4.out hkl
                          injection hA2 with hA2
                          injection hA2 with hA3 hA4
                          subst hA3 hA4
                          have hmem2 := hide (fun (hno : ∀ m (hm : m < rt[k].writes.length), rt[k].writes[m] ≠ x.a) => by
                            obtain ⟨m, hm, he⟩ := List.getElem_of_mem hmem
                            exact hno m hm he)
                          have hTl := (hsH.out.2 _ (List.getElem_mem hkl)).1
                          generalize rt[k].writes = T at *
                          rw [hk] at z1 hxd
                          clear hth2 hmem hxn a3 a4 hk u0 u2
                          have hk0 : (0 : Int) ≤ (k : Int) := Int.natCast_nonneg _
                          have hk1 : (k : Int) < (rt.length : Int) := by omega
                          replace hw2 := hide hw2
                          go_wp2_with fail
                          have hV := hide (fun (W : World) (hW : Below V4.heap.size V4 W) => show W.cell? ⟨g, 0, none⟩ = _ ∧ W.cell? ⟨gx, 0, none⟩ = _ ∧ W.cell? ⟨gx, 1, none⟩ = _ ∧ W.cell? ⟨b, off + k * 3 + 1, none⟩ = _ from
                            ⟨(hW.cell (p := ⟨g, 0, none⟩) kg4.lt).trans q0, (hW.cell (p := ⟨gx, 0, none⟩) kx.lt).trans z0, (hW.cell (p := ⟨gx, 1, none⟩) kx.lt).trans z1, (hW.cell (p := ⟨b, off + k * 3 + 1, none⟩) hbk).trans u1⟩)
                          clear q0 z0 z1 u1
                          go_loopw [15, 16] (fun s15 s16 wr => ∃ (mq : Nat) (bis : Bool), mq ≤ T.length ∧ s16 = .int .i64 mq ∧ s15 = .bool bis ∧ Hid (bis = false → ∀ j (hj : j < T.length), j < mq → T[j] ≠ x.a) ∧ Below V4.heap.size V4 wr) (fun _ s16 _ => T.length - (intOf s16).toNat)
                          case atStart => exact ⟨0, false, Nat.zero_le _, by go_num, rfl, fun _ j _ h => absurd h (by omega), (Below.refl V4.heap.size V4).os, (Below.refl V4.heap.size V4).tape, (Below.refl V4.heap.size V4).output, (Below.refl V4.heap.size V4).size, (Below.refl V4.heap.size V4).block⟩
                          case round =>
                            obtain ⟨mq, bis, hm, rfl, rfl, hno, hbe⟩ := hrel
                            have hmm0 : (0 : Int) ≤ (mq : Int) := Int.natCast_nonneg _
                            cases bis with
                            | true =>
                              go_wp2
                              go_roundw
                              case rel => exact ⟨j + 1, by omega, by go_num, hbz.trans (hbe.mono hbz.size)⟩
                              case measure => simp [intOf]; omega
                            | false =>
                              obtain ⟨q0, z0, z1, u1⟩ := hV.out wr hbe
                              by_cases hml : mq < T.length
                              · have hml2 : (mq : Int) < (T.length : Int) := by omega
                                obtain ⟨bq, oq, rfl, hbq, v0⟩ := IntS.at_ (IntS.below hw2.out hbe) hml
                                have hno2 : Hid ((T[mq] == x.a) = false → ∀ j (hj : j < T.length), j < mq + 1 → T[j] ≠ x.a) := fun hq j hj hjm => by
                                  by_cases hjj : j = mq
                                  · subst hjj; simpa using hq
                                  · exact hno.out rfl j hj (by omega)
                                generalize T[mq] = y at *
                                go_wp2_with fail
                                go_quiet (fail)
                                go_wp2
                                go_roundw
                                case rel => exact ⟨mq + 1, _, by omega, by go_num, rfl, hno2, hbe.os, hbe.tape, hbe.output, hbe.size, hbe.block⟩
                                case measure => simp [intOf]; omega
                              · exact (hmem2.out fun j hj => hno.out rfl j hj (by omega)).elim
                    · have : j = tr.length := by omega
                      subst this
                      go_wp2
                      go_roundw
                      case rel => exact ⟨i + 1, by omega, by go_num, hb4.trans (hb.mono hb4.size)⟩
                      case measure => simp [intOf]; omega
            · have : i = rt.length := by omega
              subst this
              go_wp2
              go_ret
              exact ⟨by simp, hb3.trans ((hb.trans (hb2.mono hb.size)).mono hb3.size)⟩
end Go.Proofs.Ytapkbinlhmddiaa
