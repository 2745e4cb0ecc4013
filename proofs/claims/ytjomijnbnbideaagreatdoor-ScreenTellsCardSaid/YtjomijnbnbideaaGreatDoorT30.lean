/-
  Walks: layer 19's reference: is there a direct edge.
-/
import Derived.Test.YtjomijnbnbideaaGreatDoorT29
set_option linter.unusedVariables false
set_option linter.unusedSimpArgs false
namespace Go.Proofs.YtjomijnbnbideaaGreatDoor
open Go.RowKit Go.Inq
set_option maxHeartbeats 4000000
attribute [local go_sem ↓] Go.wp_at_zero Go.wp_at_succ

theorem chosE_one {H : List Txn} {a b : Nat} {d : Cho} (ha : d.a = (a : Int)) (hb : d.b = (b : Int)) (h1 : a < H.length) (h2 : b < H.length) : chosE H a b d = oneB H d := by
  unfold chosE oneB
  have e : decide ((a : Int) ≠ (b : Int)) = decide (a ≠ b) := by rw [Bool.eq_iff_iff]; simp only [decide_eq_true_eq, ne_eq]; omega
  rw [ha, hb, wrB_nat h1, wrB_nat h2, e, decide_eq_true (rfl : (a : Int) = (a : Int)), decide_eq_true (rfl : (b : Int) = (b : Int)), Bool.true_and, Bool.true_and]
theorem chosE_no {H : List Txn} {a b : Nat} {d : Cho} (h : d.a ≠ (a : Int) ∨ d.b ≠ (b : Int)) : chosE H a b d = false := by
  unfold chosE
  rcases h with h | h <;> simp [h]
set_option maxRecDepth 100000 in
theorem rdirect19_any (A : Option Addr) (c : Nat) (H : List Txn) (Al : Option Addr) (cl : Nat) (l : List Cho) (x y : Int) (w : World) (h : TxnS w (Old w) (.slice A H.length c) H) (hn : SmallH H) (hl : ChoS w (Old w) (.slice Al l.length cl) l) (hln : l.length ≤ 1000000000) :
    Calls Tryz.prog 220 #[.agg #[.slice A H.length c], .slice Al l.length cl, .int .i64 x, .int .i64 y] w fun e w' => e = .returned (.bool (directB H l x y)) ∧ Below w.heap.size w w' := by
  obtain ⟨W0, hW0⟩ : ∃ W0, w.alloc (.cells #[.slice A H.length c] 24) = W0 := ⟨_, rfl⟩
  have hB := below_allocEq (Below.refl w.heap.size w) hW0 (Nat.le_refl _)
  have k0 := Blk.newEq hW0
  have hh := hide (fun W hb => h.below (w' := W) hb)
  have hhl := hide (fun W hb => hl.below (w' := W) hb)
  have htw := hide (rtwo19_any A c H x y W0 (h.below hB) hn)
  have c0 := k0.cell 0
  simp only [List.getElem?_toArray, List.getElem?_cons_zero] at c0
  obtain ⟨q, hq⟩ : ∃ q, directB H l x y = q := ⟨_, rfl⟩
  rw [hq]
  unfold directB at hq
  obtain ⟨t, htt⟩ : ∃ t, twoB H x y = t := ⟨_, rfl⟩
  rw [htt] at htw hq
  replace hq := hide hq
  replace htt := hide htt
  replace hn := hide hn
  clear h hl
  go_enter Tryz.func220, Tryz.ntmps220
  go_wp2_with fail
  clear hW0
  refine htw.out.mono ?_
  rintro e w1 ⟨rfl, hb1⟩
  have hB1 := hB.trans (hb1.mono hB.size)
  replace k0 := k0.below hb1 k0.lt
  have c0 := k0.cell 0
  simp only [List.getElem?_toArray, List.getElem?_cons_zero] at c0
  clear htw hb1 hB
  cases t with
  | false =>
    obtain rfl : q = false := hq.out.symm
    clear hq htt
    go_wp2
    go_ret
    exact ⟨rfl, hB1⟩
  | true =>
    obtain ⟨hr, a, b, rfl, rfl, ha, hb⟩ := twoB_iff.1 htt.out
    have ha0 : (0 : Int) ≤ (a : Int) := Int.natCast_nonneg _
    have hb0 : (0 : Int) ≤ (b : Int) := Int.natCast_nonneg _
    have ha1 : (a : Int) < (H.length : Int) := by omega
    have hb1 : (b : Int) < (H.length : Int) := by omega
    have hqq : (soE H a b || redE H a b || writE H l a b) = q := by have := hq.out; simpa [dirE] using this
    replace hqq := hide hqq
    clear hq htt hr
    obtain ⟨bt, off, Aw, cw, Ar, cr, rfl, hbK, e0, e1, e2, -, hrs⟩ := TxnS.at_ (hh.out w1 hB1) hb
    obtain ⟨bt', off', Bw, cw', Br, cr', he, -, g0, -, -, -, -⟩ := TxnS.at_ (hh.out w1 hB1) ha
    simp only [Option.some.injEq, Addr.mk.injEq, and_true] at he
    obtain ⟨rfl, rfl⟩ := he
    have hso : soE H a b = (decide (a < b) && decide (H[a].sess = H[b].sess)) := by
      unfold soE
      simp [ha, hb, txnAt_of]
    have hre : redE H a b = H[b].reads.any fun r => decide (r.b = (a : Int)) := by
      unfold redE
      rw [txnAt_of hb]
    rw [hso, hre] at hqq
    have hrl : H[b].reads.length ≤ 1000000 := (hn.out.2 _ (List.getElem_mem hb)).2
    clear hso hre hrs
    have hqs : (H[a].sess == H[b].sess) = decide (H[a].sess = H[b].sess) := by rw [Bool.eq_iff_iff]; simp
    rw [← hqs] at hqq
    clear hqs
    have hcut : Hid (∀ z, (decide (a < b) && (H[a].sess == H[b].sess)) = z → (decide ((a : Int) < (b : Int)) = false ∧ decide (a < b) = false ∧ z = false) ∨ (decide ((a : Int) < (b : Int)) = true ∧ decide (a < b) = true ∧ (H[a].sess == H[b].sess) = z)) := hide (by
      rintro z rfl
      by_cases e : a < b
      · exact .inr ⟨decide_eq_true (by omega), decide_eq_true e, by simp [e]⟩
      · exact .inl ⟨decide_eq_false (by omega), decide_eq_false e, by simp [e]⟩)
    obtain ⟨z, hz⟩ : ∃ z, (decide (a < b) && (H[a].sess == H[b].sess)) = z := ⟨_, rfl⟩
    have hcu := hcut.out z hz
    rw [hz] at hqq
    clear hcut hz
    go_upto_region 4 with fail
    go_cut [36] (fun s36 wz => s36 = .bool z ∧ Below w1.heap.size w1 wz)
    case first =>
      rcases hcu with ⟨q1, q0, rfl⟩ | ⟨q1, q0, q2⟩
      · go_wp2
        go_quiet (fail)
        go_wp2
        go_meet
        exact ⟨rfl, ⟨rfl, rfl, rfl, Nat.le_refl _, fun _ _ => rfl⟩⟩
      · go_wp2
        go_quiet (fail)
        go_wp2
        go_meet
        exact ⟨rfl, ⟨rfl, rfl, rfl, Nat.le_refl _, fun _ _ => rfl⟩⟩
    case rest =>
      obtain ⟨rfl, hbc⟩ := hcut
      have hB2 := hB1.trans (hbc.mono hB1.size)
      replace k0 := k0.below hbc k0.lt
      clear hcu e0 e1 e2 g0 hbc hB1 c0
      cases z with
      | true =>
        obtain rfl : q = true := by have := hqq.out; simpa using this.symm
        clear hqq
        go_wp2
        go_ret
        exact ⟨rfl, hB2⟩
      | false =>
        rw [Bool.false_or] at hqq
        go_upto_region 7 with fail
        go_loopw [10] (fun s10 wr => ∃ i : Nat, i ≤ H[b].reads.length ∧ s10 = .int .i64 i ∧ Hid (∀ j (hj : j < H[b].reads.length), j < i → decide (H[b].reads[j].b = (a : Int)) = false) ∧ Below w.heap.size w wr ∧ Blk wr w.heap.size 24 #[.slice (some ⟨bt, off, none⟩) H.length c]) (fun s10 _ => H[b].reads.length - (intOf s10).toNat)
        case atStart => exact ⟨0, Nat.zero_le _, by go_num, hide (fun j hj h => absurd h (by omega)), hB2, k0⟩
        case round =>
          clear hB2 k0
          obtain ⟨i, hi, rfl, hall, hB2, k0⟩ := hrel
          obtain ⟨Wr, rfl⟩ : ∃ Wr, Wr = wr := ⟨_, rfl⟩
          have hi0 : (0 : Int) ≤ (i : Int) := Int.natCast_nonneg _
          have c0 := k0.cell 0
          simp only [List.getElem?_toArray, List.getElem?_cons_zero] at c0
          obtain ⟨bt2, off2, Aw2, cw2, Ar2, cr2, he, -, e0, e1, e2, -, hrs⟩ := TxnS.at_ (hh.out Wr hB2) hb
          simp only [Option.some.injEq, Addr.mk.injEq, and_true] at he
          obtain ⟨rfl, rfl⟩ := he
          by_cases hlt : i < H[b].reads.length
          · have hi1 : (i : Int) < (H[b].reads.length : Int) := by omega
            obtain ⟨b3, off3, rfl, -, r0, r1⟩ := ItS.at_ hrs hlt
            by_cases hh1 : H[b].reads[i].b = (a : Int)
            · have hhb : (H[b].reads[i].b == (a : Int)) = true := by simpa using hh1
              obtain rfl : q = true := by
                have h1 : (H[b].reads.any fun r => decide (r.b = (a : Int))) = true := List.any_eq_true.2 ⟨_, List.getElem_mem hlt, by simp [hh1]⟩
                have := hqq.out
                rw [h1] at this
                simpa using this.symm
              clear hqq hall hh1 hrs
              go_wp2
              go_ret
              exact ⟨rfl, hB2⟩
            · have hhb : (H[b].reads[i].b == (a : Int)) = false := by simpa using hh1
              have hall2 : Hid (∀ j (hj : j < H[b].reads.length), j < i + 1 → decide (H[b].reads[j].b = (a : Int)) = false) := hide (fun j hj hji => by
                rcases Nat.lt_or_ge j i with g | g
                · exact hall.out j hj g
                · obtain rfl : j = i := by omega
                  exact decide_eq_false hh1)
              clear hall hh1 hrs
              go_wp2
              go_roundw
              case rel => exact ⟨i + 1, by omega, by go_num, hall2, hB2, k0⟩
              case measure => simp [intOf] <;> omega
          · obtain rfl : i = H[b].reads.length := by omega
            have hqq2 : Hid (writE H l a b = q) := hide (by
              have h1 : (H[b].reads.any fun r => decide (r.b = (a : Int))) = false := by
                rw [List.any_eq_false]
                intro r hr
                obtain ⟨j, hj, rfl⟩ := List.getElem_of_mem hr
                have := hall.out j hj hj
                simpa using this
              have := hqq.out
              rw [h1] at this
              simpa using this)
            clear hqq hall hrs
            go_upto_region 12 with fail
            go_loopw [11] (fun s11 wr => ∃ k : Nat, k ≤ l.length ∧ s11 = .int .i64 k ∧ Hid (∀ j (hj : j < l.length), j < k → chosE H a b l[j] = false) ∧ Below w.heap.size w wr ∧ Blk wr w.heap.size 24 #[.slice (some ⟨bt, off, none⟩) H.length c]) (fun s11 _ => l.length - (intOf s11).toNat)
            case atStart => exact ⟨0, Nat.zero_le _, by go_num, hide (fun j hj h => absurd h (by omega)), hB2, k0⟩
            case round =>
              clear hB2 k0 e0 e1 e2 c0
              obtain ⟨k, hk, rfl, hall, hB2, k0⟩ := hrel
              obtain ⟨Wk, rfl⟩ : ∃ Wk, Wk = wr := ⟨_, rfl⟩
              have hk0 : (0 : Int) ≤ (k : Int) := Int.natCast_nonneg _
              have c0 := k0.cell 0
              simp only [List.getElem?_toArray, List.getElem?_cons_zero] at c0
              by_cases hkt : k < l.length
              · have hk1 : (k : Int) < (l.length : Int) := by omega
                obtain ⟨b3, off3, rfl, -, d0, d1, d2⟩ := ChoS.at_ (hhl.out Wk hB2) hkt
                have hst : Hid (chosE H a b l[k] = false → ∀ j (hj : j < l.length), j < k + 1 → chosE H a b l[j] = false) := hide (fun g j hj hji => by
                  rcases Nat.lt_or_ge j k with g2 | g2
                  · exact hall.out j hj g2
                  · obtain rfl : j = k := by omega
                    exact g)
                have hyes : Hid (chosE H a b l[k] = true → writE H l a b = true) := hide (fun g => List.any_eq_true.2 ⟨_, List.getElem_mem hkt, g⟩)
                have hone := hide (fun (g1 : l[k].a = (a : Int)) (g2 : l[k].b = (b : Int)) => chosE_one g1 g2 ha hb)
                have hnoo := hide (fun (g1 : l[k].a ≠ (a : Int) ∨ l[k].b ≠ (b : Int)) => chosE_no (H := H) g1)
                have hoc := hide (rone18_any (some ⟨bt, off, none⟩) c H l[k] Wk (hh.out Wk hB2) hn.out)
                clear hall
                generalize l[k] = d at *
                obtain ⟨dk, da, db⟩ := d
                dsimp only at d0 d1 d2 hone hnoo hoc
                by_cases q1 : da = (a : Int)
                · by_cases q2 : db = (b : Int)
                  · have q1b : (da != (a : Int)) = false := by simp [q1]
                    have q2b : (db != (b : Int)) = false := by simp [q2]
                    have ho := hone.out q1 q2
                    rw [ho] at hst hyes
                    obtain ⟨o, ho⟩ : ∃ o, oneB H ⟨dk, da, db⟩ = o := ⟨_, rfl⟩
                    rw [ho] at hst hyes
                    replace ho := hide ho
                    clear hone hnoo hoc q1 q2
                    go_upto_region 15 with fail
                    refine wp_region_plan [0, 1, 2, 3, 4] [5, 6] (by kernel_rfl) (by kernel_rfl) (fun _ _ d _ _ h => by cases d <;> exact h) ?_
                    simp only [List.filterMap_cons, List.filterMap_nil, List.getElem?_cons_zero, List.getElem?_cons_succ]
                    repeat still_step
                    refine wpStill_nil ?_
                    go_wp2_with fail
                    refine (rone18_any (some ⟨bt, off, none⟩) c H ⟨dk, da, db⟩ _ (TxnS.keep (hh.out Wk hB2) (Agree.drewN _ _ _) (fun b h => h)) hn.out).mono ?_
                    rintro e W5 ⟨rfl, hb5'⟩
                    have hb5 : Below Wk.heap.size Wk W5 := ⟨hb5'.os, hb5'.tape, hb5'.output, hb5'.size, hb5'.block⟩
                    have hB5 := hB2.trans (hb5.mono hB2.size)
                    replace k0 := k0.below hb5 k0.lt
                    rw [ho.out]
                    clear ho hb5' hb5 c0 d0 d1 d2
                    cases o with
                    | true =>
                      obtain rfl : q = true := hqq2.out.symm.trans (hyes.out rfl)
                      clear hst hyes hqq2
                      go_wp2
                      go_ret
                      exact ⟨rfl, hB5⟩
                    | false =>
                      have hall2 := hide (hst.out rfl)
                      clear hst hyes
                      go_wp2
                      go_roundw
                      case rel => exact ⟨k + 1, by omega, by go_num, hall2, hB5, k0⟩
                      case measure => simp [intOf] <;> omega
                  · have q1b : (da != (a : Int)) = false := by simp [q1]
                    have q2b : (db != (b : Int)) = true := by simp [q2]
                    have hall2 := hide (hst.out (hnoo.out (.inr q2)))
                    clear hone hnoo hst hyes hoc q1 q2
                    go_wp2
                    go_roundw
                    case rel => exact ⟨k + 1, by omega, by go_num, hall2, hB2, k0⟩
                    case measure => simp [intOf] <;> omega
                · have q1b : (da != (a : Int)) = true := by simp [q1]
                  have hall2 := hide (hst.out (hnoo.out (.inl q1)))
                  clear hone hnoo hst hyes hoc q1
                  go_wp2
                  go_roundw
                  case rel => exact ⟨k + 1, by omega, by go_num, hall2, hB2, k0⟩
                  case measure => simp [intOf] <;> omega
              · obtain rfl : k = l.length := by omega
                obtain rfl : q = false := by
                  have h1 : writE H l a b = false := by
                    unfold writE
                    rw [List.any_eq_false]
                    intro r hr
                    obtain ⟨j, hj, rfl⟩ := List.getElem_of_mem hr
                    rw [hall.out j hj hj]
                    exact Bool.false_ne_true
                  exact hqq2.out.symm.trans h1
                clear hqq2 hall
                go_wp2
                go_ret
                exact ⟨rfl, hB2⟩
end Go.Proofs.YtjomijnbnbideaaGreatDoor
