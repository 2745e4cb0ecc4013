/-
  Walks: layer 20's reference: what each transaction reads, one by one; whether an order shows that a history is serializable.
-/
import Derived.Test.YtjomijnbnbideaaGreatDoorC39
import Derived.Test.YtjomijnbnbideaaGreatDoorC29
import Derived.Test.YtjomijnbnbideaaGreatDoorC40
import Derived.Test.YtjomijnbnbideaaGreatDoorC28
set_option linter.unusedVariables false
set_option linter.unusedSimpArgs false
namespace Go.Proofs.YtjomijnbnbideaaGreatDoor
open Go.RowKit Go.Inq
set_option maxHeartbeats 8000000
attribute [local go_sem ↓] Go.wp_at_zero Go.wp_at_succ

theorem it_one : ∀ (x : It), ∀ u ∈ It.enc x, u.oneCell' = true := by
  intro x u hu
  simp [It.enc] at hu
  rcases hu with rfl | rfl <;> rfl
theorem infoT20 : (Tryz.prog.info? 112).map (fun i => (i.zero, i.size, i.bytes)) = some (some (.agg #[.int .i64 0, .int .i64 0]), 2, 16) := by kernel_rfl
theorem infoTL20 : (Tryz.prog.info? 99).map (fun i => (i.zero, i.size, i.bytes)) = some (some (.slice none 0 0), 1, 24) := by kernel_rfl
/-- One row of takes, as an element. -/
def TakR (w : World) (K : Nat → Prop) (cs : List Value) (l : List It) : Prop := ∃ v, cs = [v] ∧ ItS w K v l
theorem TakR.stab : Stab TakR := fun _ _ _ _ _ _ h ha hk => by
  obtain ⟨v, h1, h2⟩ := h
  exact ⟨v, h1, h2.keep ha hk⟩
theorem TakR.one : ∀ (w : World) (K : Nat → Prop) (cs : List Value) (l : List It), TakR w K cs l → ∀ u ∈ cs, u.oneCell' = true := by
  rintro w K cs l ⟨v, rfl, h2⟩ u hu
  obtain ⟨A, c, rfl⟩ := SlR.form h2
  simp at hu
  subst hu
  rfl
abbrev OwnTk (w : World) (base : Nat) (v : Value) (l : List (List It)) : Prop := OwnR 1 TakR w (TyK base [112] w) base 99 v l
def playTo (H : List Txn) (π : List Int) (t : Nat) : List (List It) := (List.range t).map (playL H π)
theorem playTo_step (H : List Txn) (π : List Int) (t : Nat) : playTo H π (t + 1) = playTo H π t ++ [playL H π t] := by
  unfold playTo
  rw [List.range_succ, List.map_append]; rfl
theorem playTo_len (H : List Txn) (π : List Int) (t : Nat) : (playTo H π t).length = t := by unfold playTo; simp
theorem playL_step {H : List Txn} {π : List Int} {t i : Nat} (ht : t < H.length) (hi : i < H[t].reads.length) : (playL H π t).take (i + 1) = (playL H π t).take i ++ [⟨H[t].reads[i].a, fromB H π H[t].reads[i].a (π.idxOf (t : Int))⟩] := by
  have hl : (playL H π t).length = H[t].reads.length := by unfold playL; rw [List.length_map, txnAt_of ht]
  rw [List.take_succ_eq_append_getElem (by omega)]
  congr 2
  unfold playL
  rw [List.getElem_map]
  simp only [txnAt_of ht]
set_option maxRecDepth 100000 in
theorem rplay20_any (A : Option Addr) (c : Nat) (H : List Txn) (Ap : Option Addr) (cp : Nat) (π : List Int) (w : World) (h : TxnS w (Old w) (.slice A H.length c) H) (hr : rightH H = true) (hn : SmallH H) (hP : IntS w (Old w) (.slice Ap π.length cp) π) (hp : permB π H.length = true) :
    Calls Tryz.prog 176 #[.agg #[.slice A H.length c], .slice Ap π.length cp] w fun e w' => ∃ v, e = .returned v ∧ OwnTk w' w.heap.size v (playTo H π H.length) ∧ Below w.heap.size w w' := by
  obtain ⟨it, hit, hz1, hz2, hz3⟩ := info_parts infoT20
  obtain ⟨il, hil, hl1, hl2, hl3⟩ := info_parts infoTL20
  have h32 : H.length ≤ 32 := ((rightH_iff H).1 hr).1
  have hpl := hide (perm_len hp)
  obtain ⟨W0, hW0⟩ : ∃ W0, w.alloc (.cells #[.slice A H.length c] 24) = W0 := ⟨_, rfl⟩
  have hB := below_allocEq (Below.refl w.heap.size w) hW0 (Nat.le_refl _)
  have k0 := Blk.newEq hW0
  have hT := h.below hB
  have hI := hP.below hB
  have hrc := hide (right08_any A c H W0 hT hn)
  rw [hr] at hrc
  have c0 := k0.cell 0
  simp only [List.getElem?_toArray, List.getElem?_cons_zero, List.getElem?_cons_succ] at c0
  have hbd := hide (fun i (hi : i < π.length) => perm_bd hp hi)
  have hat := hide (fun t (ht : t < H.length) => perm_at hp ht)
  have hix := hide (fun i (hi : i < π.length) => perm_idx hp hi)
  have hpm : Hid (permB π H.length = true) := hide hp
  replace hr := hide hr
  clear h hP hp
  go_enter Tryz.func176, Tryz.ntmps176
  go_wp2_with fail
  clear hW0 c0
  refine hrc.out.mono ?_
  rintro e w1 ⟨rfl, hb1⟩
  have hT1 := hide (hT.below hb1)
  have hI1 := hide (hI.below hb1)
  have k1 := k0.below hb1 k0.lt
  have hB1 := hB.trans (hb1.mono hB.size)
  clear hrc hT hI k0 hb1 hB
  have c0 := k1.cell 0
  simp only [List.getElem?_toArray, List.getElem?_cons_zero, List.getElem?_cons_succ] at c0
  have hpc := hide (rperm18_any Ap cp π H.length (Old w1) w1 hI1.out (by have := hpl.out; omega))
  rw [hpm.out] at hpc
  go_wp2_with fail
  refine hpc.out.mono ?_
  rintro e w1' ⟨rfl, rfl⟩
  clear hpc c0
  go_wp2_with fail
  go_loopw [7, 8] (fun s7 s8 wr => ∃ t : Nat, t ≤ H.length ∧ s8 = .int .i64 t ∧ OwnTk wr w1.heap.size s7 (playTo H π t) ∧ Below w1.heap.size w1 wr) (fun _ s8 _ => H.length - (intOf s8).toNat)
  case atStart => exact ⟨0, Nat.zero_le _, by go_num, OwnR.nil _ _ _ _ _ _, Below.refl _ _⟩
  case round =>
    obtain ⟨Wo, rfl⟩ : ∃ Wo, Wo = wr := ⟨_, rfl⟩
    obtain ⟨t, ht, rfl, hown, hbt⟩ := hrel
    have ht1 : (0 : Int) ≤ (t : Int) := Int.natCast_nonneg _
    have k2 := k1.below hbt k1.lt
    have c0 := k2.cell 0
    simp only [List.getElem?_toArray, List.getElem?_cons_zero, List.getElem?_cons_succ] at c0
    obtain ⟨Av, cv, rfl⟩ := hown.form
    rw [playTo_len] at *
    replace hown := hide hown
    by_cases hlt : t < H.length
    · have ht2 : (t : Int) < (H.length : Int) := by omega
      obtain ⟨hq1, hq2⟩ := hat.out t hlt
      have hpst := hide (playTo_step H π t)
      have hLst := hide (fun i (hi : i < H[t].reads.length) => playL_step (π := π) hlt hi)
      have hLl : Hid ((playL H π t).length = H[t].reads.length) := hide (by unfold playL; rw [List.length_map, txnAt_of hlt])
      obtain ⟨ix, hixe⟩ : ∃ ix, π.idxOf (t : Int) = ix := ⟨_, rfl⟩
      simp only [hixe] at hq1 hq2 hLst
      have hix2 := hide (fun j (hj : j < π.length) (e : π[j] = (t : Int)) => (by have := hix.out j hj; rw [e, hixe] at this; exact this : ix = j))
      replace hq2 := hide hq2
      replace hixe := hide hixe
      go_wp2_with fail
      go_loop [9] (fun s9 => ∃ j : Nat, j ≤ ix ∧ s9 = .int .i64 j) (fun s9 => ix - (intOf s9).toNat)
      case atStart => exact ⟨0, Nat.zero_le _, by go_num⟩
      case round =>
        obtain ⟨j, hj, rfl⟩ := hrel
        have hj1 : (0 : Int) ≤ (j : Int) := Int.natCast_nonneg _
        have hjp : j < π.length := by omega
        have hj2 : (j : Int) < (π.length : Int) := by omega
        have hj32 : j < 32 := by have := hpl.out; omega
        obtain ⟨bp, op, rfl, -, x0⟩ := (hI1.out.below hbt).at_ hjp
        by_cases hje : j < ix
        · have hne : (π[j] != (t : Int)) = true := by
            rw [bne_iff_ne]
            intro e
            have := hix2.out j hjp e
            omega
          generalize π[j] = y at *
          have hje2 := hide hje
          clear c0
          go_wp2
          go_round
          case rel => exact ⟨j + 1, hje2.out, by go_num⟩
          case measure => have := hje2.out; simp [intOf]; omega
        · obtain rfl : j = ix := by omega
          have hne : (π[j] != (t : Int)) = false := by rw [hq2.out]; simp
          generalize π[j] = y at *
          clear hix2
          go_wp2_with fail
          clear x0 hne
          go_loopw [10, 11] (fun s10 s11 wq => ∃ i : Nat, i ≤ H[t].reads.length ∧ s11 = .int .i64 i ∧ wq.ownsRow Wo.heap.size 112 2 s10 ((playL H π t).take i).length (((playL H π t).take i).map It.enc).flatten ∧ Below Wo.heap.size Wo wq) (fun _ s11 _ => H[t].reads.length - (intOf s11).toNat)
          case atStart => exact ⟨0, Nat.zero_le _, by go_num, World.ownsRow_nil _ _ _ _, Below.refl _ _⟩
          case round =>
            obtain ⟨Wp, rfl⟩ : ∃ Wp, Wp = wr := ⟨_, rfl⟩
            obtain ⟨i, hi, rfl, hrow, hbi⟩ := hrel
            have hi1 : (0 : Int) ≤ (i : Int) := Int.natCast_nonneg _
            have k3 := k2.below hbi k2.lt
            have c0 := k3.cell 0
            simp only [List.getElem?_toArray, List.getElem?_cons_zero, List.getElem?_cons_succ] at c0
            have hbw := hbt.trans (hbi.mono hbt.size)
            obtain ⟨bt, ot, Aw, cw, Ar, cr, rfl, -, d0, d1, d2, -, hrd⟩ := TxnS.at_ (hT1.out.below hbw) hlt
            have hrl : H[t].reads.length ≤ 1000000 := (hn.2 _ (List.getElem_mem hlt)).2
            have hst := hide (hLst.out i)
            have hti : Hid (((playL H π t).take i).length = i) := hide (by rw [List.length_take, hLl.out]; omega)
            have hta : Hid ((playL H π t).take H[t].reads.length = playL H π t) := hide (by rw [← hLl.out, List.take_length])
            obtain ⟨Al, cl, rfl⟩ := own_slice hrow
            by_cases hir : i < H[t].reads.length
            · have hi2 : (i : Int) < (H[t].reads.length : Int) := by omega
              obtain ⟨br, orr, rfl, -, x0, x1⟩ := hrd.at_ hir
              have hst2 := hide (hst.out hir)
              generalize hD : (playL H π t).take i = D at *
              have hTi := hide ((hT1.out.below hbw))
              have hIi := hide (hI1.out.below hbw)
              have hfr := hide (rfrom20_any (some ⟨bt, ot, none⟩) c H (some ⟨bp, op, none⟩) cp π j H[t].reads[i].a Wp hTi.out hIi.out hn hbd.out (by omega) (by have := hpl.out; omega))
              have hsn := hide (flat_snoc It.enc D)
              replace hrow := hide hrow
              clear hrd hst
              go_wp2_with fail
              clear c0 d0 d1 d2 x0 x1
              refine hfr.out.mono ?_
              rintro e w4 ⟨rfl, hb4⟩
              have hb5 := hbi.trans (hb4.mono hbi.size)
              have hown4 := hide (own_below hrow.out hb4 (Nat.le_refl _))
              have hs5 := hb5.size
              clear hfr hrow hb4
              have hkl : D.length + 1 ≤ maxLen := by rw [hti.out]; unfold maxLen; omega
              have hkb : (D.length + 1) * 16 ≤ 140737488355328 := by rw [hti.out]; omega
              generalize H[t].reads[i].a = key at *
              generalize fromB H π key j = fr at *
              go_wp2_with (at_builtin; go_loud (refine wpList_push (enc := It.enc) rfl (.tmp 62) (.tmp 70) 99 rfl Wo.heap.size 112 it _ 2 16 Tryz.underlying99 hit hz1 hz2 hz3 rfl (by decide) (.slice Al D.length cl) D rfl hown4.out (fun _ => rfl) ⟨key, fr⟩ _ rfl rfl it_one hkl hkb hs5 Wo Wo.heap.size (Nat.le_refl _) hb5 ?_); intro v7 w7 hown7 hg7 hbw7 hat7)
              go_roundw
              case rel => exact ⟨i + 1, by omega, by go_num, by rw [hst2.out]; exact hown7, hbw7⟩
              case measure => simp [intOf]; omega
            · obtain rfl : i = H[t].reads.length := by omega
              have hownp := hide (hown.out.belowT TakR.stab hbi (Nat.le_refl _))
              have hsr := hbt.size
              have hsw := hbw.size
              have hrT : Hid (TakR Wp (TyK w1.heap.size [112] Wp) [.slice Al ((playL H π t).take H[t].reads.length).length cl] (playL H π t)) := hide ⟨_, rfl, by
                rw [hta.out] at hrow ⊢
                exact SlR.fit (Flat.stab _) (own_slT hrow (fun _ => rfl) (by simp)) (fun b g => ⟨Nat.le_trans hsr g.1, g.2⟩)⟩
              have h63 : (playTo H π t).length + 1 ≤ maxLen := by rw [playTo_len]; unfold maxLen; omega
              have hbb : ((playTo H π t).length + 1) * 24 ≤ 140737488355328 := by rw [playTo_len]; omega
              clear hrow hown hst hrd
              generalize ((playL H π t).take H[t].reads.length).length = q at *
              go_wp2_with (at_builtin; go_loud (refine wpList_pushR (R := TakR) TakR.stab TakR.one rfl (.tmp 72) (.tmp 74) 233 rfl w1.heap.size 99 il _ 1 24 Tryz.underlying233 hil hl1 hl2 hl3 rfl (by decide) [112] (by decide) (.slice Av t cv) (playTo H π t) rfl hownp.out _ (playL H π t) rfl hrT.out rfl h63 hbb hsw w1 w1.heap.size (Nat.le_refl _) hbw ?_); intro v7 w7 hown7 hA7 hbw7 hat7 hE7)
              go_roundw
              case rel => exact ⟨t + 1, by omega, by go_num, by rw [hpst.out]; exact hown7, hbw7⟩
              case measure => simp [intOf]; omega
    · obtain rfl : t = H.length := by omega
      have hs1 := hB1.size
      clear hat hix
      go_wp2
      go_ret
      exact ⟨_, rfl, OwnR.baseT TakR.stab hown.out hs1, hB1.trans (hbt.mono hB1.size)⟩
end Go.Proofs.YtjomijnbnbideaaGreatDoor
