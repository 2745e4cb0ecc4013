/-
  Walks: layer 21's reference: an order's rows.
-/
import Derived.Test.YtfhnamomiaekdaaGreatT22
import Derived.Test.YtfhnamomiaekdaaGreatT32
import Derived.Test.YtfhnamomiaekdaaGreatT09
set_option linter.unusedVariables false
set_option linter.unusedSimpArgs false
namespace Go.Proofs.YtfhnamomiaekdaaGreat
open Go.RowKit Go.Inq
set_option maxHeartbeats 8000000
attribute [local go_sem ↓] Go.wp_at_zero Go.wp_at_succ

def OwnL (w : World) (base : Nat) (v : Value) (l : List SRow) : Prop := OwnR 2 SRowR w (TyK base [3] w) base 90 v l
theorem OwnL.form {w : World} {base : Nat} {v : Value} {l : List SRow} (h : OwnL w base v l) : ∃ A c, v = .slice A l.length c := OwnR.form h
theorem filter_snoc {p : Int → Bool} {l : List Int} {k : Nat} (h : k < l.length) : (l.take (k + 1)).filter p = (l.take k).filter p ++ (if p l[k] then [l[k]] else []) := by
  rw [take_snoc' h, List.filter_append]
  congr 1
  cases hp : p l[k] <;> simp [hp]
set_option maxRecDepth 100000 in
theorem rrows21_any (A : Option Addr) (c : Nat) (H : List Txn) (Ap : Option Addr) (cp : Nat) (π : List Int) (w : World) (h : TxnS w (Old w) (.slice A H.length c) H) (hn : SmallH H) (hπ : IntS w (Old w) (.slice Ap π.length cp) π) (hpl : π.length ≤ 1000000) :
    Calls Tryz.prog 18 #[.agg #[.slice A H.length c], .slice Ap π.length cp] w (OutL w (rowsL H π)) := by
  obtain ⟨is, his, hq1, hq2, hq3⟩ := info_parts infoR21
  obtain ⟨ii, hii, hj1, hj2, hj3⟩ := info_parts infoI10
  obtain ⟨W0, hW0⟩ : ∃ W0, w.alloc (.cells #[.slice A H.length c] 24) = W0 := ⟨_, rfl⟩
  have hB := below_allocEq (Below.refl w.heap.size w) hW0 (Nat.le_refl _)
  have k0 := Blk.newEq hW0
  have hT := h.below hB
  have hP := hπ.below hB
  have hno := hide (fun (e : ¬ (rightH H = true ∧ permB π H.length = true)) => (by unfold rowsL; rw [if_neg e] : rowsL H π = []))
  have hyes := hide (fun (e1 : rightH H = true) (e2 : permB π H.length = true) => (by unfold rowsL; rw [if_pos ⟨e1, e2⟩] : rowsL H π = (keysL H).map (rowS H π)))
  obtain ⟨Q, hQ⟩ : ∃ Q, rowsL H π = Q := ⟨_, rfl⟩
  rw [hQ] at hno hyes ⊢
  clear hQ h hπ
  replace hn := hide hn
  have c0 := k0.cell 0
  simp only [List.getElem?_toArray, List.getElem?_cons_zero, List.getElem?_cons_succ] at c0
  go_enter Tryz.func18, Tryz.ntmps18
  go_wp2_with fail
  clear c0 hW0
  refine (right08_any A c H _ hT hn.out).mono ?_
  rintro e w1 ⟨rfl, hb1⟩
  have hB1 := hB.trans (hb1.mono hB.size)
  replace k0 := k0.below hb1 k0.lt
  have hT1 := hT.below hb1
  have hP1 := hP.below hb1
  have c0 := k0.cell 0
  simp only [List.getElem?_toArray, List.getElem?_cons_zero, List.getElem?_cons_succ] at c0
  clear hT hP hb1 hB
  go_wp2_with fail
  refine (rperm18_any Ap cp π H.length (Old w1) w1 hP1 (by omega)).mono ?_
  rintro e w2 ⟨rfl, rfl⟩
  generalize hr : rightH H = r at *
  generalize hp : permB π H.length = p at *
  cases r with
  | false =>
    obtain rfl := hno.out (by simp)
    clear hno hyes hr hp
    go_wp2
    go_ret
    exact ⟨none, 0, rfl, SlR.nil _ _ _ _ _ _, hB1⟩
  | true =>
    cases p with
    | false =>
      obtain rfl := hno.out (by simp)
      clear hno hyes hr hp
      go_wp2
      go_ret
      exact ⟨none, 0, rfl, SlR.nil _ _ _ _ _ _, hB1⟩
    | true =>
      have hQe := hide (hyes.out rfl rfl)
      have hKe : keysR H = keysL H := by unfold keysR; rw [hr]; rfl
      have hK16 := keysL_16len hr
      replace hr := hide hr
      replace hp := hide hp
      clear hno hyes
      go_wp2_with fail
      clear c0
      refine (rkeys09_any A c H _ hT1 hn.out).mono ?_
      rintro e w3 ⟨vk, rfl, hKO, hb3⟩
      rw [hKe] at hKO
      generalize keysL H = Ks at *
      obtain ⟨Ak, ck, rfl⟩ := hKO.form
      have hKS := hide (hKO.sl (K := Old w3) (fun g h1 h2 => h2))
      have hB3 := hB1.trans (hb3.mono hB1.size)
      have k3 := k0.below hb3 k0.lt
      have hT3 := hide (hT1.below hb3)
      have hP3 := hide (hP1.below hb3)
      have hst := hide (fun i (hi : i < Ks.length) => (by rw [take_snoc' hi, List.map_append]; rfl : (Ks.take (i + 1)).map (rowS H π) = (Ks.take i).map (rowS H π) ++ [rowS H π Ks[i]]))
      clear hKO hb3 hT1 hP1 k0 hB1 hKe
      go_wp2_with fail
      go_loopw [8, 9] (fun s8 s9 wr => ∃ i : Nat, i ≤ Ks.length ∧ s9 = .int .i64 i ∧ OwnL wr w3.heap.size s8 ((Ks.take i).map (rowS H π)) ∧ Below w3.heap.size w3 wr) (fun _ s9 _ => Ks.length - (intOf s9).toNat)
      case atStart => exact ⟨0, Nat.zero_le _, by go_num, OwnR.nil _ _ _ _ _ _, Below.refl _ _⟩
      case round =>
        obtain ⟨Wo, rfl⟩ : ∃ Wo, Wo = wr := ⟨_, rfl⟩
        obtain ⟨i, hi, rfl, hown, hb⟩ := hrel
        have hi1 : (0 : Int) ≤ (i : Int) := Int.natCast_nonneg _
        obtain ⟨Av, cv, rfl⟩ := hown.form
        by_cases hil : i < Ks.length
        · have hi2 : (i : Int) < (Ks.length : Int) := by omega
          obtain ⟨bk, ok, rfl, _, z0⟩ := (hKS.out.below hb).at_ hil
          have hs2 := hide (hst.out i hil)
          generalize Ks[i] = key at *
          generalize hMM : (Ks.take i).map (rowS H π) = M at *
          replace hMM := hide hMM
          replace hown := hide hown
          go_upto_region 11 with fail
          obtain ⟨W4, hW4⟩ : ∃ W4, Wo.alloc (.cells #[.int .i64 key, .slice none 0 0] 90) = W4 := ⟨_, rfl⟩
          rw [hW4]
          have hB4 := below_allocEq (Below.refl Wo.heap.size Wo) hW4 (Nat.le_refl _)
          have kx := Blk.newEq hW4
          have hsz4 : Wo.heap.size + 1 ≤ W4.heap.size := Nat.le_of_eq (size_allocEq hW4).symm
          clear hW4
          go_wp2_with fail
          go_loopw [11] (fun s11 wq => ∃ (k : Nat) (v : Value), k ≤ π.length ∧ s11 = .int .i64 k ∧ Blk wq Wo.heap.size 90 #[.int .i64 key, v] ∧ OwnI wq (Wo.heap.size + 1) v ((π.take k).filter fun t => (txnAt H t.toNat).writes.contains key) ∧ Below Wo.heap.size Wo wq ∧ Wo.heap.size + 1 ≤ wq.heap.size) (fun s11 _ => π.length - (intOf s11).toNat)
          case atStart => exact ⟨0, _, Nat.zero_le _, by go_num, kx, OwnI.nil _ _, hB4, hsz4⟩
          case round =>
            obtain ⟨Wp, rfl⟩ : ∃ Wp, Wp = wr := ⟨_, rfl⟩
            obtain ⟨k, v, hk, rfl, kc, hox, hbq, hszq⟩ := hrel
            have hk1 : (0 : Int) ≤ (k : Int) := Int.natCast_nonneg _
            by_cases hkl : k < π.length
            · have hk2 : (k : Int) < (π.length : Int) := by omega
              have hszb := hb.size
              have hbw := hb.trans (hbq.mono hb.size)
              obtain ⟨bp, op, rfl, -, x0⟩ := (hP3.out.below hbw).at_ hkl
              have hbd := perm_bd hp.out hkl
              have hfs := filter_snoc (p := fun t => (txnAt H t.toNat).writes.contains key) hkl
              have hDl : ((π.take k).filter fun t => (txnAt H t.toNat).writes.contains key).length ≤ 1000000 := Nat.le_trans (List.length_filter_le _ _) (by rw [List.length_take]; omega)
              obtain ⟨m, hpm⟩ : ∃ m : Nat, π[k] = (m : Int) := ⟨π[k].toNat, by omega⟩
              rw [hpm] at hbd x0 hfs
              have hm : m < H.length := by omega
              have hm2 : (m : Int) < (H.length : Int) := by omega
              rw [Int.toNat_natCast, txnAt_of hm] at hfs
              replace hpm := hide hpm
              obtain ⟨bt, ot, Aw, cw, Ar, cr, rfl, _, d0, d1, d2, hws, _⟩ := TxnS.at_ (hT3.out.below hbw) hm
              have k4 := k3.below hbw k3.lt
              have c0 := k4.cell 0
              simp only [List.getElem?_toArray, List.getElem?_cons_zero, List.getElem?_cons_succ] at c0
              have z1 := (hbq.cell (p := ⟨bk, ok + i, none⟩) (block_lt_of_cell z0)).trans z0
              have hwl : H[m].writes.length ≤ maxLen := by have := (hn.out.2 _ (List.getElem_mem hm)).1; unfold maxLen; omega
              have hcw := hide (writes08_any H[m].sess Aw cw H[m].writes (.slice Ar H[m].reads.length cr) key (Old Wp) Wp.drew (hws.keep (Agree.drew _ _) (fun b h => h)) (fun b h => h) hwl)
              generalize H[m].writes = L at *
              generalize H[m].sess = sy at *
              generalize H[m].reads = Ry at *
              generalize L.contains key = cb at *
              generalize (π.take k).filter (fun t => (txnAt H t.toNat).writes.contains key) = D at *
              replace hfs := hide hfs
              obtain ⟨Ax, cx, rfl⟩ := hox.form
              have hbp : Below Wp.heap.size Wp Wp.drew := ⟨rfl, rfl, rfl, Nat.le_refl _, fun _ _ => rfl⟩
              have hkD : D.length + 1 ≤ maxLen := by unfold maxLen; omega
              have hkb : (D.length + 1) * 8 ≤ 140737488355328 := by omega
              replace hox := hide hox
              clear hws hbd hDl
              go_wp2_with fail
              refine wp_region_still_tail 12 (by kernel_rfl) (by kernel_rfl) ?_
              simp only [List.take_succ_cons, List.take_zero, List.drop_succ_cons, List.drop_zero]
              repeat still_step
              refine wpStill_nil ?_
              go_wp2_with fail
              refine hcw.out.mono ?_
              rintro e w5 ⟨rfl, hb5⟩
              have hbp5 := hbp.trans hb5
              have hb6 := hbq.trans (hbp5.mono hbq.size)
              have kc5 := kc.below hbp5 kc.lt
              have ho5 := hide (own_below hox.out hbp5 (Nat.le_refl _))
              have hsz5 : Wo.heap.size + 1 ≤ w5.heap.size := by have := hbp5.size; omega
              have x5 := (hbp5.cell (p := ⟨bp, op + k, none⟩) (block_lt_of_cell x0)).trans x0
              clear hcw c0 d0 d1 d2 x0 z1 kc hox hbp hbp5 hb5 hbq k4 hbw
              cases cb with
              | false =>
                go_wp2
                go_roundw
                case rel => exact ⟨k + 1, _, by omega, by go_num, kc5, by rw [hfs.out, if_neg (by decide), List.append_nil]; exact ho5.out, hb6, hsz5⟩
                case measure => simp [intOf]; omega
              | true =>
                have y1 := kc5.cell 1
                simp only [List.getElem?_toArray, List.getElem?_cons_zero, List.getElem?_cons_succ] at y1
                go_wp2_with fail
                refine wp_region_plan [0, 1, 2, 3, 4, 5] [6, 7, 8, 9] (by kernel_rfl) (by kernel_rfl) (fun _ _ d _ _ h => by cases d <;> exact h) ?_
                simp only [List.filterMap_cons, List.filterMap_nil, List.getElem?_cons_zero, List.getElem?_cons_succ]
                repeat still_step
                refine wpStill_nil ?_
                have ho6 : OwnI w5.drew (Wo.heap.size + 1) (.slice Ax D.length cx) D := ho5.out
                have hb7 : Below Wo.heap.size Wo w5.drew := below_drew hb6
                have hsz6 : Wo.heap.size + 1 ≤ w5.drew.heap.size := hsz5
                have kc6 : Blk w5.drew Wo.heap.size 90 #[.int .i64 key, .slice Ax D.length cx] := kc5
                replace ho6 := hide ho6
                clear ho5 hb6 hsz5 kc5 y1 x5
                generalize w5.drew = W6 at *
                refine wpList_plain rfl (fun K hK => ?_)
                go_simp
                refine hK _ _ ?_
                clear hK K
                refine wpList_push (enc := Go.Inq.encI) rfl (.tmp 60) (.tmp 65) 26 rfl (Wo.heap.size + 1) 3 ii _ 1 8 Tryz.underlying26 hii hj1 hj2 hj3 rfl (by decide) (.slice Ax D.length cx) D rfl ho6.out (fun _ => rfl) (m : Int) _ rfl rfl Go.Inq.encI_one hkD hkb hsz6 Wo Wo.heap.size (Nat.le_succ _) hb7 ?_
                intro v7 w7 hown7 hg7 hb8 hat7
                have hfs2 := hfs.out
                simp only [if_true] at hfs2
                obtain ⟨M9, hM9⟩ : ∃ M9, D ++ [(m : Int)] = M9 := ⟨_, rfl⟩
                rw [hM9] at hown7 hfs2
                replace hfs2 := hide hfs2
                replace hM9 := hide hM9
                have hg8 : W6.grownBy w7 (Value.slice Ax D.length cx).ownBlock := grown_trans (World.grownBy_alloc _ _ _) hg7
                have kc7 := kc6.grown hg8 (own_off ho6.out kc6 (by decide))
                have z1 := kc7.cell 1
                have z2 := kc7.frozen 1
                simp only [List.getElem?_toArray, List.getElem?_cons_zero, List.getElem?_cons_succ] at z1
                have kc9 := kc7.set_ 1 v7
                simp only [List.setIfInBounds_toArray, List.set_cons_zero, List.set_cons_succ] at kc9
                have hown9 := hide (own_setCell hown7 (p := ⟨Wo.heap.size, 1, none⟩) (fun e => own_off hown7 kc7 (by decide) e.symm) v7)
                have hb9 := hb8.setCell (p := ⟨Wo.heap.size, 1, none⟩) (Nat.le_refl _) v7
                have hsz9 : Wo.heap.size + 1 ≤ (w7.setCell ⟨Wo.heap.size, 1, none⟩ v7).heap.size := by have := kc9.lt; omega
                obtain ⟨A7, c7, rfl⟩ := own_slice hown7
                clear hg8 hg7 hown7 hb8 hat7 kc6 kc7 ho6 hb7 hsz6
                go_wp2
                go_roundw
                case rel => exact ⟨k + 1, _, by omega, by go_num, kc9, by rw [hfs2.out]; exact hown9.out, hb9, hsz9⟩
                case measure => simp [intOf]; omega
            · obtain rfl : k = π.length := by omega
              rw [List.take_length] at hox
              have hszb := hb.size
              obtain ⟨Ax, cx, rfl⟩ := hox.form
              have hfl : rowS H π key = ⟨key, π.filter fun t => (txnAt H t.toNat).writes.contains key⟩ := rfl
              rw [hfl] at hs2
              clear hfl
              generalize (π.filter fun t => (txnAt H t.toNat).writes.contains key) = F at *
              have hMS : IntS Wp (TyK w3.heap.size [3] Wp) (.slice Ax F.length cx) F := own_slT (own_baseT hox (by omega)) (fun _ => rfl) (by simp)
              have hrw := hide (show SRowR Wp (TyK w3.heap.size [3] Wp) [.int .i64 key, .slice Ax F.length cx] ⟨key, F⟩ from ⟨Ax, cx, rfl, hMS⟩)
              have hown9 := hide (OwnR.belowT SRowR.stab hown.out hbq (Nat.le_refl _))
              have hbw := hb.trans (hbq.mono hb.size)
              have hMl : M.length ≤ 16 := by have := congrArg List.length hMM.out; rw [List.length_map, List.length_take] at this; omega
              have hszw := hbw.size
              have x0 := kc.cell 0
              have x1 := kc.cell 1
              simp only [List.getElem?_toArray, List.getElem?_cons_zero, List.getElem?_cons_succ] at x0 x1
              clear hox hMS hown kc
              go_wp2_with (at_builtin; go_loud (refine wpList_pushR SRowR.stab SRowR.one rfl (.tmp 68) (.tmp 70) 31 rfl w3.heap.size 90 is _ 2 32 Tryz.underlying31 his hq1 hq2 hq3 rfl (by decide) [3] (by decide) (.slice Av M.length cv) M rfl hown9.out _ (⟨key, F⟩ : SRow) rfl hrw.out rfl (by unfold maxLen; omega) (by omega) (by omega) w3 w3.heap.size (Nat.le_refl _) hbw ?_); intro v1 w6 hown1 hag1 hb1 hat1 hkp1)
              go_roundw
              case rel => exact ⟨i + 1, by omega, by go_num, by rw [hs2.out]; exact hown1, hb1⟩
              case measure => simp [intOf]; omega
        · obtain rfl : i = Ks.length := by omega
          have hF : RowS Wo (Old Wo) (.slice Av (Ks.map (rowS H π)).length cv) (Ks.map (rowS H π)) := by
            have := OwnR.slOld SRowR.stab hown
            rwa [List.take_length] at this
          replace hF := hide hF
          clear hown
          go_wp2
          go_ret
          refine ⟨Av, cv, ?_, by rw [hQe.out]; exact hF.out, hB3.trans (hb.mono hB3.size)⟩
          rw [hQe.out]
          show Ending.returned (.slice Av ((Ks.take Ks.length).map (rowS H π)).length cv) = _
          rw [List.take_length]
end Go.Proofs.YtfhnamomiaekdaaGreat
