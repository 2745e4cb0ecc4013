/-
  Walks: layer 21: the choices that rows make.
-/
import Derived.Test.YtfhnamomiaekdaaGreatT08
set_option linter.unusedVariables false
set_option linter.unusedSimpArgs false
namespace Go.Proofs.YtfhnamomiaekdaaGreat
open Go.RowKit Go.Inq
set_option maxHeartbeats 4000000
attribute [local go_sem ↓] Go.wp_at_zero Go.wp_at_succ

def choTo (H : List Txn) (R : List SRow) (k : Nat) : List Cho := ((R.take k).map (choR H)).flatten
theorem choTo_step {H : List Txn} {R : List SRow} {k : Nat} (h : k < R.length) : choTo H R (k + 1) = choTo H R k ++ choR H R[k] := by
  unfold choTo
  rw [List.take_succ_eq_append_getElem h, List.map_append, List.flatten_append]; simp
theorem choR_len (H : List Txn) (r : SRow) (h32 : H.length ≤ 32) : (choR H r).length ≤ 1024 := by
  unfold choR
  rw [List.length_map]
  have h1 := pairsK_len r.key (wrsL H r.key)
  have h2 := wrsL_len H r.key
  have := Nat.mul_le_mul (show (wrsL H r.key).length ≤ 32 by omega) (show (wrsL H r.key).length ≤ 32 by omega)
  omega
theorem choTo_len {H : List Txn} {R : List SRow} (h32 : H.length ≤ 32) : ∀ k, k ≤ R.length → (choTo H R k).length ≤ k * 1024
  | 0, _ => by simp [choTo]
  | k + 1, hk => by
    rw [choTo_step (by omega), List.length_append]
    have := choTo_len (R := R) h32 k (by omega)
    have := choR_len H R[k] h32
    omega
theorem OkS.len {H : List Txn} {R : List SRow} (h : OkS H R) : R.length ≤ 16 := by
  have := keysL_16len h.right
  rw [← h.keys, List.length_map] at this
  exact this
theorem own_off {w : World} {base n g : Nat} {e t : TypeId} {size : Nat} {v : Value} {xs : List Value} {cs : Array Value} (h : w.ownsRow base e size v n xs) (hk : Blk w g t cs) (ht : t ≠ e) : some g ≠ v.ownBlock := fun e' => by
  obtain ⟨cs', h4⟩ := own_blk h e'.symm
  have := hk.symm.trans h4
  simp at this
  exact ht this.2
/-- A row of numbers of the call's own, as later allocs and growths of rows of other types leave it. -/
theorem IntS.keepT {base : Nat} {τs : List TypeId} {W W' : World} {v : Value} {l : List Int} (h : IntS W (TyK base τs W) v l) (ha : Agree (TyK base τs W) W W') : IntS W' (TyK base τs W') v l := IntS.keep h ha fun _ g => TyK.step ha g
theorem TyK.grown {base : Nat} {τs : List TypeId} {W W' : World} {b2 n size : Nat} {e : TypeId} {v : Value} {xs : List Value} (hg : W.grownBy W' v.ownBlock) (h : W.ownsRow b2 e size v n xs) (he : e ∉ τs) : Agree (TyK base τs W) W W' :=
  Agree.grown hg fun b hb => ⟨hb.lt, fun e' => by
    obtain ⟨cs, h2⟩ := own_blk h e'.symm
    exact TyK.off h2 he hb⟩
set_option maxRecDepth 100000 in
theorem choS_any (A : Option Addr) (c : Nat) (H : List Txn) (Ar : Option Addr) (cr : Nat) (R : List SRow) (w : World) (h : TxnS w (Old w) (.slice A H.length c) H) (hn : SmallH H) (hR : RowS w (Old w) (.slice Ar R.length cr) R) (hf : FitS R) :
    Calls Tryz.prog 14 #[.agg #[.slice A H.length c], .slice Ar R.length cr] w (OutC w (choS H R)) := by
  obtain ⟨ic, hic, hi1, hi2, hi3⟩ := info_parts infoC9
  obtain ⟨W0, hW0⟩ : ∃ W0, w.alloc (.cells #[.slice A H.length c] 24) = W0 := ⟨_, rfl⟩
  have hB := below_allocEq (Below.refl w.heap.size w) hW0 (Nat.le_refl _)
  have k0 := Blk.newEq hW0
  have h0 := hide (h.below hB)
  have hR0 := hide (hR.below hB)
  have hsw := hide (fun (e : rightS H R = false) => (by unfold choS; rw [e]; rfl : choS H R = []))
  have hsy := hide (fun (e : rightS H R = true) => (by unfold choS choTo; rw [e, List.take_length]; rfl : choS H R = choTo H R R.length))
  have hok := hide (fun (e : rightS H R = true) => (okS_iff H R).1 e)
  have hRl := hf.1
  have hfl := hide (fun i (hi : i < R.length) => hf.2 _ (List.getElem_mem hi))
  replace hf := hide hf
  replace hn := hide hn
  replace h := hide h
  replace hR := hide hR
  have c0 := k0.cell 0
  simp only [List.getElem?_toArray, List.getElem?_cons_zero, List.getElem?_cons_succ] at c0
  go_enter Tryz.func14, Tryz.ntmps14
  go_wp2_with fail
  clear hW0 c0
  refine (rightS_any A c H Ar cr R _ h0.out hn.out hR0.out hf.out).mono ?_
  rintro e w1 ⟨rfl, hb1⟩
  have hb := hB.trans (hb1.mono hB.size)
  clear hb1 hB h0 k0 hR0
  cases hr : rightS H R with
  | false =>
    have hx := hide (hsw.out hr)
    clear hr hsw hsy hok
    go_wp2
    go_ret
    exact ⟨_, rfl, by rw [hx.out]; exact OwnC.nil _ _, hb⟩
  | true =>
    have hO := hok.out hr
    have hR16 := hO.len
    have h32 : H.length ≤ 32 := ((rightH_iff H).1 hO.right).1
    have hsx := hide (hsy.out hr)
    have hstp := hide (fun k (hk : k < R.length) => choTo_step (H := H) hk)
    have hctl := hide (fun k hk => choTo_len (H := H) (R := R) h32 k hk)
    have hrow := hide (fun k (hk : k < R.length) => sort_iff.2 (hO.perm _ (List.getElem_mem hk)))
    have hch0 : Hid (choTo H R 0 = []) := hide rfl
    replace hO := hide hO
    replace hr := hide hr
    clear hsw hsy hok
    go_wp2_with fail
    go_loopw [5, 20] (fun s5 s20 wr => ∃ k : Nat, k ≤ R.length ∧ s20 = .int .i64 k ∧ OwnC wr w.heap.size s5 (choTo H R k) ∧ Below w.heap.size w wr) (fun _ s20 _ => R.length - (intOf s20).toNat)
    case atStart => exact ⟨0, Nat.zero_le _, by go_num, by rw [hch0.out]; exact OwnC.nil _ _, hb⟩
    case round =>
      clear hb
      obtain ⟨Wo, rfl⟩ : ∃ Wo, Wo = wr := ⟨_, rfl⟩
      obtain ⟨k, hk, rfl, hown, hb⟩ := hrel
      have hi1' : (0 : Int) ≤ (k : Int) := Int.natCast_nonneg _
      by_cases hlt : k < R.length
      · have hi2' : (k : Int) < (R.length : Int) := by omega
        obtain ⟨br, or_, Ay, cy, rfl, hbK, d0', d1', hy'⟩ := hR.out.at_ hlt
        have d0 := (hb.cell (p := ⟨br, or_ + k * 2, none⟩) hbK).trans d0'
        have d1 := (hb.cell (p := ⟨br, or_ + k * 2 + 1, none⟩) hbK).trans d1'
        clear d0' d1' hbK
        have hst := hide (hstp.out k hlt)
        have hlen := hctl.out k hk
        have hsrt := hide (hrow.out k hlt)
        have hyl := hfl.out k hlt
        have hchr : Hid (choR H R[k] = (pairsK R[k].key (wrsL H R[k].key)).map (ofC R[k].l)) := hide rfl
        obtain ⟨Av, cv, rfl⟩ := hown.form
        generalize R[k] = row at *
        obtain ⟨rk, rl⟩ := row
        dsimp only at *
        have hy := hide hy'
        clear hy'
        have hszb := hb.size
        obtain ⟨W2, hW2⟩ : ∃ W2, Wo.alloc (.cells #[.int .i64 rk, .slice Ay rl.length cy] 30) = W2 := ⟨_, rfl⟩
        have hB2 := below_allocEq (Below.refl Wo.heap.size Wo) hW2 (Nat.le_refl _)
        have n0 := Blk.newEq hW2
        have hsz2 := size_allocEq hW2
        have e1 := n0.cell 1
        simp only [List.getElem?_toArray, List.getElem?_cons_zero, List.getElem?_cons_succ] at e1
        go_wp2_with fail
        refine (valuesI_any Ay rl.length cy _).mono ?_
        rintro e w3 ⟨rfl, rfl⟩
        clear hW2 d0 d1 e1
        obtain ⟨W3, hW3⟩ : ∃ W3, W2.alloc (.cells #[.slice Ay rl.length cy] 26) = W3 := ⟨_, rfl⟩
        have hB3 := hB2.trans ((below_allocEq (Below.refl W2.heap.size W2) hW3 (Nat.le_refl _)).mono hB2.size)
        have kv := Blk.newEq hW3
        have n3 := n0.allocEq hW3
        have hb3 := hb.trans (hB3.mono hb.size)
        have hy3 : IntS W3 (Old W3) (.slice Ay rl.length cy) rl := IntS.keep hy.out (Agree.below hb3 fun b h => h) (fun b h => Nat.lt_of_lt_of_le (show b < _ from h) hb3.size)
        have hs3 := size_allocEq hW3
        have hown3 := own_below hown hB3 (Nat.le_refl _)
        rw [hW3]
        have cv := kv.cell 0
        simp only [List.getElem?_toArray, List.getElem?_cons_zero] at cv
        rw [hsz2] at cv
        clear hW3 kv n0 hB2 hown hB3
        go_wp2_with fail
        refine (sortedI_any Ay (Wo.heap.size + 1) cy rl hyl W3 cv hy3).mono ?_
        rintro e w4 ⟨v4, rfl, ho4, hb4⟩
        rw [show (rl.mergeSort fun x y => decide (x ≤ y)) = sortI rl from rfl, hsrt.out, natI_intsN] at ho4
        have hLn := wrsL_len H rk
        have hpa := hide (pairsI_all rk (wrsL H rk))
        have hpi := hide (fun i (hi : i < (wrsL H rk).length) => pairsI_step rk (wrsL H rk) hi)
        have hpl := hide (pairsI_len rk (wrsL H rk))
        generalize wrsL H rk = L at *
        obtain ⟨Al, cl, hv⟩ := ho4.form
        rw [intsN_len] at hv
        subst hv
        have hLS : IntS w4 (TyK w.heap.size [3] w4) (.slice Al L.length cl) (intsN L) := own_slT (own_baseT ho4 (by omega)) (fun _ => rfl) (by simp)
        have hb5 := hb3.trans (hb4.mono hb3.size)
        have n4 := n3.below hb4 n3.lt
        have hown4 : OwnC w4 w.heap.size _ (choTo H R k) := own_below hown3 hb4 (Nat.le_refl _)
        have hcl2 : L.length ≤ cl := by
          obtain ⟨_, _, e, h2⟩ := SlR.len hLS
          injection e with e1 e2 e3
          rw [intsN_len] at h2
          omega
        clear ho4 hb4 hb3 hown3 n3 hy3 cv hs3 hsz2 hsrt
        generalize Wo.heap.size = pr at *
        go_wp2_with fail
        go_loopw [5, 30] (fun s5 s30 wq => ∃ i : Nat, i ≤ L.length ∧ s30 = .int .i64 i ∧ OwnC wq w.heap.size s5 (choTo H R k ++ (pairsI rk L i).map (ofC rl)) ∧ Below w.heap.size w wq ∧ IntS wq (TyK w.heap.size [3] wq) (.slice Al L.length cl) (intsN L) ∧ Blk wq pr 30 #[.int .i64 rk, .slice Ay rl.length cy]) (fun _ s30 _ => L.length - (intOf s30).toNat)
        case atStart => exact ⟨0, Nat.zero_le _, by go_num, by simpa [pairsI] using hown4, hb5, hLS, n4⟩
        case round =>
          clear hown4 hb5 hLS n4
          obtain ⟨Wp, rfl⟩ : ∃ Wp, Wp = wr := ⟨_, rfl⟩
          obtain ⟨i, hi, rfl, hown, hb, hLS, n0⟩ := hrel
          have hj1 : (0 : Int) ≤ (i : Int) := Int.natCast_nonneg _
          by_cases hil : i < L.length
          · have hj2 : (i : Int) < (L.length : Int) := by omega
            obtain ⟨bl, ol, rfl, _, hcl⟩ := hLS.at_ (i := i) (by rw [intsN_len]; exact hil)
            rw [intsN_at hil] at hcl
            have hpst := hide (hpi.out i hil)
            have hdl : (L.drop (i + 1)).length = L.length - (i + 1) := List.length_drop
            have hlen2 := hpl.out i
            have hlen3 : i * L.length ≤ 32 * 32 := Nat.mul_le_mul (by omega) (by omega)
            generalize L[i] = a at *
            have hle : i + 1 ≤ L.length := by omega
            have hle3 : (i : Int) + 1 ≤ (L.length : Int) := by omega
            by_cases hcap : cl = i + 1
            · have hLi : L.length = i + 1 := by omega
              have hd0 : L.drop (i + 1) = [] := List.drop_of_length_le (by omega)
              have hown3 : Hid (OwnC Wp w.heap.size u5 (choTo H R k ++ (pairsI rk L (i + 1)).map (ofC rl))) := hide (by rw [hpst.out, hd0, List.map_nil, List.append_nil]; exact hown)
              have hz0 : L.length - (i + 1) = 0 := by omega
              clear hd0 hcl2
              replace hown := hide hown
              subst hcap
              go_wp2_with fail
              go_loop [5, 40] (fun s5 s40 => s40 = .int .i64 0 ∧ OwnC Wp w.heap.size s5 (choTo H R k ++ (pairsI rk L (i + 1)).map (ofC rl))) (fun _ _ => 0)
              case atStart => exact ⟨rfl, hown3.out⟩
              case round =>
                clear hown3
                obtain ⟨rfl, hown3⟩ := hrel
                go_wp2
                go_roundw
                case rel => exact ⟨i + 1, by omega, by go_num, hown3, hb, hLS, n0⟩
                case measure => simp [intOf]; omega
            · go_wp2_with fail
              have hdo := hide (fun j (hj : j < L.length - (i + 1)) => (show i + 1 + j < L.length by omega))
              go_loopw [5, 40] (fun s5 s40 wq => ∃ j : Nat, j ≤ L.length - (i + 1) ∧ s40 = .int .i64 j ∧ OwnC wq w.heap.size s5 (choTo H R k ++ (pairsI rk L i).map (ofC rl) ++ ((L.drop (i + 1)).take j).map fun (b : Nat) => ofC rl (⟨rk, (a : Nat), b⟩ : Cho)) ∧ Below w.heap.size w wq ∧ IntS wq (TyK w.heap.size [3] wq) (.slice (some ⟨bl, ol, none⟩) L.length cl) (intsN L) ∧ Blk wq pr 30 #[.int .i64 rk, .slice Ay rl.length cy]) (fun _ s40 _ => (L.length - (i + 1)) - (intOf s40).toNat)
              case atStart => exact ⟨0, Nat.zero_le _, by go_num, by simpa using hown, hb, hLS, n0⟩
              case round =>
                clear hown hb hLS n0 hcl
                obtain ⟨j, hj, rfl, hown, hb, hLS, n0⟩ := hrel
                have hjj : (0 : Int) ≤ (j : Int) := Int.natCast_nonneg _
                by_cases hjl : j < L.length - (i + 1)
                · have hj3 : (j : Int) < ((L.length - (i + 1) : Nat) : Int) := by omega
                  have hix := hdo.out j hjl
                  obtain ⟨_, _, e, _, hcj⟩ := hLS.at_ (i := i + 1 + j) (by rw [intsN_len]; exact hix)
                  injection e with e
                  injection e with e1 e2
                  subst e1 e2
                  rw [intsN_at hix, ← Nat.add_assoc] at hcj
                  have hdj : Hid (((L.drop (i + 1)).take (j + 1)) = (L.drop (i + 1)).take j ++ [L[i + 1 + j]]) := hide (by rw [take_snoc' (by rw [hdl]; exact hjl), List.getElem_drop])
                  have hjn : ((L.drop (i + 1)).take j).length ≤ 32 := by rw [List.length_take, hdl]; omega
                  have hplen : (choTo H R k).length ≤ 16384 := by omega
                  have hwlen : (choTo H R k ++ (pairsI rk L i).map (ofC rl) ++ ((L.drop (i + 1)).take j).map fun (b : Nat) => ofC rl (⟨rk, (a : Nat), b⟩ : Cho)).length ≤ 20000 := by
                    rw [List.length_append, List.length_append, List.length_map, List.length_map]
                    omega
                  obtain ⟨Av, cv, rfl⟩ := hown.form
                  generalize hM : (choTo H R k ++ (pairsI rk L i).map (ofC rl) ++ ((L.drop (i + 1)).take j).map fun (b : Nat) => ofC rl (⟨rk, (a : Nat), b⟩ : Cho)) = M at *
                  generalize L[i + 1 + j] = y at *
                  have hM2 : Hid ((choTo H R k ++ (pairsI rk L i).map (ofC rl) ++ ((L.drop (i + 1)).take (j + 1)).map fun (b : Nat) => ofC rl (⟨rk, (a : Nat), b⟩ : Cho)) = M ++ [ofC rl ⟨rk, a, y⟩]) := hide (by rw [hdj.out, List.map_append, ← List.append_assoc, hM]; rfl)
                  have hszb2 := hb.size
                  obtain ⟨W6, hW6⟩ : ∃ W6, wr.alloc (.cells #[.int .i64 rk, .int .i64 a, .int .i64 y] 89) = W6 := ⟨_, rfl⟩
                  have hB6 := below_allocEq (Below.refl wr.heap.size wr) hW6 (Nat.le_refl _)
                  have m0 := Blk.newEq hW6
                  have hs6 := size_allocEq hW6
                  have hb6 := hb.trans (hB6.mono hb.size)
                  have n6 := n0.allocEq hW6
                  have hown6 : OwnC W6 w.heap.size _ M := own_below hown hB6 (Nat.le_refl _)
                  have hL6 := IntS.keepT hLS (TyK.below (base := w.heap.size) (τs := [3]) hB6 (Nat.le_refl _))
                  have hy6 : Hid (IntS W6 (Old W6) (.slice Ay rl.length cy) rl) := hide (IntS.keep hy.out (Agree.below hb6 fun b h => h) (fun b h => Nat.lt_of_lt_of_le (show b < _ from h) hb6.size))
                  have hfar := hide (fun g hg => (hown.lt g hg).2)
                  clear hM hjn hplen hdj hLS hown hb hB6
                  have c0 := n6.cell 0
                  have c1 := n6.cell 1
                  simp only [List.getElem?_toArray, List.getElem?_cons_zero, List.getElem?_cons_succ] at c0 c1
                  have b0 := n0.cell 0
                  have b1 := n0.cell 1
                  simp only [List.getElem?_toArray, List.getElem?_cons_zero, List.getElem?_cons_succ] at b0 b1
                  have hca := hide (fun W z (hq : IntS W (Old W6) (.slice Ay rl.length cy) rl) => (index_int Ay cy rl z (Old W6) W hq (by unfold maxLen; omega)).mono fun _ _ h => (⟨h.1, h.2.symm⟩ : _ ∧ _))
                  have hof := hide (show ofC rl ⟨rk, a, y⟩ = if idxI rl (a : Int) > idxI rl (y : Int) then ⟨rk, y, a⟩ else ⟨rk, a, y⟩ from rfl)
                  replace m0 := hide m0
                  clear n0
                  go_wp2_with fail
                  go_quiet ((go_at_call 44; exact Calls.quiet_of_same (hca.out _ _ (hy6.out.keep (Agree.drewN _ _ _) (fun _ h => h)))))
                  generalize idxI rl (a : Int) = p at *
                  generalize idxI rl (y : Int) = q at *
                  have hkD : M.length + 1 ≤ maxLen := by unfold maxLen; omega
                  have hkb : (M.length + 1) * 24 ≤ 140737488355328 := by omega
                  clear hW6 b0 b1
                  have hbq : Below w.heap.size w (W6.drewN nq) := hb6.trans ⟨rfl, rfl, rfl, Nat.le_refl _, fun _ _ => rfl⟩
                  have hownq : OwnC (W6.drewN nq) w.heap.size _ M := own_drewN hown6 nq
                  have hLq : IntS (W6.drewN nq) (TyK w.heap.size [3] (W6.drewN nq)) _ (intsN L) := IntS.keepT hL6 (Agree.drewN _ _ _)
                  have nq0 : Blk (W6.drewN nq) pr 30 #[.int .i64 rk, .slice Ay rl.length cy] := n6
                  have mq : Blk (W6.drewN nq) wr.heap.size 89 #[.int .i64 rk, .int .i64 a, .int .i64 y] := m0.out
                  generalize hgb : decide (q < p) = bq
                  cases bq with
                  | true =>
                    have hgt : p > q := of_decide_eq_true hgb
                    clear hgb
                    rw [hof.out, if_pos hgt] at hM2
                    have hne1 : (Value.slice Av M.length cv).ownBlock ≠ some wr.heap.size := fun e => Nat.lt_irrefl _ (hfar.out _ e)
                    have hownX := hide (own_setCell (own_setCell hownq (p := ⟨wr.heap.size, 1, none⟩) hne1 (.int .i64 y)) (p := ⟨wr.heap.size, 2, none⟩) hne1 (.int .i64 a))
                    have hbX := (hbq.setCell (p := ⟨wr.heap.size, 1, none⟩) hszb2 (.int .i64 y)).setCell (p := ⟨wr.heap.size, 2, none⟩) hszb2 (.int .i64 a)
                    have hszX := hbX.size
                    have mq1 := mq.set_ 1 (.int .i64 y)
                    have mX := mq1.set_ 2 (.int .i64 a)
                    have hLX := IntS.keepT (IntS.keepT hLq (TyK.set_ mq (by decide) (.int .i64 y) (i := 1))) (TyK.set_ mq1 (by decide) (.int .i64 a) (i := 2))
                    have hpr : pr ≠ wr.heap.size := fun e => by have := nq0.symm.trans (e ▸ mq); simp at this
                    have nX := (nq0.far (p := ⟨wr.heap.size, 1, none⟩) hpr (.int .i64 y)).far (p := ⟨wr.heap.size, 2, none⟩) hpr (.int .i64 a)
                    have f1 := m0.out.frozen 1
                    have f2 := m0.out.frozen 2
                    have e0 := m0.out.cell 0
                    have e1 := m0.out.cell 1
                    have e2 := m0.out.cell 2
                    simp only [List.getElem?_toArray, List.getElem?_cons_zero, List.getElem?_cons_succ] at e0 e1 e2
                    replace hM2 := hide hM2.out
                    clear hgt hof hownq hLq nq0 mq mq1 mX hne1 hbq hown6 hL6 n6 hb6 c0 c1
                    go_wp2_with (at_builtin; go_loud (refine wpList_push (enc := encC) rfl (.tmp 62) (.tmp 64) 36 rfl w.heap.size 89 ic _ 3 24 Tryz.underlying36 hic hi1 hi2 hi3 rfl (by decide) (.slice Av M.length cv) M rfl hownX.out (fun _ => rfl) (⟨rk, y, a⟩ : Cho) _ rfl (by first | rfl | (simp [Act.eval]; done) | (simp; rfl)) encC_one hkD hkb hszX w w.heap.size (Nat.le_refl _) hbX ?_); intro v1 w9 hown1 hg1 hb1 hat1)
                    have hoA := hownX.out.alloc (.cells #[.int .i64 rk, .int .i64 y, .int .i64 a] 89)
                    have hL9 := IntS.keepT hLX (TyK.trans (TyK.alloc _) (TyK.grown (base := w.heap.size) (τs := [3]) hg1 hoA (by decide)))
                    have n9 := (nX.alloc (.cells #[.int .i64 rk, .int .i64 y, .int .i64 a] 89)).grown hg1 (own_off hoA (nX.alloc _) (by decide))
                    go_wp2
                    go_roundw
                    case rel => exact ⟨j + 1, by omega, by go_num, by rw [hM2.out]; exact hown1, hb1, hL9, n9⟩
                    case measure => simp [intOf]; omega
                  | false =>
                    clear hown6 hL6 n6 hb6 c0 c1 m0 hy6
                    generalize W6.drewN nq = Wq at *
                    have hgt : ¬ p > q := of_decide_eq_false hgb
                    clear hgb
                    rw [hof.out, if_neg hgt] at hM2
                    have hownX := hide hownq
                    have hbX := hbq
                    have hszX := hbX.size
                    have hLX := hLq
                    have nX := nq0
                    have e0 := mq.cell 0
                    have e1 := mq.cell 1
                    have e2 := mq.cell 2
                    simp only [List.getElem?_toArray, List.getElem?_cons_zero, List.getElem?_cons_succ] at e0 e1 e2
                    replace hM2 := hide hM2.out
                    clear hgt hof hownq hLq nq0 mq hbq
                    go_wp2_with (at_builtin; go_loud (refine wpList_push (enc := encC) rfl (.tmp 62) (.tmp 64) 36 rfl w.heap.size 89 ic _ 3 24 Tryz.underlying36 hic hi1 hi2 hi3 rfl (by decide) (.slice Av M.length cv) M rfl hownX.out (fun _ => rfl) (⟨rk, a, y⟩ : Cho) _ rfl (by first | rfl | (simp [Act.eval]; done) | (simp; rfl)) encC_one hkD hkb hszX w w.heap.size (Nat.le_refl _) hbX ?_); intro v1 w9 hown1 hg1 hb1 hat1)
                    have hoA := hownX.out.alloc (.cells #[.int .i64 rk, .int .i64 a, .int .i64 y] 89)
                    have hL9 := IntS.keepT hLX (TyK.trans (TyK.alloc _) (TyK.grown (base := w.heap.size) (τs := [3]) hg1 hoA (by decide)))
                    have n9 := (nX.alloc (.cells #[.int .i64 rk, .int .i64 a, .int .i64 y] 89)).grown hg1 (own_off hoA (nX.alloc _) (by decide))
                    go_wp2
                    go_roundw
                    case rel => exact ⟨j + 1, by omega, by go_num, by rw [hM2.out]; exact hown1, hb1, hL9, n9⟩
                    case measure => simp [intOf]; omega
                · obtain rfl : j = L.length - (i + 1) := by omega
                  rw [List.take_of_length_le (by rw [hdl]; exact Nat.le_refl _), List.append_assoc] at hown
                  have hq : Hid ((pairsI rk L (i + 1)).map (ofC rl) = (pairsI rk L i).map (ofC rl) ++ (L.drop (i + 1)).map fun (b : Nat) => ofC rl (⟨rk, (a : Nat), b⟩ : Cho)) := hide (by rw [hpst.out, List.map_append, List.map_map]; rfl)
                  rw [← hq.out] at hown
                  go_wp2
                  go_roundw
                  case rel => exact ⟨i + 1, by omega, by go_num, hown, hb, hLS, n0⟩
                  case measure => simp [intOf]; omega
          · obtain rfl : i = L.length := by omega
            rw [hpa.out, ← hchr.out, ← hst.out] at hown
            go_wp2
            go_roundw
            case rel => exact ⟨k + 1, by omega, by go_num, hown, hb⟩
            case measure => simp [intOf]; omega
      · obtain rfl : k = R.length := by omega
        go_wp2
        go_ret
        exact ⟨_, rfl, by rw [hsx.out]; exact hown, hb⟩
end Go.Proofs.YtfhnamomiaekdaaGreat
