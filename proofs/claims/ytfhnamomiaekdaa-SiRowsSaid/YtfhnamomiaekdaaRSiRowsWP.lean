/-
  Walks: layer 18: the choices that an order makes.
-/
import Derived.Deep.OwnRows
import Derived.Test.YtfhnamomiaekdaaRSiRowsWK
import Derived.Test.YtfhnamomiaekdaaRSiRowsWO
import Derived.Test.YtfhnamomiaekdaaRSiRowsWA
import Derived.Test.YtfhnamomiaekdaaRSiRowsWB
set_option linter.unusedVariables false
set_option linter.unusedSimpArgs false
namespace Go.Proofs.Ytfhnamomiaekdaa
open Go.RowKit Go.Inq
set_option maxHeartbeats 8000000
attribute [local go_sem ↓] Go.wp_at_zero Go.wp_at_succ

/-- The choices of an order, if it is one. -/
def ofB (H : List Txn) (π : List Int) : List Cho := if rightB H π = true then ofL H π else []
def placeU (π : List Int) (k : Nat) (κ : Int) : Int := if 0 ≤ κ ∧ κ < (k : Int) then idxI π κ else 0
theorem perm_idxI {π : List Int} {n : Nat} (hl : π.length = n) (h : ∀ i : Nat, i < n → 0 ≤ idxI π (i : Int)) : permB π n = true := by
  unfold permB
  rw [decide_eq_true hl, Bool.true_and, List.all_eq_true]
  intro i hi
  rw [← idxI_contains]
  exact decide_eq_true (h i (List.mem_range.1 hi))
theorem perm_noI {π : List Int} {n i : Nat} (hi : i < n) (h : idxI π (i : Int) < 0) : permB π n = false := by
  rw [Bool.eq_false_iff]
  intro hp
  have h1 := List.contains_iff_mem.2 (perm_has hp hi)
  rw [← idxI_contains] at h1
  have := of_decide_eq_true h1
  omega
/-- The first choices turned, as the order has them. -/
def mixC (P : List Cho) (π : List Int) (i : Nat) : List Cho := (P.take i).map (ofC π) ++ P.drop i
theorem mixC_len (P : List Cho) (π : List Int) (i : Nat) : (mixC P π i).length = P.length := by
  unfold mixC
  rw [List.length_append, List.length_map, List.length_take, List.length_drop]; omega
theorem mixC_at {P : List Cho} {π : List Int} {i : Nat} (h : i < P.length) : (mixC P π i)[i]'(by rw [mixC_len]; exact h) = P[i] := by
  unfold mixC
  rw [List.getElem_append_right (by simp; omega)]
  simp only [List.length_map, List.length_take, List.getElem_drop]
  congr 1
  omega
theorem mixC_step {P : List Cho} {π : List Int} {i : Nat} (h : i < P.length) : mixC P π (i + 1) = (mixC P π i).set i (ofC π P[i]) := by
  unfold mixC
  rw [List.take_succ_eq_append_getElem h, List.map_append, List.append_assoc]
  have hd : P.drop i = P[i] :: P.drop (i + 1) := List.drop_eq_getElem_cons h
  have hl : ((P.take i).map (ofC π)).length = i := by rw [List.length_map, List.length_take]; omega
  rw [List.set_append_right _ _ (by rw [hl]; exact Nat.le_refl _), hl, Nat.sub_self, hd]
  rfl
set_option maxRecDepth 100000 in
theorem of18_any (A : Option Addr) (c : Nat) (H : List Txn) (Ap : Option Addr) (cp : Nat) (π : List Int) (w : World) (h : TxnS w (Old w) (.slice A H.length c) H) (hn : SmallH H) (hπ : IntS w (Old w) (.slice Ap π.length cp) π) (hpl : π.length ≤ 1000000) :
    Calls Try.prog 11 #[.agg #[.slice A H.length c], .slice Ap π.length cp] w (OutC w (ofB H π)) := by
  obtain ⟨W0, hW0⟩ : ∃ W0, w.alloc (.cells #[.slice A H.length c] 24) = W0 := ⟨_, rfl⟩
  have hB := below_allocEq (Below.refl w.heap.size w) hW0 (Nat.le_refl _)
  have k0 := Blk.newEq hW0
  have h0 := hide (h.below hB)
  have hbad := hide (fun (e : rightH H = false ∨ permB π H.length = false) => (by
    unfold ofB rightB
    rw [if_neg]
    intro g
    rw [Bool.and_eq_true] at g
    rcases e with e | e
    · rw [e] at g; cases g.1
    · rw [e] at g; cases g.2 : ofB H π = []))
  have hgood := hide (fun (e1 : rightH H = true) (e2 : permB π H.length = true) => (by unfold ofB rightB; rw [e1, e2]; rfl : ofB H π = ofL H π))
  have hpl2 := hide (fun (e : π.length ≠ H.length) => (by unfold permB; rw [decide_eq_false e, Bool.false_and] : permB π H.length = false))
  have hpi := hide (fun (e : π.length = H.length) => perm_idxI (π := π) e)
  have hpn := hide (fun i (hi : i < H.length) => perm_noI (π := π) (n := H.length) hi)
  replace hn := hide hn
  replace h := hide h
  replace hπ := hide hπ
  have c0 := k0.cell 0
  simp only [List.getElem?_toArray, List.getElem?_cons_zero, List.getElem?_cons_succ] at c0
  go_enter Try.func11, Try.ntmps11
  go_wp2_with fail
  clear hW0 c0
  refine (right8_any A c H _ h0.out hn.out).mono ?_
  rintro e w1 ⟨rfl, hb1⟩
  have hb := hB.trans (hb1.mono hB.size)
  replace k0 := k0.below hb1 k0.lt
  clear hb1 hB h0
  cases hr : rightH H with
  | false =>
    have hx := hide (hbad.out (.inl hr))
    clear hr hbad hgood hpl2 hpi hpn
    go_wp2
    go_ret
    exact ⟨_, rfl, by rw [hx.out]; exact OwnC.nil _ _, hb⟩
  | true =>
    have h32 : H.length ≤ 32 := ((rightH_iff H).1 hr).1
    have hPl := pairsL_len hr
    have hPn := hide (fun i (hi : i < (pairsL H).length) => pairsL_mem (List.getElem_mem hi))
    replace hgood := hide (hgood.out hr)
    have hr' := hide hr
    have c0 := k0.cell 0
    simp only [List.getElem?_toArray, List.getElem?_cons_zero, List.getElem?_cons_succ] at c0
    clear hr
    by_cases hlen : π.length = H.length
    · have hz1 : ((π.length : Int) != (H.length : Int)) = false := by rw [hlen]; exact bne_self_eq_false _
      replace hpi := hide (hpi.out hlen)
      have hl32 : π.length ≤ 32 := by omega
      have hll := hide hlen
      have hmk : ∀ W : World, (Instr.makeSlice 25 (.int .i64 (π.length : Int)) (.int .i64 (π.length : Int))).run Try.prog W = .ok (.slice (some ⟨W.heap.size, 0, none⟩) π.length π.length) (W.alloc (.cells (madeCells #[.int .i64 0] π.length) 3)) :=
        fun W => run_make_row' (P := Try.prog) 25 3 (.int .i64 0) 8 Try.underlying25 infoI10 rfl .i64 .i64 _ (by omega) (by omega) W
      have hmr : madeCells #[.int .i64 0] π.length = Array.replicate π.length (.int .i64 0) := by
        refine Array.ext (by simp [size_madeCells]) fun i h1 h2 => ?_
        simp [madeCells, Nat.mod_one]
      rw [hmr] at hmk
      generalize hRp : Array.replicate π.length (Value.int .i64 0) = Rp at *
      replace hRp := hide hRp
      clear hpl2 hlen hmr
      go_upto_region 4 with fail
      obtain ⟨W2, hW2⟩ : ∃ W2, w1.alloc (.cells Rp 3) = W2 := ⟨_, rfl⟩
      rw [hW2]
      have hB2 := below_allocEq (Below.refl w1.heap.size w1) hW2 (Nat.le_refl _)
      have hK2 : KeyA W2 w1.heap.size 3 π.length (placeU π 0) := (KeyA.new (by rw [hRp.out]; exact Blk.newEq hW2)).congr fun κ => by unfold placeU; rw [if_neg (by omega)]
      have k2 := k0.below hB2 k0.lt
      have hb2 := hb.trans (hB2.mono hb.size)
      have hw1 := hb.size
      have hkl := k0.lt
      clear hW2 hB2 hb k0 hmk hRp c0
      generalize w1.heap.size = Pb at *
      go_wp2_with fail
      go_loopw [26] (fun s26 wr => ∃ k : Nat, k ≤ π.length ∧ s26 = .int .i64 k ∧ KeyA wr Pb 3 π.length (placeU π k) ∧ Hid (∀ i : Nat, i < k → 0 ≤ idxI π (i : Int)) ∧ Below w.heap.size w wr ∧ Blk wr w.heap.size 24 #[.slice A H.length c]) (fun s26 _ => π.length - (intOf s26).toNat)
      case atStart => exact ⟨0, Nat.zero_le _, by go_num, hK2, hide (fun i hi => absurd hi (by omega)), hb2, k2⟩
      case round =>
        clear hK2 hb2 k2
        obtain ⟨k, hk, rfl, hK, hpos, hb, k0⟩ := hrel
        have hk1 : (0 : Int) ≤ (k : Int) := Int.natCast_nonneg _
        by_cases hlt : k < π.length
        · have hi2 : (k : Int) < (π.length : Int) := by omega
          have hπr : IntS wr (Old w) (.slice Ap π.length cp) π := IntS.keep hπ.out (Agree.below hb fun b h => h) (fun b h => h)
          have hcx := hide (index_int Ap cp π (k : Int) (Old w) wr hπr (by unfold maxLen; omega))
          obtain ⟨_, kf⟩ := hK.cell k hlt
          have kc := (hK.cell k hlt).1
          have hKs := hide (fun x => hK.store k hlt x)
          have hpk := hide (hpn.out k (by rw [← hll.out]; exact hlt))
          replace hπr := hide hπr
          generalize hidx : idxI π (k : Int) = ix at *
          go_wp2_with fail
          refine hcx.out.mono ?_
          rintro e wz ⟨rfl, rfl⟩
          have hK9 : KeyA (wr.setCell ⟨Pb, k, none⟩ (.int .i64 ix)) Pb 3 π.length (placeU π (k + 1)) := (hKs.out ix).congr fun κ => by
            unfold placeU
            by_cases e : κ = (k : Int)
            · rw [if_pos e, if_pos (by omega), e, hidx]
            · rw [if_neg e]
              by_cases g : 0 ≤ κ ∧ κ < (k : Int)
              · rw [if_pos g, if_pos (by omega)]
              · rw [if_neg g, if_neg (by omega)]
          have kc2 := (hK9.cell k hlt).1
          have hb9 := hb.setCell (p := ⟨Pb, k, none⟩) hw1 (.int .i64 ix)
          have hk9 := k0.far (p := ⟨Pb, k, none⟩) (show w.heap.size ≠ Pb by omega) (.int .i64 ix)
          replace hidx := hide hidx
          clear hcx hKs hK hb k0 kc2
          by_cases hneg : ix < 0
          · have hq : decide (ix < 0) = true := decide_eq_true hneg
            have hx := hide (hbad.out (.inr (hpk.out hneg)))
            clear hneg hpk
            go_wp2
            go_ret
            exact ⟨_, rfl, by rw [hx.out]; exact OwnC.nil _ _, hb9⟩
          · have hq : decide (ix < 0) = false := decide_eq_false hneg
            have hpos2 := hide (fun i (hi : i < k + 1) => (by
              by_cases g : i = k
              · subst g; rw [hidx.out]; omega
              · exact hpos.out i (by omega) : 0 ≤ idxI π (i : Int)))
            clear hneg hpk hpos
            go_wp2
            go_roundw
            case rel => exact ⟨k + 1, by omega, by go_num, hK9, hpos2, hb9, hk9⟩
            case measure => simp [intOf]; omega
        · obtain rfl : k = π.length := by omega
          have hof := hide (hgood.out (hpi.out fun i hi => hpos.out i (by rw [hll.out]; exact hi)))
          have c0 := k0.cell 0
          simp only [List.getElem?_toArray, List.getElem?_cons_zero, List.getElem?_cons_succ] at c0
          have hcl := hide (pairs9_any A c H wr (h.out.below hb) hn.out hr'.out)
          have hofl : Hid (ofL H π = mixC (pairsL H) π (pairsL H).length) := hide (by unfold ofL mixC; rw [List.take_length, List.drop_length, List.append_nil])
          have hm0 : Hid (mixC (pairsL H) π 0 = pairsL H) := hide (by unfold mixC; simp)
          generalize pairsL H = P at *
          go_wp2_with fail
          clear c0
          refine hcl.out.mono ?_
          rintro e wl ⟨vl, rfl, hLO, hbl⟩
          obtain ⟨Al, cl, rfl⟩ := hLO.form
          have hb5 := hb.trans (hbl.mono hb.size)
          have hK5 := hK.below hbl hK.lt
          have hLt := hide (fun g hg => (hLO.lt g hg).1)
          have hsz := hK.lt
          have hLw : OwnC wl w.heap.size (.slice Al P.length cl) P := own_baseT hLO hb.size
          clear hLO hbl hb hK k0 hpos hcl
          go_wp2_with fail
          go_loopw [45] (fun s45 wq => ∃ i : Nat, i ≤ P.length ∧ s45 = .int .i64 i ∧ OwnC wq w.heap.size (.slice Al P.length cl) (mixC P π i) ∧ KeyA wq Pb 3 π.length (placeU π π.length) ∧ Below w.heap.size w wq) (fun s45 _ => P.length - (intOf s45).toNat)
          case atStart => exact ⟨0, Nat.zero_le _, by go_num, by rw [hm0.out]; exact hLw, hK5, hb5⟩
          case round =>
            clear hLw hK5 hb5
            obtain ⟨i, hi, rfl, hO, hK, hb⟩ := hrel
            have hi1 : (0 : Int) ≤ (i : Int) := Int.natCast_nonneg _
            by_cases hil : i < P.length
            · have hi2 : (i : Int) < (P.length : Int) := by omega
              obtain ⟨g, cs, rfl, hg1, hg2, hkg, q0, q1, q2, htn⟩ := hO.turn (i := i) (by rw [mixC_len]; exact hil)
              have hmx := hide (mixC_at (π := π) hil)
              rw [hmx.out] at q0 q1 q2 htn
              have hms := hide (mixC_step (π := π) hil)
              obtain ⟨a, b, ha, hb', hab, hbn, _, _⟩ := hPn.out i hil
              have hofc : Hid (ofC π P[i] = if idxI π P[i].a > idxI π P[i].b then ⟨P[i].key, P[i].b, P[i].a⟩ else P[i]) := hide rfl
              have hsame : Hid ((mixC P π i).set i P[i] = mixC P π i) := hide (by rw [← hmx.out]; exact List.set_getElem_self _)
              generalize P[i] = p at *
              obtain ⟨pk, pa, pb⟩ := p
              dsimp only at *
              subst ha
              subst hb'
              have haπ : a < π.length := by rw [hll.out]; omega
              have hbπ : b < π.length := by rw [hll.out]; exact hbn
              have ha0 : (0 : Int) ≤ (a : Int) := Int.natCast_nonneg _
              have hb0 : (0 : Int) ≤ (b : Int) := Int.natCast_nonneg _
              have ha1 : (a : Int) < (π.length : Int) := by omega
              have hb1 : (b : Int) < (π.length : Int) := by omega
              have d0 := (hkg.cell (i * 3)).trans q0
              have d1 := (hkg.cell (i * 3 + 1)).trans q1
              have d2 := (hkg.cell (i * 3 + 2)).trans q2
              obtain ⟨W6, hW6⟩ : ∃ W6, wr.alloc (.cells #[.int .i64 pk, .int .i64 a, .int .i64 b] 44) = W6 := ⟨_, rfl⟩
              have hB6 := below_allocEq (Below.refl wr.heap.size wr) hW6 (Nat.le_refl _)
              have m0 := Blk.newEq hW6
              have hb6 := hb.trans (hB6.mono hb.size)
              have hK6 := hK.below hB6 hK.lt
              have hO6 : OwnC W6 w.heap.size _ (mixC P π i) := own_below hO hB6 (Nat.le_refl _)
              obtain ⟨g', cs', e', hg1', hg2', hkg', q0', q1', q2', htn'⟩ := hO6.turn (i := i) (by rw [mixC_len]; exact hil)
              injection e' with e'
              injection e' with e1' _
              subst e1'
              rw [hmx.out] at q0' q1' q2' htn'
              have x1 := (hkg'.cell (i * 3 + 1)).trans q1'
              have x2 := (hkg'.cell (i * 3 + 2)).trans q2'
              have f1 := hkg'.frozen (i * 3 + 1)
              have f2 := hkg'.frozen (i * 3 + 2)
              have y0 := m0.cell 0
              have y1 := m0.cell 1
              have y2 := m0.cell 2
              simp only [List.getElem?_toArray, List.getElem?_cons_zero, List.getElem?_cons_succ] at y0 y1 y2
              have z1 := (hK6.cell a haπ).1
              have z2 := (hK6.cell b hbπ).1
              rw [show placeU π π.length (a : Int) = idxI π (a : Int) by unfold placeU; rw [if_pos (by omega)]] at z1
              rw [show placeU π π.length (b : Int) = idxI π (b : Int) by unfold placeU; rw [if_pos (by omega)]] at z2
              have hgPb : g ≠ Pb := by
                rintro rfl
                obtain ⟨ck, h1, _⟩ := hK6
                have := h1.symm.trans hkg'
                simp at this
              generalize idxI π (a : Int) = ia at *
              generalize idxI π (b : Int) = ib at *
              have hmi : i < (mixC P π i).length := by rw [mixC_len]; exact hil
              clear hkg q0 q1 q2 htn hO hK hb hB6
              replace hkg' := hide hkg'
              replace htn' := hide htn'
              replace hO6 := hide hO6
              replace hK6 := hide hK6
              replace m0 := hide m0
              go_wp2_with fail
              go_quiet (fail)
              generalize hgb : decide (ib < ia) = bq
              cases bq with
              | true =>
                have hgt : ia > ib := of_decide_eq_true hgb
                rw [if_pos hgt] at hofc
                clear hgb hgt
                go_upto_region 16 with fail
                go_region
                have hOq : OwnC (W6.drewN (nq + 1)) w.heap.size (.slice (some ⟨g, 0, none⟩) P.length cl) (mixC P π i) := own_drewN hO6.out (nq + 1)
                obtain ⟨g2, cs2, e2, hb2g, _, _, _, _, _, ht2⟩ := hOq.turn hmi
                injection e2 with e2
                injection e2 with e3 _
                subst e3
                rw [hmx.out] at ht2
                have hO9 := ht2 (b : Int) (a : Int)
                rw [← hofc.out, ← hms.out] at hO9
                have hKq : KeyA (W6.drewN (nq + 1)) Pb 3 π.length (placeU π π.length) := hK6.out
                have hK9 : KeyA (turnW (W6.drewN (nq + 1)) g i (.int .i64 b) (.int .i64 a)) Pb 3 π.length (placeU π π.length) := by
                  obtain ⟨ck, j1, j2⟩ := hKq
                  exact ⟨ck, turnW_far j1 (fun e => hgPb e.symm), j2⟩
                have hb9 : Below w.heap.size w (turnW (W6.drewN (nq + 1)) g i (.int .i64 b) (.int .i64 a)) := turnW_below (hb6.trans ⟨rfl, rfl, rfl, Nat.le_refl _, fun _ _ => rfl⟩) hb2g
                unfold turnW at hO9 hK9 hb9
                clear ht2 hOq hKq
                go_wp2
                go_roundw
                case rel => exact ⟨i + 1, by omega, by go_num, hO9, hK9, hb9⟩
                case measure => simp [intOf]; omega
              | false =>
                have hgt : ¬ ia > ib := of_decide_eq_false hgb
                rw [if_neg hgt] at hofc
                have hO9 : OwnC (W6.drewN nq) w.heap.size (.slice (some ⟨g, 0, none⟩) P.length cl) (mixC P π (i + 1)) := by
                  rw [hms.out, hofc.out, hsame.out]
                  exact own_drewN hO6.out nq
                have hK9 : KeyA (W6.drewN nq) Pb 3 π.length (placeU π π.length) := hK6.out
                have hb9 : Below w.heap.size w (W6.drewN nq) := hb6.trans ⟨rfl, rfl, rfl, Nat.le_refl _, fun _ _ => rfl⟩
                clear hgb hgt
                go_wp2
                go_roundw
                case rel => exact ⟨i + 1, by omega, by go_num, hO9, hK9, hb9⟩
                case measure => simp [intOf]; omega
            · obtain rfl : i = P.length := by omega
              rw [← hofl.out] at hO
              go_wp2
              go_ret
              exact ⟨_, rfl, by rw [hof.out]; exact hO, hb⟩
    · have hz1 : ((π.length : Int) != (H.length : Int)) = true := bne_iff_ne.2 (by omega)
      have hx := hide (hbad.out (.inr (hpl2.out hlen)))
      clear hlen hbad hgood hpl2 hpi hpn
      go_wp2
      go_ret
      exact ⟨_, rfl, by rw [hx.out]; exact OwnC.nil _ _, hb⟩
end Go.Proofs.Ytfhnamomiaekdaa
