/-
  Walks: layer 20's reference: from whom a transaction reads, one by one.
-/
import Derived.Test.YtjomijnbnbideaaGreatDoorC38
import Derived.Test.YtjomijnbnbideaaGreatDoorC28
set_option linter.unusedVariables false
set_option linter.unusedSimpArgs false
namespace Go.Proofs.YtjomijnbnbideaaGreatDoor
open Go.RowKit Go.Inq
set_option maxHeartbeats 8000000
attribute [local go_sem ↓] Go.wp_at_zero Go.wp_at_succ

set_option maxRecDepth 100000 in
theorem rfrom20_any (A : Option Addr) (c : Nat) (H : List Txn) (Ap : Option Addr) (cp : Nat) (π : List Int) (k : Nat) (key : Int) (w : World) (h : TxnS w (Old w) (.slice A H.length c) H) (hP : IntS w (Old w) (.slice Ap π.length cp) π) (hn : SmallH H) (hb : ∀ i (hi : i < π.length), 0 ≤ π[i] ∧ π[i] < (H.length : Int)) (hk : k ≤ π.length) (hpl : π.length ≤ 1000000) :
    Calls Tryz.prog 216 #[.agg #[.slice A H.length c], .slice Ap π.length cp, .int .i64 (k : Int), .int .i64 key] w fun e w' => e = .returned (.int .i64 (fromB H π key k)) ∧ Below w.heap.size w w' := by
  obtain ⟨W0, hW0⟩ : ∃ W0, w.alloc (.cells #[.slice A H.length c] 24) = W0 := ⟨_, rfl⟩
  have hB := below_allocEq (Below.refl w.heap.size w) hW0 (Nat.le_refl _)
  have k0 := Blk.newEq hW0
  have hT := hide (h.below hB)
  have hI := hide (hP.below hB)
  have hstep := hide (fun (q : Nat) (g : wrA H π key q = false) => (by show (if _ then _ else _) = _; rw [g, if_neg (by decide)] : fromB H π key (q + 1) = fromB H π key q))
  have hyes := hide (fun (q : Nat) (g : wrA H π key q = true) => (by show (if _ then _ else _) = _; rw [g, if_pos rfl] : fromB H π key (q + 1) = π.getD q 0))
  have hno : Hid (fromB H π key 0 = -1) := hide rfl
  have hwa := hide (fun (q : Nat) (g : q < π.length) => (by unfold wrA; rw [getD_at g] : wrA H π key q = (txnAt H (π[q]).toNat).writes.contains key))
  obtain ⟨r, hr⟩ : ∃ r, fromB H π key k = r := ⟨_, rfl⟩
  rw [hr]
  replace hr := hide hr
  replace hb := hide hb
  clear h hP
  go_enter Tryz.func216, Tryz.ntmps216
  go_upto_region 1 with fail
  clear hW0
  go_wp2_with fail
  go_loopw [9] (fun s9 wr => ∃ j : Int, -1 ≤ j ∧ j < (k : Int) ∧ s9 = .int .i64 j ∧ Hid (fromB H π key (j + 1).toNat = r) ∧ Below W0.heap.size W0 wr) (fun s9 _ => (intOf s9 + 1).toNat)
  case atStart => exact ⟨(k : Int) - 1, by omega, by omega, rfl, hide (by rw [show ((k : Int) - 1 + 1).toNat = k by omega]; exact hr.out), Below.refl _ _⟩
  case round =>
    obtain ⟨j, hj1, hj2, rfl, hrr, hbr⟩ := hrel
    by_cases hj0 : 0 ≤ j
    · obtain ⟨q, rfl⟩ : ∃ q : Nat, j = (q : Int) := ⟨j.toNat, by omega⟩
      have hq : q < k := by omega
      have hqp : q < π.length := by omega
      have hq2 : (q : Int) < (π.length : Int) := by omega
      obtain ⟨bp, op, rfl, -, x0⟩ := (hI.out.below hbr).at_ hqp
      have hbq := hb.out q hqp
      have hrr2 : Hid (fromB H π key (q + 1) = r) := hide (by have := hrr.out; rwa [show ((q : Int) + 1).toNat = q + 1 by omega] at this)
      have hst := hide (hstep.out q)
      have hys := hide (hyes.out q)
      have hwq := hwa.out q hqp
      have hgd := getD_at hqp
      obtain ⟨m, hpm⟩ : ∃ m : Nat, π[q] = (m : Int) := ⟨π[q].toNat, by omega⟩
      rw [hpm] at hbq x0
      rw [hpm] at hwq hgd
      replace hpm := hide hpm
      replace hgd := hide hgd
      have hm : m < H.length := by omega
      have hm2 : (m : Int) < (H.length : Int) := by omega
      obtain ⟨bt, ot, Aw, cw, Ar, cr, rfl, _, d0, d1, d2, hws, _⟩ := TxnS.at_ (hT.out.below hbr) hm
      have k1 := k0.below hbr k0.lt
      have c0 := k1.cell 0
      simp only [List.getElem?_toArray, List.getElem?_cons_zero, List.getElem?_cons_succ] at c0
      have hwl : H[m].writes.length ≤ maxLen := by have := (hn.2 _ (List.getElem_mem hm)).1; unfold maxLen; omega
      have hwm : Hid (wrA H π key q = H[m].writes.contains key) := hide (by rw [hwq, Int.toNat_natCast, txnAt_of hm])
      have hcw := hide (writes08_any H[m].sess Aw cw H[m].writes (.slice Ar H[m].reads.length cr) key (Old wr) wr.drew (hws.keep (Agree.drew _ _) (fun b h => h)) (fun b h => h) hwl)
      generalize H[m].writes = L at *
      generalize H[m].sess = sy at *
      generalize H[m].reads = Ry at *
      generalize L.contains key = cb at *
      clear hws hwq
      go_wp2_with fail
      refine wp_region_still_tail 9 (by kernel_rfl) (by kernel_rfl) ?_
      simp only [List.take_succ_cons, List.take_zero, List.drop_succ_cons, List.drop_zero]
      repeat still_step
      refine wpStill_nil ?_
      go_wp2_with fail
      refine hcw.out.mono ?_
      rintro e w3 ⟨rfl, hb3⟩
      have hb4 := (below_drew hbr).trans (hb3.mono hbr.size)
      clear hcw c0 d0 d1 d2 x0
      obtain ⟨bp', op', e', -, x0⟩ := (hI.out.below hb4).at_ hqp
      injection e' with e'
      injection e' with e1 e2
      subst e1 e2
      rw [hpm.out] at x0
      cases cb with
      | true =>
        have hre : r = (m : Int) := by rw [← hrr2.out, hys.out hwm.out, hgd.out]
        subst hre
        clear hrr hrr2 hst hys hwm hr
        go_wp2
        go_ret
        exact ⟨rfl, hB.trans (hb4.mono hB.size)⟩
      | false =>
        have hre : Hid (fromB H π key q = r) := hide (by rw [← hrr2.out, hst.out hwm.out])
        clear hrr hrr2 hst hys hwm hr
        go_wp2
        go_roundw
        case rel => exact ⟨(q : Int) - 1, by omega, by omega, rfl, hide (by rw [show ((q : Int) - 1 + 1).toNat = q by omega]; exact hre.out), hb4⟩
        case measure => simp [intOf]
    · obtain rfl : j = -1 := by omega
      have hr0 : r = -1 := by rw [← hrr.out, ← hno.out]; rfl
      subst hr0
      clear hstep hyes hwa hr
      go_wp2
      go_ret
      exact ⟨rfl, hB.trans (hbr.mono hB.size)⟩
theorem rtakes20_any (A A' : Option Addr) (c c' : Nat) (l l' : List It) (w : World) (h : ItS w (Old w) (.slice A l.length c) l) (h' : ItS w (Old w) (.slice A' l'.length c') l') (hn : l.length ≤ 1000000) (hn' : l'.length ≤ 1000000) :
    Calls Tryz.prog 177 #[.slice A l.length c, .slice A' l'.length c'] w fun e w' => e = .returned (.bool (decide (l = l'))) ∧ Below w.heap.size w w' := by
  rcases Nat.decEq l.length l'.length with hlen | hlen
  rotate_left
  · rw [← hlen] at h' ⊢
    have hlen2 := hide hlen
    clear hn' hlen
    go_enter Tryz.func177, Tryz.ntmps177
    go_wp2
    go_loopw [5] (fun s5 wr => ∃ i : Nat, i ≤ l.length ∧ s5 = .int .i64 i ∧ Hid (∀ j (hj : j < l.length) (hj' : j < l'.length), j < i → l[j] = l'[j]) ∧ Below w.heap.size w wr) (fun s5 _ => l.length - (intOf s5).toNat)
    case atStart => exact ⟨0, Nat.zero_le _, by go_num, fun j _ _ h => absurd h (by omega), Below.refl _ _⟩
    case round =>
      obtain ⟨i, hi, rfl, hall, hb⟩ := hrel
      by_cases hlt : i < l.length
      · have hlt' : i < l'.length := by have := hlen2.out; omega
        have hw := ItS.below h hb
        have hw' := ItS.below h' hb
        obtain ⟨b, off, rfl, hbK, c0, c1⟩ := ItS.at_ hw hlt
        obtain ⟨b', off', rfl, hbK', d0, d1⟩ := ItS.at_ hw' hlt'
        have hi1 : (0 : Int) ≤ (i : Int) := Int.natCast_nonneg _
        have hi2 : (i : Int) < (l.length : Int) := by omega
        by_cases he : l[i] = l'[i]
        · have hstep : Hid (∀ j (hj : j < l.length) (hj' : j < l'.length), j < i + 1 → l[j] = l'[j]) := fun j hj hj' hji => by
            by_cases hje : j = i
            · subst hje; exact he
            · exact hall.out j hj hj' (by omega)
          rw [← he] at d0 d1
          clear he
          generalize l[i] = x at *
          go_wp2
          go_quiet (fail)
          go_wp2
          go_roundw
          case rel => exact ⟨i + 1, by omega, by go_num, hstep, ⟨hb.os, hb.tape, hb.output, hb.size, hb.block⟩⟩
          case measure => simp [intOf]; omega
        · have hf : l ≠ l' := fun e => he (by subst e; rfl)
          replace hf := hide hf
          generalize l[i] = x at *
          generalize l'[i] = x' at *
          have hways : (x.a == x'.a) = false ∨ ((x.a == x'.a) = true ∧ (x.b == x'.b) = false) := by
            obtain ⟨a0, a1⟩ := x
            obtain ⟨b0, b1⟩ := x'
            simp only [It.mk.injEq] at he
            simp only [beq_iff_eq, beq_eq_false_iff_ne]
            omega
          clear he
          rcases hways with q1 | ⟨q1, q2⟩
          all_goals (
            go_wp2
            go_quiet (fail)
            go_wp2
            go_ret
            exact ⟨by simp [hf.out], ⟨hb.os, hb.tape, hb.output, hb.size, hb.block⟩⟩)
      · have he : l = l' := List.ext_getElem hlen2.out (fun j h1 h2 => hall.out j h1 h2 (by omega))
        have : i = l.length := by omega
        subst this
        go_wp2
        go_ret
        exact ⟨by simp [he], hb⟩
  · have hf : l ≠ l' := fun e => hlen (by rw [e])
    go_enter Tryz.func177, Tryz.ntmps177
    go_wp2
    go_ret
    exact ⟨by simp [hf], Below.refl _ _⟩

/-- Do two stand the wrong way round? -/
def backT (H : List Txn) (π : List Int) (i k : Nat) : Bool := decide (π.getD k 0 > π.getD i 0) && decide ((txnAt H (π.getD k 0).toNat).sess = (txnAt H (π.getD i 0).toNat).sess)
theorem sessB_no {H : List Txn} {π : List Int} {i k : Nat} (hi : i < π.length) (hk : k < i) (h : backT H π i k = true) : sessB H π = false := by
  unfold sessB
  rw [List.all_eq_false]
  refine ⟨i, List.mem_range.2 hi, ?_⟩
  rw [Bool.not_eq_true, List.all_eq_false]
  refine ⟨k, List.mem_range.2 hk, ?_⟩
  unfold backT at h
  rw [h]
  decide
theorem sessB_yes {H : List Txn} {π : List Int} (h : ∀ i, i < π.length → ∀ k, k < i → backT H π i k = false) : sessB H π = true := by
  unfold sessB
  rw [List.all_eq_true]
  intro i hi
  rw [List.all_eq_true]
  intro k hk
  have := h i (List.mem_range.1 hi) k (List.mem_range.1 hk)
  unfold backT at this
  rw [this]
  rfl
set_option maxRecDepth 100000 in
theorem rsess20_any (A : Option Addr) (c : Nat) (H : List Txn) (Ap : Option Addr) (cp : Nat) (π : List Int) (w : World) (h : TxnS w (Old w) (.slice A H.length c) H) (hP : IntS w (Old w) (.slice Ap π.length cp) π) (hb : ∀ i (hi : i < π.length), 0 ≤ π[i] ∧ π[i] < (H.length : Int)) (hpl : π.length ≤ 1000000) :
    Calls Tryz.prog 178 #[.agg #[.slice A H.length c], .slice Ap π.length cp] w fun e w' => e = .returned (.bool (sessB H π)) ∧ Below w.heap.size w w' := by
  obtain ⟨W0, hW0⟩ : ∃ W0, w.alloc (.cells #[.slice A H.length c] 24) = W0 := ⟨_, rfl⟩
  have hB := below_allocEq (Below.refl w.heap.size w) hW0 (Nat.le_refl _)
  have k0 := Blk.newEq hW0
  have hT := hide (h.below hB)
  have hI := hide (hP.below hB)
  have hyes := hide (sessB_yes (H := H) (π := π))
  have hno := hide (fun (i k : Nat) (hi : i < π.length) (hk : k < i) => sessB_no (H := H) hi hk)
  generalize sessB H π = r at *
  replace hb := hide hb
  clear h hP
  go_enter Tryz.func178, Tryz.ntmps178
  go_upto_region 1 with fail
  clear hW0
  go_wp2_with fail
  go_loopw [5] (fun s5 wr => ∃ i : Nat, i ≤ π.length ∧ s5 = .int .i64 i ∧ Hid (∀ i', i' < i → ∀ k, k < i' → backT H π i' k = false) ∧ Below W0.heap.size W0 wr) (fun s5 _ => π.length - (intOf s5).toNat)
  case atStart => exact ⟨0, Nat.zero_le _, by go_num, hide (fun i' hi => absurd hi (by omega)), Below.refl _ _⟩
  case round =>
    obtain ⟨Wo, rfl⟩ : ∃ Wo, Wo = wr := ⟨_, rfl⟩
    obtain ⟨i, hi, rfl, hall, hbi⟩ := hrel
    have hi1 : (0 : Int) ≤ (i : Int) := Int.natCast_nonneg _
    by_cases hlt : i < π.length
    · have hi2 : (i : Int) < (π.length : Int) := by omega
      go_wp2_with fail
      go_loopw [6] (fun s6 wq => ∃ k : Nat, k ≤ i ∧ s6 = .int .i64 k ∧ Hid (∀ k', k' < k → backT H π i k' = false) ∧ Below W0.heap.size W0 wq) (fun s6 _ => i - (intOf s6).toNat)
      case atStart => exact ⟨0, Nat.zero_le _, by go_num, hide (fun k' hk => absurd hk (by omega)), hbi⟩
      case round =>
        obtain ⟨Wp, rfl⟩ : ∃ Wp, Wp = wr := ⟨_, rfl⟩
        obtain ⟨k, hk, rfl, hall2, hbk⟩ := hrel
        have hk1 : (0 : Int) ≤ (k : Int) := Int.natCast_nonneg _
        by_cases hlk : k < i
        · have hk2 : (k : Int) < (i : Int) := by omega
          have hkp : k < π.length := by omega
          have hk3 : (k : Int) < (π.length : Int) := by omega
          have hII := hI.out.below hbk
          obtain ⟨bp, op, rfl, -, x0⟩ := hII.at_ hkp
          have x1 := (hII.cells hlt).2
          have hbk1 := hb.out k hkp
          have hbk2 := hb.out i hlt
          have hbt : backT H π i k = (decide (π[k] > π[i]) && decide ((txnAt H (π[k]).toNat).sess = (txnAt H (π[i]).toNat).sess)) := by unfold backT; rw [getD_at hkp, getD_at hlt]
          obtain ⟨m, hm⟩ : ∃ m : Nat, π[k] = (m : Int) := ⟨π[k].toNat, by omega⟩
          obtain ⟨n, hn⟩ : ∃ n : Nat, π[i] = (n : Int) := ⟨π[i].toNat, by omega⟩
          rw [hm] at hbk1 x0 hbt
          rw [hn] at hbk2 x1 hbt
          have hmH : m < H.length := by omega
          have hnH : n < H.length := by omega
          have hm2 : (m : Int) < (H.length : Int) := by omega
          have hn2 : (n : Int) < (H.length : Int) := by omega
          rw [Int.toNat_natCast, Int.toNat_natCast, txnAt_of hmH, txnAt_of hnH] at hbt
          have hTT := hT.out.below hbk
          obtain ⟨bt, ot, Aw, cw, Ar, cr, rfl, -, d0, -, -, -, -⟩ := TxnS.at_ hTT hmH
          obtain ⟨bt', ot', Aw', cw', Ar', cr', e', -, d1, -, -, -, -⟩ := TxnS.at_ hTT hnH
          injection e' with e'
          injection e' with e1 e2
          subst e1 e2
          have k1 := k0.below hbk k0.lt
          have c0 := k1.cell 0
          simp only [List.getElem?_toArray, List.getElem?_cons_zero, List.getElem?_cons_succ] at c0
          replace hm := hide hm
          replace hn := hide hn
          replace hbt := hide hbt
          have hnx := hide (fun (g : backT H π i k = false) => (fun k' (hk' : k' < k + 1) => (by
            by_cases e : k' = k
            · subst e; exact g
            · exact hall2.out k' (by omega) : backT H π i k' = false)))
          have hbd := hide (hno.out i k hlt hlk)
          have hbz := hide (fun (nq : Nat) => (hbk.trans ⟨rfl, rfl, rfl, Nat.le_refl _, fun _ _ => rfl⟩ : Below W0.heap.size W0 (Wp.drewN nq)))
          generalize H[m].sess = sm at *
          generalize H[n].sess = sn at *
          by_cases hgt : n < m
          · have hg1 : decide (n < m) = true := by simpa using hgt
            by_cases hse : sm = sn
            · subst hse
              have hr := hbd.out (by rw [hbt.out]; simp; omega)
              subst hr
              clear hbt hnx hbd
              go_wp2
              go_quiet (fail)
              go_wp2
              go_ret
              exact ⟨rfl, hB.trans ((hbz.out _).mono hB.size)⟩
            · have hs1 : (sm == sn) = false := by simpa using hse
              have hnx2 := hide (hnx.out (by rw [hbt.out]; simp [hse]))
              clear hse hbt hnx hbd
              go_wp2
              go_quiet (fail)
              go_wp2
              go_roundw
              case rel => exact ⟨k + 1, by omega, by go_num, hnx2, hbz.out _⟩
              case measure => simp [intOf]; omega
          · have hg1 : decide (n < m) = false := by simpa using hgt
            have hnx2 := hide (hnx.out (by rw [hbt.out, decide_eq_false (by omega)]; rfl))
            clear hbt hnx hbd hgt
            go_wp2
            go_quiet (fail)
            go_wp2
            go_roundw
            case rel => exact ⟨k + 1, by omega, by go_num, hnx2, hbz.out _⟩
            case measure => simp [intOf]; omega
        · obtain rfl : k = i := by omega
          have hnx2 : Hid (∀ i', i' < k + 1 → ∀ k', k' < i' → backT H π i' k' = false) := hide (fun i' hi' k' hk' => by
            by_cases e : i' = k
            · subst e; exact hall2.out k' hk'
            · exact hall.out i' (by omega) k' hk')
          clear hall hall2
          go_wp2
          go_roundw
          case rel => exact ⟨k + 1, by omega, by go_num, hnx2, hbk⟩
          case measure => simp [intOf]; omega
    · obtain rfl : i = π.length := by omega
      have hr := hyes.out hall.out
      subst hr
      clear hall
      go_wp2
      go_ret
      exact ⟨rfl, hB.trans (hbi.mono hB.size)⟩
end Go.Proofs.YtjomijnbnbideaaGreatDoor
