/-
  Walks: layer 9's reference: are two rows of choices the same?
-/
import Derived.Test.YtfhnamomiaekdaaProg
import Derived.Test.YtfhnamomiaekdaaRSiRowsWD
import Derived.Test.YtfhnamomiaekdaaRSiRowsWF
import Derived.Test.YtfhnamomiaekdaaRSiRowsWA
import Derived.Test.YtfhnamomiaekdaaRSiRowsWB
import Derived.Test.YtfhnamomiaekdaaR01
import Derived.Test.YtfhnamomiaekdaaRSiRowsWN
import Derived.Test.YtfhnamomiaekdaaRSiRowsWO
import Derived.Test.YtfhnamomiaekdaaRSiRowsWP
set_option linter.unusedVariables false
set_option linter.unusedSimpArgs false
namespace Go.Proofs.Ytfhnamomiaekdaa
open Go.RowKit Go.Inq
set_option maxHeartbeats 2000000
attribute [local go_sem ↓] Go.wp_at_zero Go.wp_at_succ

theorem rcho09_any (A1 A2 : Option Addr) (c1 c2 : Nat) (l m : List Cho) (K1 K2 : Nat → Prop) (w : World) (h1 : ChoS w K1 (.slice A1 l.length c1) l) (h2 : ChoS w K2 (.slice A2 m.length c2) m) (hl : l.length ≤ 1000000000) (hm : m.length ≤ 1000000000) :
    Calls Try.prog 12 #[.slice A1 l.length c1, .slice A2 m.length c2] w fun e w' => e = .returned (.bool (decide (l = m))) ∧ Below w.heap.size w w' := by
  by_cases hlen : l.length = m.length
  · have hne := hide (fun k (g1 : k < l.length) (g2 : k < m.length) => ne_take g1 g2)
    have hst := hide (fun k (g1 : k < l.length) (g2 : k < m.length) => eq_take g1 g2)
    have hend := hide (fun (e : l.take l.length = m.take l.length) => (by rw [List.take_length, hlen, List.take_length] at e; exact e : l = m))
    have hn1 : ((l.length : Int) != (m.length : Int)) = false := by rw [hlen]; exact bne_self_eq_false _
    have hle := hide hlen
    clear hlen
    replace h1 := hide h1
    replace h2 := hide h2
    go_enter Try.func12, Try.ntmps12
    go_wp2
    go_loopw [5] (fun s5 wr => ∃ k : Nat, k ≤ l.length ∧ s5 = .int .i64 k ∧ Hid (l.take k = m.take k) ∧ Below w.heap.size w wr) (fun s5 _ => l.length - (intOf s5).toNat)
    case atStart => exact ⟨0, Nat.zero_le _, by go_num, hide (by simp), Below.refl _ _⟩
    case round =>
      obtain ⟨k, hk, rfl, htk, hb⟩ := hrel
      have hk1 : (0 : Int) ≤ (k : Int) := Int.natCast_nonneg _
      by_cases hlt : k < l.length
      · have hi2 : (k : Int) < (l.length : Int) := by omega
        have g1 : k < m.length := by rw [← hle.out]; exact hlt
        have hi3 : (k : Int) < (m.length : Int) := by omega
        obtain ⟨b1, o1, rfl, _, x0, x1, x2⟩ := ChoS.at_ h1.out hlt
        obtain ⟨b2, o2, rfl, _, y0, y1, y2⟩ := ChoS.at_ h2.out g1
        replace x0 := (hb.cell (p := ⟨b1, o1 + k * 3, none⟩) (block_lt_of_cell x0)).trans x0
        replace x1 := (hb.cell (p := ⟨b1, o1 + k * 3 + 1, none⟩) (block_lt_of_cell x1)).trans x1
        replace x2 := (hb.cell (p := ⟨b1, o1 + k * 3 + 2, none⟩) (block_lt_of_cell x2)).trans x2
        replace y0 := (hb.cell (p := ⟨b2, o2 + k * 3, none⟩) (block_lt_of_cell y0)).trans y0
        replace y1 := (hb.cell (p := ⟨b2, o2 + k * 3 + 1, none⟩) (block_lt_of_cell y1)).trans y1
        replace y2 := (hb.cell (p := ⟨b2, o2 + k * 3 + 2, none⟩) (block_lt_of_cell y2)).trans y2
        have hn := hide (hne.out k hlt g1)
        have hs := hide (hst.out k hlt g1 htk.out)
        generalize l[k] = x at *
        generalize m[k] = y at *
        obtain ⟨xk, xa, xb⟩ := x
        obtain ⟨yk, ya, yb⟩ := y
        dsimp only at *
        by_cases q0 : xk = yk
        · have q0b : (xk == yk) = true := by simpa using q0
          by_cases q1 : xa = ya
          · have q1b : (xa == ya) = true := by simpa using q1
            by_cases q2 : xb = yb
            · have q2b : (xb == yb) = true := by simpa using q2
              have hr := hide (hs.out (by rw [q0, q1, q2]))
              clear hn hs q0 q1 q2
              go_wp2
              go_quiet (fail)
              go_wp2
              go_roundw
              case rel => exact ⟨k + 1, by omega, by go_num, hr, hb.trans ⟨rfl, rfl, rfl, Nat.le_refl _, fun _ _ => rfl⟩⟩
              case measure => simp [intOf]; omega
            · have q2b : (xb == yb) = false := by simpa using q2
              have hr2 : Hid (decide (l = m) = false) := hide (decide_eq_false (hn.out (fun e => q2 (by injection e))))
              clear hn hs q0 q1 q2
              go_wp2
              go_quiet (fail)
              go_wp2
              go_ret
              exact ⟨ret_bool hr2.out.symm, hb.trans ⟨rfl, rfl, rfl, Nat.le_refl _, fun _ _ => rfl⟩⟩

          · have q1b : (xa == ya) = false := by simpa using q1
            have hr2 : Hid (decide (l = m) = false) := hide (decide_eq_false (hn.out (fun e => q1 (by injection e))))
            clear hn hs q0 q1
            go_wp2
            go_quiet (fail)
            go_wp2
            go_ret
            exact ⟨ret_bool hr2.out.symm, hb.trans ⟨rfl, rfl, rfl, Nat.le_refl _, fun _ _ => rfl⟩⟩

        · have q0b : (xk == yk) = false := by simpa using q0
          have hr2 : Hid (decide (l = m) = false) := hide (decide_eq_false (hn.out (fun e => q0 (by injection e))))
          clear hn hs q0
          go_wp2
          go_quiet (fail)
          go_wp2
          go_ret
          exact ⟨ret_bool hr2.out.symm, hb.trans ⟨rfl, rfl, rfl, Nat.le_refl _, fun _ _ => rfl⟩⟩
      · obtain rfl : k = l.length := by omega
        have hr2 : Hid (decide (l = m) = true) := hide (decide_eq_true (hend.out htk.out))
        go_wp2
        go_ret
        exact ⟨ret_bool hr2.out.symm, hb⟩
  · have hn1 : ((l.length : Int) != (m.length : Int)) = true := bne_iff_ne.2 (by omega)
    have hr2 : Hid (decide (l = m) = false) := hide (decide_eq_false fun e => hlen (by rw [e]))
    clear hlen
    go_enter Try.func12, Try.ntmps12
    go_wp2
    go_ret
    exact ⟨ret_bool hr2.out.symm, Below.refl _ _⟩
end Go.Proofs.Ytfhnamomiaekdaa

namespace Go.Proofs.Ytfhnamomiaekdaa
open Go.RowKit Go.Inq
set_option maxHeartbeats 8000000
attribute [local go_sem ↓] Go.wp_at_zero Go.wp_at_succ

set_option maxRecDepth 100000 in
theorem rplace18_any (A : Option Addr) (c : Nat) (l : List Int) (x : Int) (K : Nat → Prop) (w : World) (h : IntS w K (.slice A l.length c) l) (hn : l.length ≤ 1000000000) :
    Calls Try.prog 32 #[.slice A l.length c, .int .i64 x] w fun e w' => e = .returned (.int .i64 (idxI l x)) ∧ w = w' := by
  replace h := hide h
  have hhit := hide (fun k (hk : k < l.length) => idxI_first (x := x) hk)
  have hmis := hide (idxI_miss (l := l) (x := x))
  generalize idxI l x = r at *
  go_enter Try.func32, Try.ntmps32
  go_wp2_with fail
  go_loop [5] (fun s5 => ∃ k : Nat, k ≤ l.length ∧ s5 = .int .i64 k ∧ Hid ((l.take k).contains x = false)) (fun s5 => l.length - (intOf s5).toNat)
  case atStart => exact ⟨0, Nat.zero_le _, by go_num, hide rfl⟩
  case round =>
    obtain ⟨k, hk, rfl, hc⟩ := hrel
    have hk1 : (0 : Int) ≤ (k : Int) := Int.natCast_nonneg _
    by_cases hlt : k < l.length
    · have hki : (k : Int) < (l.length : Int) := by omega
      obtain ⟨b, off, rfl, -, x1⟩ := h.out.at_ hlt
      have hst : Hid ((l.take (k + 1)).contains x = ((l.take k).contains x || l[k] == x)) := hide (by rw [take_snoc' hlt, List.contains_append]; congr 1; rw [List.contains_cons, List.contains_nil, Bool.or_false]; rw [Bool.eq_iff_iff, beq_iff_eq, beq_iff_eq]; exact eq_comm)
      have hin := hide (fun e => hhit.out k hlt hc.out e)
      generalize l[k] = y at *
      cases hy : (y == x) with
      | true =>
        have hr := hin.out (by simpa using hy)
        subst hr
        clear hin hst
        replace hc := hide hc
        replace hhit := hide hhit
        go_wp2
        go_ret
        exact ⟨rfl, rfl⟩
      | false =>
        have hr : Hid ((l.take (k + 1)).contains x = false) := hide (by rw [hst.out, hc.out, hy]; rfl)
        clear hin hst
        replace hc := hide hc
        go_wp2
        go_round
        case rel => exact ⟨k + 1, by omega, by go_num, hr⟩
        case measure => simp [intOf]; omega
    · obtain rfl : k = l.length := by omega
      have hr := hmis.out (by have := hc.out; rwa [List.take_length] at this)
      subst hr
      replace hc := hide hc
      go_wp2
      go_ret
      exact ⟨rfl, rfl⟩
set_option maxRecDepth 100000 in
theorem rperm18_any (A : Option Addr) (c : Nat) (l : List Int) (n : Nat) (K : Nat → Prop) (w : World) (h : IntS w K (.slice A l.length c) l) (hn : l.length ≤ 1000000000) :
    Calls Try.prog 14 #[.slice A l.length c, .int .i64 (n : Int)] w fun e w' => e = .returned (.bool (permB l n)) ∧ w = w' := by
  replace h := hide h
  by_cases hln : l.length = n
  · subst hln
    have hno : Hid (∀ i, i < l.length → l.contains (i : Int) = false → permB l l.length = false) := hide (fun i hi hc => by
      unfold permB
      rw [Bool.and_eq_false_iff]
      right
      rw [List.all_eq_false]
      exact ⟨i, List.mem_range.2 hi, by rw [hc]; decide⟩)
    have hyes : Hid ((∀ i, i < l.length → l.contains (i : Int) = true) → permB l l.length = true) := hide (fun g => by
      unfold permB
      rw [decide_eq_true rfl, Bool.true_and, List.all_eq_true]
      exact fun i hi => g i (List.mem_range.1 hi))
    generalize permB l l.length = r at *
    go_enter Try.func14, Try.ntmps14
    go_wp2_with fail
    go_loop [5] (fun s5 => ∃ k : Nat, k ≤ l.length ∧ s5 = .int .i64 k ∧ Hid (∀ i, i < k → l.contains (i : Int) = true)) (fun s5 => l.length - (intOf s5).toNat)
    case atStart => exact ⟨0, Nat.zero_le _, by go_num, hide (fun i hi => absurd hi (by omega))⟩
    case round =>
      obtain ⟨k, hk, rfl, hall⟩ := hrel
      have hk1 : (0 : Int) ≤ (k : Int) := Int.natCast_nonneg _
      by_cases hlt : k < l.length
      · have hki : (k : Int) < (l.length : Int) := by omega
        have hcall := hide (rplace18_any A c l (k : Int) K w h.out hn)
        have hneg := hide (idxI_neg (l := l) (x := (k : Int)))
        have hst := hide (fun (g : l.contains (k : Int) = true) => (fun i (hi : i < k + 1) => (by
          by_cases e : i = k
          · subst e; exact g
          · exact hall.out i (by omega) : l.contains (i : Int) = true)))
        have hno2 := hide (hno.out k hlt)
        generalize idxI l (k : Int) = q at *
        go_wp2_with fail
        refine hcall.out.mono ?_
        rintro e w1 ⟨rfl, rfl⟩
        by_cases hq : q < 0
        · have hr := hno2.out (hneg.out.1 hq)
          have hqb : decide (q < 0) = true := by simpa using hq
          subst hr
          clear hneg hst hno2 hq
          replace hall := hide hall
          go_wp2
          go_ret
          exact ⟨rfl, rfl⟩
        · have hqb : decide (q < 0) = false := by simpa using hq
          have hr := hide (hst.out (by
            cases e : l.contains (k : Int) with
            | true => rfl
            | false => exact absurd (hneg.out.2 e) hq))
          clear hneg hst hno2 hq hall
          go_wp2
          go_round
          case rel => exact ⟨k + 1, by omega, by go_num, hr⟩
          case measure => simp [intOf]; omega
      · obtain rfl : k = l.length := by omega
        have hr := hyes.out hall.out
        subst hr
        replace hall := hide hall
        go_wp2
        go_ret
        exact ⟨rfl, rfl⟩
  · have hne : ((l.length : Int) != (n : Int)) = true := by simp; omega
    have hr : permB l n = false := by unfold permB; rw [decide_eq_false hln]; rfl
    rw [hr]
    clear hln hr
    go_enter Try.func14, Try.ntmps14
    go_wp2
    go_ret
    exact ⟨rfl, rfl⟩
end Go.Proofs.Ytfhnamomiaekdaa

namespace Go.Proofs.Ytfhnamomiaekdaa
open Go.RowKit Go.Inq
set_option maxHeartbeats 8000000
attribute [local go_sem ↓] Go.wp_at_zero Go.wp_at_succ

/-- Do two stand the wrong way round? -/
def backT (H : List Txn) (π : List Int) (i k : Nat) : Bool := decide (π.getD k 0 > π.getD i 0) && decide ((txnAt H (π.getD k 0).toNat).sess = (txnAt H (π.getD i 0).toNat).sess)
theorem sessB_no {H : List Txn} {π : List Int} {i k : Nat} (hi : i < π.length) (hk : k < i) (h : backT H π i k = true) : sessB H π = false := by
  unfold sessB
  rw [List.all_eq_false]
  refine ⟨i, List.mem_range.2 hi, ?_⟩
  rw [Bool.not_eq_true, List.all_eq_false]
  refine ⟨k, List.mem_range.2 hk, ?_⟩
  unfold backT at h
  rw [h]
  decide
theorem sessB_yes {H : List Txn} {π : List Int} (h : ∀ i, i < π.length → ∀ k, k < i → backT H π i k = false) : sessB H π = true := by
  unfold sessB
  rw [List.all_eq_true]
  intro i hi
  rw [List.all_eq_true]
  intro k hk
  have := h i (List.mem_range.1 hi) k (List.mem_range.1 hk)
  unfold backT at this
  rw [this]
  rfl
set_option maxRecDepth 100000 in
theorem rsess20_any (A : Option Addr) (c : Nat) (H : List Txn) (Ap : Option Addr) (cp : Nat) (π : List Int) (w : World) (h : TxnS w (Old w) (.slice A H.length c) H) (hP : IntS w (Old w) (.slice Ap π.length cp) π) (hb : ∀ i (hi : i < π.length), 0 ≤ π[i] ∧ π[i] < (H.length : Int)) (hpl : π.length ≤ 1000000) :
    Calls Try.prog 15 #[.agg #[.slice A H.length c], .slice Ap π.length cp] w fun e w' => e = .returned (.bool (sessB H π)) ∧ Below w.heap.size w w' := by
  obtain ⟨W0, hW0⟩ : ∃ W0, w.alloc (.cells #[.slice A H.length c] 24) = W0 := ⟨_, rfl⟩
  have hB := below_allocEq (Below.refl w.heap.size w) hW0 (Nat.le_refl _)
  have k0 := Blk.newEq hW0
  have hT := hide (h.below hB)
  have hI := hide (hP.below hB)
  have hyes := hide (sessB_yes (H := H) (π := π))
  have hno := hide (fun (i k : Nat) (hi : i < π.length) (hk : k < i) => sessB_no (H := H) hi hk)
  generalize sessB H π = r at *
  replace hb := hide hb
  clear h hP
  go_enter Try.func15, Try.ntmps15
  go_upto_region 1 with fail
  clear hW0
  go_wp2_with fail
  go_loopw [5] (fun s5 wr => ∃ i : Nat, i ≤ π.length ∧ s5 = .int .i64 i ∧ Hid (∀ i', i' < i → ∀ k, k < i' → backT H π i' k = false) ∧ Below W0.heap.size W0 wr) (fun s5 _ => π.length - (intOf s5).toNat)
  case atStart => exact ⟨0, Nat.zero_le _, by go_num, hide (fun i' hi => absurd hi (by omega)), Below.refl _ _⟩
  case round =>
    obtain ⟨Wo, rfl⟩ : ∃ Wo, Wo = wr := ⟨_, rfl⟩
    obtain ⟨i, hi, rfl, hall, hbi⟩ := hrel
    have hi1 : (0 : Int) ≤ (i : Int) := Int.natCast_nonneg _
    by_cases hlt : i < π.length
    · have hi2 : (i : Int) < (π.length : Int) := by omega
      go_wp2_with fail
      go_loopw [6] (fun s6 wq => ∃ k : Nat, k ≤ i ∧ s6 = .int .i64 k ∧ Hid (∀ k', k' < k → backT H π i k' = false) ∧ Below W0.heap.size W0 wq) (fun s6 _ => i - (intOf s6).toNat)
      case atStart => exact ⟨0, Nat.zero_le _, by go_num, hide (fun k' hk => absurd hk (by omega)), hbi⟩
      case round =>
        obtain ⟨Wp, rfl⟩ : ∃ Wp, Wp = wr := ⟨_, rfl⟩
        obtain ⟨k, hk, rfl, hall2, hbk⟩ := hrel
        have hk1 : (0 : Int) ≤ (k : Int) := Int.natCast_nonneg _
        by_cases hlk : k < i
        · have hk2 : (k : Int) < (i : Int) := by omega
          have hkp : k < π.length := by omega
          have hk3 : (k : Int) < (π.length : Int) := by omega
          have hII := hI.out.below hbk
          obtain ⟨bp, op, rfl, -, x0⟩ := hII.at_ hkp
          have x1 := (hII.cells hlt).2
          have hbk1 := hb.out k hkp
          have hbk2 := hb.out i hlt
          have hbt : backT H π i k = (decide (π[k] > π[i]) && decide ((txnAt H (π[k]).toNat).sess = (txnAt H (π[i]).toNat).sess)) := by unfold backT; rw [getD_at hkp, getD_at hlt]
          obtain ⟨m, hm⟩ : ∃ m : Nat, π[k] = (m : Int) := ⟨π[k].toNat, by omega⟩
          obtain ⟨n, hn⟩ : ∃ n : Nat, π[i] = (n : Int) := ⟨π[i].toNat, by omega⟩
          rw [hm] at hbk1 x0 hbt
          rw [hn] at hbk2 x1 hbt
          have hmH : m < H.length := by omega
          have hnH : n < H.length := by omega
          have hm2 : (m : Int) < (H.length : Int) := by omega
          have hn2 : (n : Int) < (H.length : Int) := by omega
          rw [Int.toNat_natCast, Int.toNat_natCast, txnAt_of hmH, txnAt_of hnH] at hbt
          have hTT := hT.out.below hbk
          obtain ⟨bt, ot, Aw, cw, Ar, cr, rfl, -, d0, -, -, -, -⟩ := TxnS.at_ hTT hmH
          obtain ⟨bt', ot', Aw', cw', Ar', cr', e', -, d1, -, -, -, -⟩ := TxnS.at_ hTT hnH
          injection e' with e'
          injection e' with e1 e2
          subst e1 e2
          have k1 := k0.below hbk k0.lt
          have c0 := k1.cell 0
          simp only [List.getElem?_toArray, List.getElem?_cons_zero, List.getElem?_cons_succ] at c0
          replace hm := hide hm
          replace hn := hide hn
          replace hbt := hide hbt
          have hnx := hide (fun (g : backT H π i k = false) => (fun k' (hk' : k' < k + 1) => (by
            by_cases e : k' = k
            · subst e; exact g
            · exact hall2.out k' (by omega) : backT H π i k' = false)))
          have hbd := hide (hno.out i k hlt hlk)
          have hbz := hide (fun (nq : Nat) => (hbk.trans ⟨rfl, rfl, rfl, Nat.le_refl _, fun _ _ => rfl⟩ : Below W0.heap.size W0 (Wp.drewN nq)))
          generalize H[m].sess = sm at *
          generalize H[n].sess = sn at *
          by_cases hgt : n < m
          · have hg1 : decide (n < m) = true := by simpa using hgt
            by_cases hse : sm = sn
            · subst hse
              have hr := hbd.out (by rw [hbt.out]; simp; omega)
              subst hr
              clear hbt hnx hbd
              go_wp2
              go_quiet (fail)
              go_wp2
              go_ret
              exact ⟨rfl, hB.trans ((hbz.out _).mono hB.size)⟩
            · have hs1 : (sm == sn) = false := by simpa using hse
              have hnx2 := hide (hnx.out (by rw [hbt.out]; simp [hse]))
              clear hse hbt hnx hbd
              go_wp2
              go_quiet (fail)
              go_wp2
              go_roundw
              case rel => exact ⟨k + 1, by omega, by go_num, hnx2, hbz.out _⟩
              case measure => simp [intOf]; omega
          · have hg1 : decide (n < m) = false := by simpa using hgt
            have hnx2 := hide (hnx.out (by rw [hbt.out, decide_eq_false (by omega)]; rfl))
            clear hbt hnx hbd hgt
            go_wp2
            go_quiet (fail)
            go_wp2
            go_roundw
            case rel => exact ⟨k + 1, by omega, by go_num, hnx2, hbz.out _⟩
            case measure => simp [intOf]; omega
        · obtain rfl : k = i := by omega
          have hnx2 : Hid (∀ i', i' < k + 1 → ∀ k', k' < i' → backT H π i' k' = false) := hide (fun i' hi' k' hk' => by
            by_cases e : i' = k
            · subst e; exact hall2.out k' hk'
            · exact hall.out i' (by omega) k' hk')
          clear hall hall2
          go_wp2
          go_roundw
          case rel => exact ⟨k + 1, by omega, by go_num, hnx2, hbk⟩
          case measure => simp [intOf]; omega
    · obtain rfl : i = π.length := by omega
      have hr := hyes.out hall.out
      subst hr
      clear hall
      go_wp2
      go_ret
      exact ⟨rfl, hB.trans (hbi.mono hB.size)⟩
end Go.Proofs.Ytfhnamomiaekdaa

namespace Go.Proofs.Ytfhnamomiaekdaa
open Go.RowKit Go.Inq
set_option maxHeartbeats 8000000
attribute [local go_sem ↓] Go.wp_at_zero Go.wp_at_succ

theorem infoXn : (Try.prog.info? 38).map (fun i => (i.zero, i.size, i.bytes)) = some (some (.agg #[.int .i64 0, .slice none 0 0, .slice none 0 0]), 3, 56) := by kernel_rfl
theorem bare_small {H : List Txn} (h : SmallH H) : SmallH (bareH H) := by
  refine ⟨by rw [bareH_len]; exact h.1, fun t ht => ?_⟩
  obtain ⟨u, hu, rfl⟩ := List.mem_map.1 ht
  exact ⟨(h.2 u hu).1, Nat.zero_le _⟩
theorem cho_rows (H : List Txn) (π : List Int) : choS H (rowsL H π) = ofB H π := by
  unfold ofB rightB
  cases h1 : rightH H with
  | false =>
    rw [if_neg (by simp)]
    unfold choS
    rw [rightS_no h1]
    rfl
  | true =>
    cases h2 : permB π H.length with
    | true => rw [if_pos (by rfl)]; exact choS_rows h1 h2
    | false =>
      rw [if_neg (by simp), rowsL_no (.inr h2)]
      unfold choS
      split <;> simp
theorem ofB_len (H : List Txn) (π : List Int) : (ofB H π).length ≤ 16384 := by
  unfold ofB rightB
  split
  · next h =>
    rw [Bool.and_eq_true] at h
    unfold ofL
    rw [List.length_map]
    exact pairsL_len h.1
  · simp
set_option maxRecDepth 100000 in
theorem siRows_any (A : Option Addr) (c : Nat) (H : List Txn) (Ap : Option Addr) (cp : Nat) (π : List Int) (w : World) (h : TxnS w (Old w) (.slice A H.length c) H) (hn : H.length ≤ maxLen) (hns : ∀ t ∈ H, t.writes.length ≤ maxLen ∧ t.reads.length ≤ maxLen) (hπ : IntS w (Old w) (.slice Ap π.length cp) π) (hpl : π.length ≤ maxLen) :
    Calls Try.prog 4 #[.agg #[.slice A H.length c], .slice Ap π.length cp] w fun e w' => e = .returned (.bool true) ∧ Below w.heap.size w w' := by
  have hA : Below w.heap.size w (w.alloc (.cells #[.slice A H.length c] 24)) := (Below.refl _ _).alloc (Nat.le_refl _) _
  have hT0 := h.below hA
  have hP0 := hπ.below hA
  have kh : Blk (w.alloc (.cells #[.slice A H.length c] 24)) w.heap.size 24 #[.slice A H.length c] := Blk.new _ _ _
  replace hn := hide hn
  replace hns := hide hns
  replace h := hide h
  replace hπ := hide hπ
  replace hpl := hide hpl
  obtain ⟨ix, hix, hix1, hix2, hix3⟩ := info_parts infoXn
  go_enter Try.func4, Try.ntmps4
  go_wp2_with fail
  generalize w.alloc (.cells #[.slice A H.length c] 24) = W0 at *
  refine (awake21_any W0).mono ?_
  rintro e w1 ⟨rfl, hb1⟩
  have hb := hA.trans (hb1.mono hA.size)
  have hT1 := hT0.below hb1
  have hP1 := hP0.below hb1
  replace kh := kh.below hb1 kh.lt
  have c0 := kh.cell 0
  simp only [List.getElem?_toArray, List.getElem?_cons_zero] at c0
  clear hT0 hP0 hA hb1
  go_wp2_with fail
  refine (few8n_any 30 A c H w1 hT1 hn.out hns.out).mono ?_
  rintro e w2 ⟨rfl, hb2⟩
  replace hb := hb.trans (hb2.mono hb.size)
  have hT2 := hide (hT1.below hb2)
  have hP2 := hide (hP1.below hb2)
  replace kh := kh.below hb2 kh.lt
  clear hT1 hP1 hb2 c0 hn hns
  cases hf : fewN 30 H with
  | false =>
    go_wp2
    go_ret
    exact ⟨rfl, hb⟩
  | true =>
    have hsm := hide (fewN_small (by decide) hf)
    have hsm40 : Hid (H.length ≤ 40) := hide (by unfold fewN at hf; rw [Bool.and_eq_true] at hf; have := of_decide_eq_true hf.1; omega)
    clear hf
    by_cases hlp : 40 < π.length
    · have hq : decide ((π.length : Int) > 40) = true := decide_eq_true (by omega)
      have hq2 : decide (40 < π.length) = true := decide_eq_true hlp
      clear hlp
      go_wp2
      go_ret
      exact ⟨rfl, hb⟩
    · have hq : decide ((π.length : Int) > 40) = false := decide_eq_false (by omega)
      have hq2 : decide (40 < π.length) = false := decide_eq_false hlp
      have hp4 : π.length ≤ 1000000 := by omega
      have hfr := hide (fitS_rows (H := H) hp4)
      have hor := hide (rowsL_or H π)
      clear hlp
      have c0 := kh.cell 0
      simp only [List.getElem?_toArray, List.getElem?_cons_zero] at c0
      go_wp2_with fail
      clear hq hq2
      have hwr := hide (h.out)
      refine (rowsS_any A c H Ap cp π w2 hT2.out hsm.out hP2.out hp4).mono ?_
      rintro e w3 ⟨vr, rfl, hR, hb3⟩
      have hce := hide (cho_rows H π)
      obtain ⟨R, hRe⟩ : ∃ R, rowsL H π = R := ⟨_, rfl⟩
      rw [hRe] at hR hfr hor hce
      replace hRe := hide hRe
      obtain ⟨Ar, cr, rfl⟩ := hR.form
      have hRS := hR.old
      have hT3 := hT2.out.below hb3
      have hP3 := hP2.out.below hb3
      have hb4 := hb.trans (hb3.mono hb.size)
      replace kh := kh.below hb3 kh.lt
      have c0 := kh.cell 0
      simp only [List.getElem?_toArray, List.getElem?_cons_zero] at c0
      clear hR hb3 hb hT2 hP2
      go_wp2_with fail
      refine (of18_any A c H Ap cp π w3 hT3 hsm.out hP3 hp4).mono ?_
      rintro e w5 ⟨vo, rfl, hO, hb5⟩
      have hOl := hide (ofB_len H π)
      obtain ⟨L, hLe⟩ : ∃ L, ofB H π = L := ⟨_, rfl⟩
      rw [hLe] at hO hce hOl
      replace hLe := hide hLe
      obtain ⟨Ao, co, rfl⟩ := hO.form
      have hOS := hO.sl (K := Old w5) (fun g _ h2 => h2)
      have hT5 := hT3.below hb5
      have hP5 := hP3.below hb5
      have hR5 := hRS.below hb5
      have hb6 := hb4.trans (hb5.mono hb4.size)
      replace kh := kh.below hb5 kh.lt
      have c0 := kh.cell 0
      simp only [List.getElem?_toArray, List.getElem?_cons_zero] at c0
      clear hO hb5 hb4 hT3 hP3 hRS
      go_wp2_with fail
      clear c0
      refine (choS_any A c H Ar cr R w5 hT5 hsm.out hR5 hfr.out).mono ?_
      rintro e w7 ⟨vc, rfl, hC, hb7⟩
      rw [hce.out] at hC
      obtain ⟨Ac, cc, rfl⟩ := hC.form
      have hCS := hC.sl (K := Old w7) (fun g _ h2 => h2)
      have hO7 : ChoS w7 (Old w7) _ L := SlR.below (Flat.stab _) hOS hb7
      have hT7 := hT5.below hb7
      have hP7 := hP5.below hb7
      have hb8 := hb6.trans (hb7.mono hb6.size)
      replace kh := kh.below hb7 kh.lt
      clear hC hOS hT5 hP5 hR5 hb6 hb7
      go_wp2_with fail
      refine (rcho09_any Ac Ao cc co L L _ _ w7 hCS hO7 (by have := hOl.out; omega) (by have := hOl.out; omega)).mono ?_
      rintro e w9 ⟨rfl, hb9⟩
      rw [decide_eq_true (rfl : L = L)]
      have hT9 := hT7.below hb9
      have hP9 := hP7.below hb9
      have hb10 := hb8.trans (hb9.mono hb8.size)
      replace kh := kh.below hb9 kh.lt
      clear hCS hO7 hT7 hP7 hb8 hb9
      go_upto_region 12 with fail
      obtain ⟨Wb, hWb⟩ : ∃ Wb, w9.alloc (.cells #[.slice none 0 0] 24) = Wb := ⟨_, rfl⟩
      rw [hWb]
      have hBb := below_allocEq (Below.refl w9.heap.size w9) hWb (Nat.le_refl _)
      have kv := Blk.newEq hWb
      have hsb := size_allocEq hWb
      have khb := kh.below hBb kh.lt
      have hb11 := hb10.trans (hBb.mono hb10.size)
      have hag : Agree (fun b => b < w9.heap.size) w9 Wb := Agree.below hBb fun b h => h
      have hvl := kh.lt
      have hT9' := hide hT9
      have hw9 := hb10.size
      clear hWb hBb hb10 kh
      have hrow := hide (fun k (hk : k < H.length) => (by
        unfold bareH
        rw [← List.map_take, List.take_succ_eq_append_getElem hk, List.map_append, List.map_take]; rfl : (bareH H).take (k + 1) = (bareH H).take k ++ [{ H[k] with reads := [] }]))
      have hbl := hide (bareH_len H)
      have hl40 : H.length ≤ 40 := by have := hsm40.out; exact this
      go_wp2_with fail
      go_loopw [10] (fun s10 wr => ∃ (k : Nat) (v : Value), k ≤ H.length ∧ s10 = .int .i64 k ∧ Blk wr w9.heap.size 24 #[v] ∧ OwnR 3 TxnR wr (fun b => b < wr.heap.size ∧ b ≠ w9.heap.size ∧ v.ownBlock ≠ some b) (w9.heap.size + 1) 38 v ((bareH H).take k) ∧ Below w.heap.size w wr ∧ Blk wr w.heap.size 24 #[.slice A H.length c] ∧ Agree (fun b => b < w9.heap.size) w9 wr ∧ w9.heap.size + 1 ≤ wr.heap.size) (fun s10 _ => H.length - (intOf s10).toNat)
      case atStart => exact ⟨0, _, Nat.zero_le _, by go_num, kv, OwnR.nil _ _ _ _ _ _, hb11, khb, hag, by omega⟩
      case round =>
        clear kv khb hb11 hag
        obtain ⟨k, v, hk, rfl, kv, hO, hb, kh, hag, hsz⟩ := hrel
        have hk1 : (0 : Int) ≤ (k : Int) := Int.natCast_nonneg _
        have c0 := kh.cell 0
        have v0 := kv.cell 0
        have vf := kv.frozen 0
        simp only [List.getElem?_toArray, List.getElem?_cons_zero] at c0 v0
        by_cases hlt : k < H.length
        · have hi2 : (k : Int) < (H.length : Int) := by omega
          obtain ⟨b, off, Aw, cw, Art, crt, rfl, hbK, d0', d1', d2', hws, _⟩ := TxnS.at_ hT9'.out hlt
          have d0 := (hag.cell (p := ⟨b, off + k * 3, none⟩) hbK).trans d0'
          have d1 := (hag.cell (p := ⟨b, off + k * 3 + 1, none⟩) hbK).trans d1'
          clear d0' d1' d2'
          have hst := hide (hrow.out k hlt)
          have hln : ((bareH H).take k).length ≤ 40 := by rw [List.length_take]; omega
          obtain ⟨Av, cv, rfl⟩ := hO.form
          generalize H[k] = tx at *
          obtain ⟨ts, tw, tr⟩ := tx
          dsimp only at *
          generalize (bareH H).take k = M at *
          replace hO := hide hO
          replace hws := hide hws
          go_wp2_with fail
          refine wp_region_plan [0, 1, 2, 3, 4, 5, 6, 7, 8, 9, 10, 11, 12, 13, 14] [15, 16, 17, 18] (by kernel_rfl) (by kernel_rfl) (fun _ _ d _ _ h => by cases d <;> exact h) ?_
          simp only [List.filterMap_cons, List.filterMap_nil, List.getElem?_cons_zero, List.getElem?_cons_succ]
          repeat still_step
          refine wpStill_nil ?_
          refine wpList_plain rfl (fun K hK => ?_)
          go_simp
          refine hK _ _ ?_
          clear hK K
          have hOd : OwnR 3 TxnR wr.drew (fun b => b < wr.heap.size ∧ b ≠ w9.heap.size ∧ (Value.slice Av M.length cv).ownBlock ≠ some b) (w9.heap.size + 1) 38 (.slice Av M.length cv) M := hO.out
          have hvlt := hide (fun g hg => (hOd.lt g hg))
          obtain ⟨W2, hW2⟩ : ∃ W2, wr.drew.alloc (.cells #[.int .i64 ts, .slice Aw tw.length cw, .slice none 0 0] 38) = W2 := ⟨_, rfl⟩
          have kN := Blk.newEq hW2
          have hB2 := below_allocEq (Below.refl wr.drew.heap.size wr.drew) hW2 (Nat.le_refl _)
          have hs2 : W2.heap.size = wr.heap.size + 1 := (size_allocEq hW2 :)
          change wpList _ _ _ _ _ (wr.drew.alloc (.cells #[.int .i64 ts, .slice Aw tw.length cw, .slice none 0 0] 38))
          rw [hW2]
          have hB2w : Below wr.heap.size wr W2 := ((⟨rfl, rfl, rfl, Nat.le_refl _, fun _ _ => rfl⟩ : Below wr.heap.size wr wr.drew).trans hB2)
          have hag2 : Agree (fun b => b < w9.heap.size) w9 W2 := hag.trans (Agree.below hB2w fun b hb => by have : b < w9.heap.size := hb; omega)
          have hO2 : OwnR 3 TxnR W2 (fun b => b < W2.heap.size ∧ b ≠ w9.heap.size ∧ (Value.slice Av M.length cv).ownBlock ≠ some b) (w9.heap.size + 1) 38 (.slice Av M.length cv) M :=
            OwnR.keep TxnR.stab hOd (Agree.below hB2 fun b hb => hb.1) (fun b hb => ⟨by have := hb.1; omega, hb.2⟩) fun g hg => hB2.block g (hvlt.out g hg).2
          have hws2 : IntS W2 (fun b => b < W2.heap.size ∧ b ≠ w9.heap.size ∧ (Value.slice Av M.length cv).ownBlock ≠ some b) (.slice Aw tw.length cw) tw := IntS.keep hws.out hag2 (fun b hb => ⟨by have : b < w9.heap.size := hb; omega, by have : b < w9.heap.size := hb; omega, fun e => by have := (hvlt.out b e).1; have : b < w9.heap.size := hb; omega⟩)
          have hsrc : SlR 3 TxnR W2 (fun b => b < W2.heap.size ∧ b ≠ w9.heap.size ∧ (Value.slice Av M.length cv).ownBlock ≠ some b) (.slice (some ⟨wr.heap.size, 0, none⟩) 1 1) [(⟨ts, tw, []⟩ : Txn)] :=
            SlR.one kN rfl ⟨_, _, rfl, hws2, SlR.nil _ _ _ _ _ _⟩ ⟨by show wr.heap.size < _; omega, by show wr.heap.size ≠ _; omega, fun e => by have : wr.heap.size < wr.heap.size := (hvlt.out _ e).2; omega⟩
          have hbd2 : Below w.heap.size w W2 := (hb.trans ⟨rfl, rfl, rfl, Nat.le_refl _, fun _ _ => rfl⟩ : Below w.heap.size w wr.drew).trans (hB2.mono hb.size)
          have kv2 : Blk W2 w9.heap.size 24 #[.slice Av M.length cv] := Blk.below kv hB2w (by show w9.heap.size < wr.heap.size; omega)
          have kh2 : Blk W2 w.heap.size 24 #[.slice (some ⟨b, off, none⟩) H.length c] := Blk.below kh hB2w (by show w.heap.size < wr.heap.size; omega)
          clear hW2 hOd hB2 hB2w hO hag hb kv kh kN hws hws2 c0 v0 vf d0 d1
          refine wpList_append_list (R := TxnR) rfl (.tmp 46) (.tmp 60) 22 rfl (w9.heap.size + 1) 38 ix _ 3 56 Try.underlying22 hix hix1 hix2 hix3 rfl (by decide) (.slice Av M.length cv) _ M rfl hO2 _ [(⟨ts, tw, []⟩ : Txn)] rfl hsrc (fun cs x h => TxnR.one h) (by simp [maxLen]; omega) (by simp; omega) (by omega) (fun w' hg cs x hx => TxnR.stab _ _ _ _ _ _ hx (Agree.grown hg (fun b hb => ⟨hb.1, fun e => hb.2.2 e.symm⟩)) (fun _ h => h)) ?_
          intro v7 W7 hO7 hg7 hat7
          have hne : some w9.heap.size ≠ (Value.slice Av M.length cv).ownBlock := fun e => by have := (hvlt.out _ e.symm).1; omega
          have kv7 := kv2.grown hg7 hne
          have kh7 := kh2.grown hg7 (fun e => by have := (hvlt.out _ e.symm).1; omega)
          have v7c := kv7.cell 0
          have v7f := kv7.frozen 0
          simp only [List.getElem?_toArray, List.getElem?_cons_zero] at v7c
          have hs7 := hg7.size
          have hlt7 : ∀ g, v7.ownBlock = some g → w9.heap.size + 1 ≤ g ∧ g < W7.heap.size := fun g hg => hO7.lt g hg
          have kv9 := kv7.set_ 0 v7
          simp only [List.setIfInBounds_toArray, List.set_cons_zero] at kv9
          have kh9 := kh7.far (p := ⟨w9.heap.size, 0, none⟩) (show w.heap.size ≠ w9.heap.size by omega) v7
          have hb9 := (hbd2.grown hg7 hbd2.size (fun j e => by have := (hvlt.out j e).1; omega)).setCell (p := ⟨w9.heap.size, 0, none⟩) (show w.heap.size ≤ w9.heap.size by omega) v7
          have hag9 : Agree (fun b => b < w9.heap.size) w9 (W7.setCell ⟨w9.heap.size, 0, none⟩ v7) := (hag2.trans (Agree.grown hg7 fun b hb => ⟨by have : b < w9.heap.size := hb; omega, fun e => by have := (hvlt.out b e.symm).1; have : b < w9.heap.size := hb; omega⟩)).trans (Agree.setCell (K := fun b => b < w9.heap.size) ⟨w9.heap.size, 0, none⟩ (fun h => Nat.lt_irrefl _ h) v7)
          have hO9 : OwnR 3 TxnR (W7.setCell ⟨w9.heap.size, 0, none⟩ v7) (fun b => b < (W7.setCell ⟨w9.heap.size, 0, none⟩ v7).heap.size ∧ b ≠ w9.heap.size ∧ v7.ownBlock ≠ some b) (w9.heap.size + 1) 38 v7 (M ++ [(⟨ts, tw, []⟩ : Txn)]) := by
            have h1 : OwnR 3 TxnR W7 (fun b => b < W7.heap.size ∧ b ≠ w9.heap.size ∧ v7.ownBlock ≠ some b) (w9.heap.size + 1) 38 v7 (M ++ [(⟨ts, tw, []⟩ : Txn)]) := OwnR.keep TxnR.stab hO7 (Agree.refl _ _) (fun b hb => ⟨by have := hb.1; omega, hb.2.1, fun e => by
              rcases hat7 with e' | e'
              · exact hb.2.2 (e' ▸ e)
              · rw [e'] at e; injection e with e; have := hb.1; omega⟩) fun _ _ => rfl
            refine OwnR.keep TxnR.stab h1 (Agree.setCell ⟨w9.heap.size, 0, none⟩ (fun hb => hb.2.1 rfl) v7) (fun b hb => ⟨by have := hb.1; simpa using this, hb.2⟩) fun g hg => Below.heap_setCell W7 ⟨w9.heap.size, 0, none⟩ v7 g (fun e => by have := (hlt7 g hg).1; have : g = w9.heap.size := e; omega)
          rw [← hst.out] at hO9
          clear hO7 hO2 hsrc hg7 hat7 hag2 hbd2 kv2 kh2 kv7 kh7 hlt7 hvlt hne
          obtain ⟨A7, c7, rfl⟩ := hO9.form
          have hsz9 : w9.heap.size + 1 ≤ (W7.setCell ⟨w9.heap.size, 0, none⟩ (.slice A7 ((bareH H).take (k + 1)).length c7)).heap.size := by simp; omega
          generalize hq9 : (bareH H).take (k + 1) = M9 at *
          replace hq9 := hide hq9
          replace hO9 := hide hO9
          go_wp2
          go_roundw
          case rel => exact ⟨k + 1, _, by omega, by go_num, kv9, by rw [hq9.out]; exact hO9.out, hb9, kh9, hag9, hsz9⟩
          case measure => simp [intOf]; omega
        · obtain rfl : k = H.length := by omega
          rw [List.take_of_length_le (by rw [hbl.out]; exact Nat.le_refl _)] at hO
          obtain ⟨Av, cv, rfl⟩ := hO.form
          have hBT : TxnS wr (Old wr) (.slice Av (bareH H).length cv) (bareH H) := (OwnR.keep TxnR.stab hO (Agree.refl _ _) (fun b hb => hb.1) fun _ _ => rfl : OwnR 3 TxnR wr (Old wr) _ _ _ _).sl fun g hg => (hO.lt g hg).2
          have hPw : IntS wr (Old wr) (.slice Ap π.length cp) π := IntS.keep hP9 hag (fun b hb => by have : b < w9.heap.size := hb; show b < wr.heap.size; omega)
          have hbs := hide (bare_small hsm.out)
          have hbor := hide (rowsL_or (bareH H) π)
          have hbfit := hide (fitS_rows (H := bareH H) hp4)
          have hpb := hide (fun (e : permB π H.length = true) i (hi : i < π.length) => perm_bd e hi)
          have hfin := hide (fun (e1 : rightS (bareH H) (rowsL (bareH H) π) = true) (e2 : permB π H.length = true) (e3 : sessB (bareH H) π = true) => ser_si ((okS_iff _ _).1 e1).right (bare_check e2 e3))
          have hb40 : (bareH H).length ≤ 40 := by rw [bareH_len]; omega
          generalize bareH H = B at *
          clear hO hag hT9' hT9 hP9 hrow
          go_wp2_with fail
          clear c0 v0 vf
          refine (rowsS_any Av cv B Ap cp π wr hBT hbs.out hPw hp4).mono ?_
          rintro e x1 ⟨vm, rfl, hM, hx1⟩
          obtain ⟨Q, hQe⟩ : ∃ Q, rowsL B π = Q := ⟨_, rfl⟩
          rw [hQe] at hM hbor hbfit hfin
          replace hQe := hide hQe
          obtain ⟨Am, cm, rfl⟩ := hM.form
          have hMS := hM.old
          have hBT1 := hBT.below hx1
          have hP1 := hPw.below hx1
          have hb1 := hb.trans (hx1.mono hb.size)
          have kv1 := kv.below hx1 kv.lt
          have kh1 := kh.below hx1 kh.lt
          have v0 := kv1.cell 0
          simp only [List.getElem?_toArray, List.getElem?_cons_zero] at v0
          clear hM hBT hPw hx1 hb kv kh
          go_wp2_with fail
          clear v0
          refine (rightS_any Av cv B Am cm Q x1 hBT1 hbs.out hMS hbfit.out).mono ?_
          rintro e x2 ⟨rfl, hx2⟩
          have hMS2 := hMS.below hx2
          have hBT2 := hBT1.below hx2
          have hP2 := hP1.below hx2
          have hb2 := hb1.trans (hx2.mono hb1.size)
          have kv2 := kv1.below hx2 kv1.lt
          have kh2 := kh1.below hx2 kh1.lt
          clear hMS hBT1 hP1 hx2 hb1 kv1 kh1
          cases hrs : rightS B Q with
          | false =>
            have hQ0 : Q.length = 0 := by
              rcases hbor.out with e | e
              · rw [e]; rfl
              · rw [e] at hrs; cases hrs
            have hq : ((Q.length : Int) == 0) = true := by rw [hQ0]; rfl
            clear hQ0
            go_wp2
            go_ret
            exact ⟨by first | rfl | exact ret_bool hq, hb2⟩
          | true =>
            replace hfin := hide (hfin.out hrs)
            have c0 := kh2.cell 0
            simp only [List.getElem?_toArray, List.getElem?_cons_zero] at c0
            clear hrs hbor
            go_wp2_with fail
            refine (rperm18_any Ap cp π H.length (Old x2) x2 hP2 (by omega)).mono ?_
            rintro e x3 ⟨rfl, rfl⟩
            cases hpm : permB π H.length with
            | false =>
              go_wp2
              go_ret
              exact ⟨rfl, hb2⟩
            | true =>
              replace hfin := hide (hfin.out hpm)
              have hbd := hpb.out hpm
              rw [← hbl.out] at hbd
              clear hpm hpb
              have v0 := kv2.cell 0
              simp only [List.getElem?_toArray, List.getElem?_cons_zero] at v0
              replace hbd := hide hbd
              go_wp2_with fail
              clear v0 c0
              refine (rsess20_any Av cv B Ap cp π x2 hBT2 hP2 hbd.out (by omega)).mono ?_
              rintro e x4 ⟨rfl, hx4⟩
              have hMS4 := hMS2.below hx4
              have hBT4 := hBT2.below hx4
              have hb4 := hb2.trans (hx4.mono hb2.size)
              have kv4 := kv2.below hx4 kv2.lt
              have v0 := kv4.cell 0
              simp only [List.getElem?_toArray, List.getElem?_cons_zero] at v0
              clear hMS2 hBT2 hP2 hx4 hb2 kv2 kh2
              cases hss : sessB B π with
              | false =>
                go_wp2
                go_ret
                exact ⟨rfl, hb4⟩
              | true =>
                have hck := hfin.out hss
                clear hss hfin
                go_wp2_with fail
                refine (checkS_any Av cv B Am cm Q x4 hBT4 hbs.out hMS4 hbfit.out).mono ?_
                rintro e x5 ⟨rfl, hx5⟩
                rw [hck]
                go_wp2
                go_ret
                exact ⟨rfl, hb4.trans (hx5.mono hb4.size)⟩
end Go.Proofs.Ytfhnamomiaekdaa

namespace Go.Proofs.Ytfhnamomiaekdaa
open Go.Joins Go.ChangeShapes Go.WideShapes Go.ChangeAt Go.RowKit Go.Inq

set_option maxRecDepth 100000 in
theorem siRows_lifted (os : Os) (started : os.Started) (H : Type) (enc : TypeId × Value → H) :
    ReturnsInHanded {} Try.checked os 4 .any (Rows.siRowsSpec.pre6 enc Try.prog Try.f4 Rows.siRowsRow.domain false) (Rows.siRowsSpec.post enc Try.prog Try.f4 false true false false) := by
  refine returnsInHanded_of_change (C := Try.checked) own started (by kernel_rfl) Try.func4
    (ChangeSpec.witness6 (enc := enc) (C := Try.checked) false ⟨#[], #[.agg #[.slice none 0 0], .slice none 0 0], []⟩ 8 (by kernel_rfl) (by kernel_rfl) (by kernel_rfl) (by kernel_rfl)) ?_
  intro W base args ds gs before hval0 hW hcnd _
  have hval : ∀ (j : Nat) t v, Try.f4.params[j]? = some t → args[j]? = some v → Value.okWide Try.prog W .any base t v := hval0
  have hW' := hW
  obtain ⟨p, q, hA0, hV, rfl, hfz, hnd⟩ := hW
  have hlt : ∀ x ∈ p ++ q, x.block < W.heap.size := fun x hx => hW'.lt x hx
  have hA : DataW.TrodAll enc Try.prog W 0 (fun _ => true) true Try.f4.params.toList args.toList ds p := hA0
  rw [Try.params4] at hA hval
  obtain ⟨v0, v1, d0, d1, p0, p1, rfl, rfl, rfl, h0, h1⟩ := trodAll_two hA
  obtain ⟨rfl, rfl⟩ := trodVars_none hV
  obtain ⟨n0, t0⟩ := h0
  obtain ⟨cs0, rfl, hz0⟩ := okWide_struct Try.underlying24 (hval 0 24 v0 rfl rfl)
  obtain ⟨a0, cap0, l0, he0, hl0, hn0, hm0⟩ := open_hist (by kernel_rfl) t0
  obtain rfl : cs0 = #[.slice a0 l0.length cap0] := Array.toList_inj.1 he0
  obtain ⟨aI1, len1, cI1, rfl⟩ := okWide_slice Try.underlying25 (hval 1 25 v1 rfl rfl)
  obtain ⟨n1, t1⟩ := h1
  obtain ⟨A, c, lI1, hv, hI1, hJ1⟩ := open_nums t1
  injection hv with e1 e2 e3
  subst e1 e2 e3
  refine (siRows_any a0 cap0 l0 aI1 cI1 lI1 W hl0 hn0 hm0 hI1 hJ1).mono fun e W2 he => ?_
  obtain ⟨he, hb⟩ := he
  subst he
  exact ⟨_, rfl, [d0, d1], [], (p0 ++ p1) ++ [], [], (p0 ++ p1), [], hW', trodAll_mk1 (shut_bool Try.underlying4 true), Below.trodAll hb (by kernel_rfl) hA (fun x hx => hlt x (List.mem_append.2 (.inl hx))), rfl, hb.frame _, fun h => by cases h⟩

theorem siRows_holds : Rows.SiRowsSaid :=
  OpenClaim.holds_of_wide 4 Try.f4 rfl rfl rfl rfl rfl rfl rfl ⟨rfl, rfl, rfl, rfl, rfl⟩ rfl rfl rfl rfl rfl (by kernel_rfl) Try.func4 (by kernel_rfl)
    (of_decide_eq_true (by kernel_rfl)) (by unfold Func.isWrapper; first | (rw [if_pos (by decide +kernel)]; kernel_rfl) | (rw [if_neg (by decide +kernel)]; exact ⟨rfl, rfl⟩))
    (fun os started H enc _ => siRows_lifted os started H enc)
#print axioms siRows_holds
end Go.Proofs.Ytfhnamomiaekdaa
