/-
  Walks: references of layers 18, 19: may a choice be; two of a history's transactions; is there a direct edge.
-/
import Derived.Test.YtjomijnbnbideaaGreatDoorT28
import Derived.Test.YtjomijnbnbideaaGreatDoorT04
import Derived.Test.YtjomijnbnbideaaGreatDoorT27
import Derived.Test.YtjomijnbnbideaaGreatDoorT02
set_option linter.unusedVariables false
set_option linter.unusedSimpArgs false
namespace Go.Proofs.YtjomijnbnbideaaGreatDoor
open Go.RowKit Go.Inq
set_option maxHeartbeats 4000000
attribute [local go_sem ↓] Go.wp_at_zero Go.wp_at_succ

set_option maxRecDepth 100000 in
theorem rone18_any (A : Option Addr) (c : Nat) (H : List Txn) (d : Cho) (w : World) (h : TxnS w (Old w) (.slice A H.length c) H) (hn : SmallH H) :
    Calls Tryz.prog 169 #[.agg #[.slice A H.length c], .agg #[.int .i64 d.key, .int .i64 d.a, .int .i64 d.b]] w fun e w' => e = .returned (.bool (oneB H d)) ∧ Below w.heap.size w w' := by
  obtain ⟨W0, hW0⟩ : ∃ W0, (w.alloc (.cells #[.slice A H.length c] 24)).alloc (.cells #[.int .i64 d.key, .int .i64 d.a, .int .i64 d.b] 49) = W0 := ⟨_, rfl⟩
  have hB := below_two hW0
  have k0 := Blk.two1 hW0
  have k1 := Blk.two2 hW0
  have hh := hide (fun W hb => h.below (w' := W) hb)
  have c0 := k0.cell 0
  have d0 := k1.cell 0
  have d1 := k1.cell 1
  have d2 := k1.cell 2
  simp only [List.getElem?_toArray, List.getElem?_cons_zero, List.getElem?_cons_succ] at c0 d0 d1 d2
  have hdf : oneB H d = (decide (d.a ≠ d.b) && wrB H d.a d.key && wrB H d.b d.key) := rfl
  obtain ⟨dk, da, db⟩ := d
  dsimp only at d0 d1 d2 hdf ⊢
  obtain ⟨q, hq⟩ : ∃ q, oneB H ⟨dk, da, db⟩ = q := ⟨_, rfl⟩
  rw [hq]
  rw [hdf] at hq
  clear hdf h
  replace hq := hide hq
  go_enter Tryz.func169, Tryz.ntmps169
  go_upto_region 2 with fail
  clear hW0
  replace hq := hq.out
  by_cases q0 : da = db
  · have q0b : (da == db) = true := by simpa using q0
    have hr : (decide (da ≠ db) && wrB H da dk && wrB H db dk) = false := by simp [q0]
    clear q0
    obtain rfl : q = false := hq.symm.trans hr
    clear hr hq
    go_wp2
    go_ret
    exact ⟨rfl, hB⟩
  · have q0b : (da == db) = false := by simpa using q0
    by_cases q1 : da < 0
    · have hr : (decide (da ≠ db) && wrB H da dk && wrB H db dk) = false := by unfold wrB; simp; omega
      clear q0
      obtain rfl : q = false := hq.symm.trans hr
      clear hr hq
      go_wp2
      go_ret
      exact ⟨rfl, hB⟩
    · by_cases q2 : da ≥ (H.length : Int)
      · have hr : (decide (da ≠ db) && wrB H da dk && wrB H db dk) = false := by unfold wrB; simp; omega
        clear q0
        obtain rfl : q = false := hq.symm.trans hr
        clear hr hq
        go_wp2
        go_ret
        exact ⟨rfl, hB⟩
      · by_cases q3 : db < 0
        · have hr : (decide (da ≠ db) && wrB H da dk && wrB H db dk) = false := by unfold wrB; simp; omega
          clear q0
          obtain rfl : q = false := hq.symm.trans hr
          clear hr hq
          go_wp2
          go_ret
          exact ⟨rfl, hB⟩
        · by_cases q4 : db ≥ (H.length : Int)
          · have hr : (decide (da ≠ db) && wrB H da dk && wrB H db dk) = false := by unfold wrB; simp; omega
            clear q0
            obtain rfl : q = false := hq.symm.trans hr
            clear hr hq
            go_wp2
            go_ret
            exact ⟨rfl, hB⟩
          · obtain ⟨a, rfl⟩ : ∃ a : Nat, da = a := ⟨da.toNat, by omega⟩
            obtain ⟨b, rfl⟩ : ∃ b : Nat, db = b := ⟨db.toNat, by omega⟩
            have ha : a < H.length := by omega
            have hb : b < H.length := by omega
            have hr : (decide ((a : Int) ≠ (b : Int)) && wrB H (a : Int) dk && wrB H (b : Int) dk) = (H[a].writes.contains dk && H[b].writes.contains dk) := by
              rw [wrB_nat ha, wrB_nat hb, txnAt_of ha, txnAt_of hb, decide_eq_true q0, Bool.true_and]
            rw [hr] at hq
            clear hr q0
            replace hq := hide hq
            have ha0 : (0 : Int) ≤ (a : Int) := Int.natCast_nonneg _
            have hb0 : (0 : Int) ≤ (b : Int) := Int.natCast_nonneg _
            have ha1 : (a : Int) < (H.length : Int) := by omega
            have hb1 : (b : Int) < (H.length : Int) := by omega
            obtain ⟨bt, off, Aw, cw, Ar, cr, rfl, hbK, e0, e1, e2, hws, -⟩ := TxnS.at_ (hh.out W0 hB) ha
            have hwl : H[a].writes.length ≤ maxLen := by have := (hn.2 _ (List.getElem_mem ha)).1; unfold maxLen; omega
            have hcw := hide (writes08_any H[a].sess Aw cw H[a].writes (.slice Ar H[a].reads.length cr) dk (Old W0) W0 hws (fun b h => h) hwl)
            have hwl2 : H[b].writes.length ≤ maxLen := by have := (hn.2 _ (List.getElem_mem hb)).1; unfold maxLen; omega
            clear hcw
            obtain ⟨x, hx⟩ : ∃ x, H[a].writes.contains dk = x := ⟨_, rfl⟩
            rw [hx] at hq
            go_upto_region 4 with fail
            refine wp_region_plan [0, 1, 2, 3, 4, 5, 6, 7] [8, 9] (by kernel_rfl) (by kernel_rfl) (fun _ _ d _ _ h => by cases d <;> exact h) ?_
            simp only [List.filterMap_cons, List.filterMap_nil, List.getElem?_cons_zero, List.getElem?_cons_succ]
            repeat still_step
            refine wpStill_nil ?_
            go_wp2_with fail
            refine (writes08_any H[a].sess Aw cw H[a].writes (.slice Ar H[a].reads.length cr) dk (Old W0) _ (IntS.keep hws (Agree.drewN _ _ _) (fun b h => h)) (fun b h => h) hwl).mono ?_
            rintro e W2 ⟨rfl, hb2'⟩
            have hb2 : Below W0.heap.size W0 W2 := ⟨hb2'.os, hb2'.tape, hb2'.output, hb2'.size, hb2'.block⟩
            have hB2 := hB.trans (hb2.mono hB.size)
            replace k0 := k0.below hb2 k0.lt
            replace k1 := k1.below hb2 k1.lt
            have c0 := k0.cell 0
            have d0 := k1.cell 0
            have d1 := k1.cell 1
            have d2 := k1.cell 2
            simp only [List.getElem?_toArray, List.getElem?_cons_zero, List.getElem?_cons_succ] at c0 d0 d1 d2
            rw [hx]
            clear hx hb2' hb2 e0 e1 e2 hws hwl
            obtain ⟨bt', off', Bw, cw', Br, cr', he, hbK, e0, e1, e2, hws, -⟩ := TxnS.at_ (hh.out W2 hB2) hb
            simp only [Option.some.injEq, Addr.mk.injEq, and_true] at he
            obtain ⟨rfl, rfl⟩ := he
            go_upto_region 5 with fail
            refine wp_region_plan [0, 1, 2, 3, 4, 5, 6, 7] [8, 9] (by kernel_rfl) (by kernel_rfl) (fun _ _ d _ _ h => by cases d <;> exact h) ?_
            simp only [List.filterMap_cons, List.filterMap_nil, List.getElem?_cons_zero, List.getElem?_cons_succ]
            repeat still_step
            refine wpStill_nil ?_
            go_wp2_with fail
            refine (writes08_any H[b].sess Bw cw' H[b].writes (.slice Br H[b].reads.length cr') dk (Old W2) _ (IntS.keep hws (Agree.drewN _ _ _) (fun b h => h)) (fun b h => h) hwl2).mono ?_
            rintro e W3 ⟨rfl, hb3'⟩
            have hb3 : Below W2.heap.size W2 W3 := ⟨hb3'.os, hb3'.tape, hb3'.output, hb3'.size, hb3'.block⟩
            have hB3 := hB2.trans (hb3.mono hB2.size)
            obtain ⟨y, hy⟩ : ∃ y, H[b].writes.contains dk = y := ⟨_, rfl⟩
            rw [hy] at hq ⊢
            clear hy hb3' hb3 e0 e1 e2 hws hwl2 c0 d0 d1 d2
            cases x with
            | true =>
              rw [Bool.true_and] at hq
              go_wp2
              go_ret
              exact ⟨ret_bool hq.out, hB3⟩
            | false =>
              rw [Bool.false_and] at hq
              go_wp2
              go_ret
              exact ⟨ret_bool hq.out, hB3⟩
set_option maxRecDepth 100000 in
theorem rtwo19_any (A : Option Addr) (c : Nat) (H : List Txn) (x y : Int) (w : World) (h : TxnS w (Old w) (.slice A H.length c) H) (hn : SmallH H) :
    Calls Tryz.prog 239 #[.agg #[.slice A H.length c], .int .i64 x, .int .i64 y] w fun e w' => e = .returned (.bool (twoB H x y)) ∧ Below w.heap.size w w' := by
  obtain ⟨W0, hW0⟩ : ∃ W0, w.alloc (.cells #[.slice A H.length c] 24) = W0 := ⟨_, rfl⟩
  have hB := below_allocEq (Below.refl w.heap.size w) hW0 (Nat.le_refl _)
  have k0 := Blk.newEq hW0
  have hrc := hide (right08_any A c H W0 (h.below hB) hn)
  have c0 := k0.cell 0
  simp only [List.getElem?_toArray, List.getElem?_cons_zero] at c0
  obtain ⟨q, hq⟩ : ∃ q, twoB H x y = q := ⟨_, rfl⟩
  rw [hq]
  unfold twoB at hq
  obtain ⟨r, hrr⟩ : ∃ r, rightH H = r := ⟨_, rfl⟩
  rw [hrr] at hrc hq
  replace hq := hide hq
  clear h hrr
  go_enter Tryz.func239, Tryz.ntmps239
  go_wp2_with fail
  clear hW0
  refine hrc.out.mono ?_
  rintro e w1 ⟨rfl, hb1⟩
  have hB1 := hB.trans (hb1.mono hB.size)
  replace k0 := k0.below hb1 k0.lt
  have c0 := k0.cell 0
  simp only [List.getElem?_toArray, List.getElem?_cons_zero] at c0
  replace hq := hq.out
  clear hrc hb1 hB
  cases r with
  | false =>
    have hr : (false && decide (0 ≤ x) && decide (x < (H.length : Int)) && decide (0 ≤ y) && decide (y < (H.length : Int))) = false := by simp
    obtain rfl : q = false := hq.symm.trans hr
    clear hr hq
    go_wp2
    go_ret
    exact ⟨by first | rfl | exact ret_bool (by simp <;> omega), hB1⟩
  | true =>
    by_cases q1 : x ≥ 0
    · by_cases q2 : x < (H.length : Int)
      · by_cases q3 : y ≥ 0
        · by_cases q4 : y < (H.length : Int)
          · have hr : (true && decide (0 ≤ x) && decide (x < (H.length : Int)) && decide (0 ≤ y) && decide (y < (H.length : Int))) = true := by simp; omega
            obtain rfl : q = true := hq.symm.trans hr
            clear hr hq
            go_wp2
            go_ret
            exact ⟨ret_bool (by simp <;> omega), hB1⟩
          · have hr : (true && decide (0 ≤ x) && decide (x < (H.length : Int)) && decide (0 ≤ y) && decide (y < (H.length : Int))) = false := by simp; omega
            obtain rfl : q = false := hq.symm.trans hr
            clear hr hq
            go_wp2
            go_ret
            exact ⟨by first | rfl | exact ret_bool (by simp <;> omega), hB1⟩
        · have hr : (true && decide (0 ≤ x) && decide (x < (H.length : Int)) && decide (0 ≤ y) && decide (y < (H.length : Int))) = false := by simp; omega
          obtain rfl : q = false := hq.symm.trans hr
          clear hr hq
          go_wp2
          go_ret
          exact ⟨by first | rfl | exact ret_bool (by simp <;> omega), hB1⟩
      · have hr : (true && decide (0 ≤ x) && decide (x < (H.length : Int)) && decide (0 ≤ y) && decide (y < (H.length : Int))) = false := by simp; omega
        obtain rfl : q = false := hq.symm.trans hr
        clear hr hq
        go_wp2
        go_ret
        exact ⟨by first | rfl | exact ret_bool (by simp <;> omega), hB1⟩
    · have hr : (true && decide (0 ≤ x) && decide (x < (H.length : Int)) && decide (0 ≤ y) && decide (y < (H.length : Int))) = false := by simp; omega
      obtain rfl : q = false := hq.symm.trans hr
      clear hr hq
      go_wp2
      go_ret
      exact ⟨by first | rfl | exact ret_bool (by simp <;> omega), hB1⟩
end Go.Proofs.YtjomijnbnbideaaGreatDoor
