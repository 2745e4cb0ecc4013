/-
  Walks: layer 22: whether a choice is one; whether a history and a level may be.
-/
import Derived.Test.YtjomijnbnbideaaGreatDoorM12
import Derived.Test.YtjomijnbnbideaaGreatDoorM01
set_option linter.unusedVariables false
set_option linter.unusedSimpArgs false
namespace Go.Proofs.YtjomijnbnbideaaGreatDoor
open Go.RowKit Go.Inq
set_option maxHeartbeats 8000000
attribute [local go_sem ↓] Go.wp_at_zero Go.wp_at_succ

set_option maxRecDepth 100000 in
theorem cc22_any (A : Option Addr) (c : Nat) (H : List Txn) (t key : Int) (bh bc : Nat) (w : World) (h : TxnS w (Old w) (.slice A H.length c) H) (hn : SmallH H) (hbh : w.cell? ⟨bh, 0, none⟩ = some (.slice A H.length c)) (hbc : w.cell? ⟨bc, 0, none⟩ = some (.int .i64 key)) :
    Calls Tryz.prog 133 #[.int .i64 t, .pointer (some ⟨bh, 0, none⟩), .pointer (some ⟨bc, 0, none⟩)] w fun e w' => e = .returned (.bool (wrB H t key)) ∧ Below w.heap.size w w' := by
  have hlen := hn.1
  have hbh2 := hide (fun W (hW : Below w.heap.size w W) => (hW.cell (p := ⟨bh, 0, none⟩) (block_lt_of_cell hbh)).trans hbh)
  have hbc2 := hide (fun W (hW : Below w.heap.size w W) => (hW.cell (p := ⟨bc, 0, none⟩) (block_lt_of_cell hbc)).trans hbc)
  clear hbh hbc
  by_cases h0 : 0 ≤ t
  · have h0b : decide (t ≥ 0) = true := by simpa using h0
    by_cases h1 : t < (H.length : Int)
    · obtain ⟨m, rfl⟩ : ∃ m : Nat, t = m := ⟨t.toNat, by omega⟩
      have hm : m < H.length := by omega
      have hr := wrB_nat (key := key) hm
      rw [txnAt_of hm] at hr
      obtain ⟨b, off, Aw, cw, Ar, cr, rfl, hbK, d0, d1, d2, hws, _⟩ := TxnS.at_ h hm
      have hd1 := hide (fun W (hW : Below w.heap.size w W) => (hW.cell (p := ⟨b, off + m * 3 + 1, none⟩) hbK).trans d1)
      have hwl : H[m].writes.length ≤ maxLen := by have := (hn.2 _ (List.getElem_mem hm)).1; unfold maxLen; omega
      have hcc := hide (fun W (hW : Below w.heap.size w W) => contains_int Aw cw H[m].writes key (Old W) W (IntS.below hws hW) hwl)
      generalize H[m].writes = L at *
      generalize hqe : L.contains key = q at *
      rw [hr]
      have hm1 : decide (m < H.length) = true := by simpa using hm
      have hm2 : (0 : Int) ≤ (m : Int) := Int.natCast_nonneg _
      replace hn := hide hn
      clear h h0 hws d0 d1 d2 hr hqe
      go_enter Tryz.func133, Tryz.ntmps133
      go_upto_region 1 with fail
      refine wp_region_float (fun W => Below w.heap.size w W) (by kernel_rfl) (by kernel_rfl) (Below.refl _ _).drew ?_
      refine ⟨.int .i64 (m : Int), fun W hW => (by go_wp2), ?_⟩
      refine ⟨.bool true, fun W hW => (by go_wp2), ?_⟩
      refine ⟨.bool true, fun W hW => (by go_wp2), ?_⟩
      refine ⟨.int .i64 (m : Int), fun W hW => (by go_wp2), ?_⟩
      refine ⟨.pointer (some ⟨bh, 0, none⟩), fun W hW => (by go_wp2), ?_⟩
      refine ⟨.slice (some ⟨b, off, none⟩) H.length c, fun W hW => (by have v0 := hbh2.out W hW; go_wp2), ?_⟩
      refine ⟨.int .i64 (H.length : Int), fun W hW => (by go_wp2), ?_⟩
      refine ⟨.bool true, fun W hW => (by go_wp2), ?_⟩
      refine ⟨.bool true, fun W hW => (by go_wp2), ?_⟩
      refine ⟨.bool true, fun W hW => (by go_wp2), ?_⟩
      refine ⟨.pointer (some ⟨bh, 0, none⟩), fun W hW => (by go_wp2), ?_⟩
      refine ⟨.slice (some ⟨b, off, none⟩) H.length c, fun W hW => (by have v0 := hbh2.out W hW; go_wp2), ?_⟩
      refine ⟨.int .i64 (m : Int), fun W hW => (by go_wp2), ?_⟩
      refine ⟨.pointer (some ⟨b, off + m * 3, none⟩), fun W hW => (by go_wp2), ?_⟩
      refine ⟨.pointer (some ⟨b, off + m * 3 + 1, none⟩), fun W hW => (by go_wp2), ?_⟩
      refine ⟨.slice Aw L.length cw, fun W hW => (by have v0 := hd1.out W hW; go_wp2), ?_⟩
      refine ⟨.pointer (some ⟨bc, 0, none⟩), fun W hW => (by go_wp2), ?_⟩
      refine ⟨.int .i64 key, fun W hW => (by have v0 := hbc2.out W hW; go_wp2), ?_⟩
      refine ⟨.bool q, fun W hW => (by
        go_wp2_with fail
        refine (hcc.out W hW).mono ?_
        rintro e w' ⟨rfl, rfl⟩
        go_wp2), ?_⟩
      refine ⟨.bool q, fun W hW => (by go_wp2), ?_⟩
      refine ⟨.bool q, fun W hW => (by go_wp2), ?_⟩
      intro W5 hW5
      simp only [Act.put, sA, sZ, sS]
      go_wp2
      go_ret
      exact ⟨rfl, hW5⟩
    · have hr : wrB H t key = false := by unfold wrB; simp; intro _ e; exact absurd e h1
      have h1b : decide (t < (H.length : Int)) = false := by simpa using h1
      rw [hr]
      replace hn := hide hn
      clear h h0 h1 hr
      go_enter Tryz.func133, Tryz.ntmps133
      go_upto_region 1 with fail
      refine wp_region_float (fun W => Below w.heap.size w W) (by kernel_rfl) (by kernel_rfl) (Below.refl _ _).drew ?_
      refine ⟨.int .i64 t, fun W hW => (by go_wp2), ?_⟩
      refine ⟨.bool true, fun W hW => (by go_wp2), ?_⟩
      refine ⟨.bool true, fun W hW => (by go_wp2), ?_⟩
      refine ⟨.int .i64 t, fun W hW => (by go_wp2), ?_⟩
      refine ⟨.pointer (some ⟨bh, 0, none⟩), fun W hW => (by go_wp2), ?_⟩
      refine ⟨.slice A H.length c, fun W hW => (by have v0 := hbh2.out W hW; go_wp2), ?_⟩
      refine ⟨.int .i64 (H.length : Int), fun W hW => (by go_wp2), ?_⟩
      refine ⟨.bool false, fun W hW => (by go_wp2), ?_⟩
      refine ⟨.bool false, fun W hW => (by go_wp2), ?_⟩
      refine ⟨.bool false, fun W hW => (by go_wp2), ?_⟩
      refine ⟨undef, fun W hW => (by go_wp2), ?_⟩
      refine ⟨undef, fun W hW => (by go_wp2), ?_⟩
      refine ⟨undef, fun W hW => (by go_wp2), ?_⟩
      refine ⟨undef, fun W hW => (by go_wp2), ?_⟩
      refine ⟨undef, fun W hW => (by go_wp2), ?_⟩
      refine ⟨undef, fun W hW => (by go_wp2), ?_⟩
      refine ⟨undef, fun W hW => (by go_wp2), ?_⟩
      refine ⟨undef, fun W hW => (by go_wp2), ?_⟩
      refine ⟨undef, fun W hW => (by go_wp2), ?_⟩
      refine ⟨.bool false, fun W hW => (by go_wp2), ?_⟩
      refine ⟨.bool false, fun W hW => (by go_wp2), ?_⟩
      intro W5 hW5
      simp only [Act.put, sA, sZ, sS]
      go_wp2
      go_ret
      exact ⟨rfl, hW5⟩
  · have hr : wrB H t key = false := by unfold wrB; simp; intro e; exact absurd e h0
    have h0b : decide (t ≥ 0) = false := by simpa using h0
    rw [hr]
    replace hn := hide hn
    clear h h0 hr
    go_enter Tryz.func133, Tryz.ntmps133
    go_upto_region 1 with fail
    refine wp_region_float (fun W => Below w.heap.size w W) (by kernel_rfl) (by kernel_rfl) (Below.refl _ _).drew ?_
    refine ⟨.int .i64 t, fun W hW => (by go_wp2), ?_⟩
    refine ⟨.bool false, fun W hW => (by go_wp2), ?_⟩
    refine ⟨.bool false, fun W hW => (by go_wp2), ?_⟩
    refine ⟨undef, fun W hW => (by go_wp2), ?_⟩
    refine ⟨undef, fun W hW => (by go_wp2), ?_⟩
    refine ⟨undef, fun W hW => (by go_wp2), ?_⟩
    refine ⟨undef, fun W hW => (by go_wp2), ?_⟩
    refine ⟨undef, fun W hW => (by go_wp2), ?_⟩
    refine ⟨.bool false, fun W hW => (by go_wp2), ?_⟩
    refine ⟨.bool false, fun W hW => (by go_wp2), ?_⟩
    refine ⟨undef, fun W hW => (by go_wp2), ?_⟩
    refine ⟨undef, fun W hW => (by go_wp2), ?_⟩
    refine ⟨undef, fun W hW => (by go_wp2), ?_⟩
    refine ⟨undef, fun W hW => (by go_wp2), ?_⟩
    refine ⟨undef, fun W hW => (by go_wp2), ?_⟩
    refine ⟨undef, fun W hW => (by go_wp2), ?_⟩
    refine ⟨undef, fun W hW => (by go_wp2), ?_⟩
    refine ⟨undef, fun W hW => (by go_wp2), ?_⟩
    refine ⟨undef, fun W hW => (by go_wp2), ?_⟩
    refine ⟨.bool false, fun W hW => (by go_wp2), ?_⟩
    refine ⟨.bool false, fun W hW => (by go_wp2), ?_⟩
    intro W5 hW5
    simp only [Act.put, sA, sZ, sS]
    go_wp2
    go_ret
    exact ⟨rfl, hW5⟩
set_option maxRecDepth 100000 in
theorem may22_any (A : Option Addr) (c : Nat) (H : List Txn) (level : Int) (w : World) (h : TxnS w (Old w) (.slice A H.length c) H) (hn : SmallH H) :
    Calls Tryz.prog 75 #[.agg #[.slice A H.length c], .int .i64 level] w fun e w' => e = .returned (.bool (rightH H && (decide (level = 0) || decide (level = 1)))) ∧ Below w.heap.size w w' := by
  obtain ⟨W0, hW0⟩ : ∃ W0, w.alloc (.cells #[.slice A H.length c] 24) = W0 := ⟨_, rfl⟩
  have hB := below_allocEq (Below.refl w.heap.size w) hW0 (Nat.le_refl _)
  have k0 := Blk.newEq hW0
  have hrc := hide (right8_any A c H W0 (h.below hB) hn)
  have c0 := Blk.n0 k0
  generalize rightH H = q at *
  clear h
  have hz : decide (level = 0) = (level == 0) := by rw [Bool.eq_iff_iff]; simp
  have ho : decide (level = 1) = (level == 1) := by rw [Bool.eq_iff_iff]; simp
  rw [hz, ho]
  obtain ⟨z, hz2⟩ : ∃ z, (level == 0) = z := ⟨_, rfl⟩
  obtain ⟨o, ho2⟩ : ∃ o, (level == 1) = o := ⟨_, rfl⟩
  rw [hz2, ho2]
  clear hz ho
  go_enter Tryz.func75, Tryz.ntmps75
  go_wp2_with fail
  clear hW0 c0
  refine hrc.out.mono ?_
  rintro e w1 ⟨rfl, hb1⟩
  cases q <;> cases z <;> cases o
  all_goals
    go_wp2
    go_ret
    exact ⟨rfl, hB.trans (hb1.mono hB.size)⟩
end Go.Proofs.YtjomijnbnbideaaGreatDoor
