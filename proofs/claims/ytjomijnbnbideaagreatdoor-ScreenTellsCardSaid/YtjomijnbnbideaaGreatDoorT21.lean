/-
  Walks: layer 22: somebody who has the one reads the other one; whether a fact holds by none.
-/
import Derived.Test.YtjomijnbnbideaaGreatDoorT20
import Derived.Test.YtjomijnbnbideaaGreatDoorT08
set_option linter.unusedVariables false
set_option linter.unusedSimpArgs false
namespace Go.Proofs.YtjomijnbnbideaaGreatDoor
open Go.RowKit Go.Inq
set_option maxHeartbeats 8000000
attribute [local go_sem ↓] Go.wp_at_zero Go.wp_at_succ

set_option maxRecDepth 100000 in
theorem seen22_any (A : Option Addr) (c : Nat) (H : List Txn) (level : Int) (vl : Value) (f : Fct) (vc : Value) (w : World) (h : TxnS w (Old w) (.slice A H.length c) H) (hn : SmallH H) :
    Calls Tryz.prog 136 #[.agg #[.slice A H.length c, .int .i64 level, vl, .int .i64 f.c.key, .int .i64 f.c.a, .int .i64 f.c.b, .int .i64 f.kind, .int .i64 f.i, .int .i64 f.j, vc]] w fun e w' => e = .returned (.bool (seenF H f)) ∧ Below w.heap.size w w' := by
  obtain ⟨⟨key, a, b⟩, kind, i, j, cyc⟩ := f
  dsimp only
  obtain ⟨W0, hW0⟩ : ∃ W0, w.alloc (.cells #[.slice A H.length c, .int .i64 level, vl, .int .i64 key, .int .i64 a, .int .i64 b, .int .i64 kind, .int .i64 i, .int .i64 j, vc] 138) = W0 := ⟨_, rfl⟩
  have hB := below_allocEq (Below.refl w.heap.size w) hW0 (Nat.le_refl _)
  have k0 := Blk.newEq hW0
  have hT := h.below hB
  have hdi := hide (fun W (hb : Below w.heap.size w W) => direct19_any A c H none 0 [] a i W (h.below hb) hn (ChoS.nil _ _ _ _) (by simp))
  have hre : Hid (seenF H ⟨⟨key, a, b⟩, kind, i, j, cyc⟩ = (decide (j = 0) && decide (i ≠ a) && decide (0 ≤ i) && decide (i < (H.length : Int)) && ((txnAt H i.toNat).reads.any fun x => decide (x.a = key) && decide (x.b = b)) && directB H [] a i)) := hide rfl
  obtain ⟨r, hr⟩ : ∃ r, seenF H ⟨⟨key, a, b⟩, kind, i, j, cyc⟩ = r := ⟨_, rfl⟩
  rw [hr] at hre
  rw [hr]
  generalize directB H [] a i = q at *
  have c0 := k0.cell 0
  have c3 := k0.cell 3
  have c4 := k0.cell 4
  have c5 := k0.cell 5
  have c7 := k0.cell 7
  have c8 := k0.cell 8
  simp only [List.getElem?_toArray, List.getElem?_cons_zero, List.getElem?_cons_succ] at c0 c3 c4 c5 c7 c8
  have hct : Hid True := hide trivial
  clear hr
  by_cases h1 : j = 0
  · have g1 : (j != 0) = false := by simp [h1]
    by_cases h2 : i = a
    · have hrq : r = false := by rw [hre.out]; simp [h2]
      have g2 : (i == a) = true := by simp [h2]
      subst hrq
      clear h1 h2 hre h hT
      clear hdi hct
      go_enter Tryz.func136, Tryz.ntmps136
      go_wp2
      go_ret
      exact ⟨rfl, hB⟩
    · have g2 : (i == a) = false := by simpa using h2
      by_cases h3 : i < 0
      · have hrq : r = false := by rw [hre.out, decide_eq_false (show ¬ 0 ≤ i by omega)]; simp
        have g3 : decide (i < 0) = true := by simpa using h3
        subst hrq
        clear h1 h2 h3 hre h hT
        clear hdi hct
        go_enter Tryz.func136, Tryz.ntmps136
        go_wp2
        go_ret
        exact ⟨rfl, hB⟩
      · have g3 : decide (i < 0) = false := by simpa using h3
        by_cases h4 : (H.length : Int) ≤ i
        · have hrq : r = false := by rw [hre.out, decide_eq_false (show ¬ i < (H.length : Int) by omega)]; simp
          have g4 : decide (i ≥ (H.length : Int)) = true := by simpa using h4
          have g5 : decide ((H.length : Int) ≤ i) = true := by simpa using h4
          subst hrq
          clear h1 h2 h3 h4 hre h hT
          clear hdi hct
          go_enter Tryz.func136, Tryz.ntmps136
          go_wp2
          go_ret
          exact ⟨rfl, hB⟩
        · obtain ⟨m, rfl⟩ : ∃ m : Nat, i = (m : Int) := ⟨i.toNat, by omega⟩
          have hm : m < H.length := by omega
          have hm0 : (0 : Int) ≤ (m : Int) := Int.natCast_nonneg _
          have hm1 : (m : Int) < (H.length : Int) := by omega
          have g4 : decide ((m : Int) ≥ (H.length : Int)) = false := by simp; omega
          have g5 : decide ((H.length : Int) ≤ (m : Int)) = false := by simp; omega
          have g6 : decide (H.length ≤ m) = false := by simp; omega
          obtain ⟨bt, ot, Aw, cw, Ar, cr, rfl, _, d0, d1, d2, -, hrs⟩ := TxnS.at_ hT hm
          have hrl : H[m].reads.length ≤ 1000000 := (hn.2 _ (List.getElem_mem hm)).2
          have hct := hide (containsT_any Ar cr H[m].reads key b W0.drew (ItS.keep hrs (Agree.drew _ _) (fun b h => h)) (by omega))
          have hre2 := hide (show r = ((H[m].reads.any fun x => decide (x.a = key) && decide (x.b = b)) && q) by
            rw [hre.out, Int.toNat_natCast, txnAt_of hm, decide_eq_true h1, decide_eq_true h2, decide_eq_true hm0, decide_eq_true hm1]
            simp)
          generalize (H[m].reads.any fun x => decide (x.a = key) && decide (x.b = b)) = q1 at *
          generalize H[m].reads = R at *
          clear h1 h2 h3 h4 hre hT hrs h
          go_enter Tryz.func136, Tryz.ntmps136
          go_upto_region 3 with fail
          refine wp_region_plan [0, 1, 2, 3, 4, 5, 6, 7, 8, 9, 10, 11, 12, 13, 14, 15, 16, 17] [18, 19] (by kernel_rfl) (by kernel_rfl) (fun _ _ d _ _ h => by cases d <;> exact h) ?_
          simp only [List.filterMap_cons, List.filterMap_nil, List.getElem?_cons_zero, List.getElem?_cons_succ]
          repeat still_step
          refine wpStill_nil ?_
          go_wp2_with fail
          refine hct.out.mono ?_
          rintro e w1 ⟨rfl, hb1⟩
          have hb2 := (below_drew hB).trans (hb1.mono hB.size)
          have k1 := k0.drew.below hb1 k0.lt
          have e0 := k1.cell 0
          have e4 := k1.cell 4
          have e7 := k1.cell 7
          simp only [List.getElem?_toArray, List.getElem?_cons_zero, List.getElem?_cons_succ] at e0 e4 e7
          have hd2 := hide (hdi.out w1 hb2)
          clear hW0 hct hdi c0 c3 c4 c5 c7 c8 d0 d1 d2
          cases q1 with
          | false =>
            have hrq : r = false := by rw [hre2.out]; rfl
            subst hrq
            clear hd2 hre2
            go_wp2
            go_ret
            exact ⟨rfl, hb2⟩
          | true =>
            have hrq : r = q := by rw [hre2.out]; rfl
            subst hrq
            clear hre2
            go_wp2_with fail
            refine hd2.out.mono ?_
            rintro e w2 ⟨rfl, hb3⟩
            go_wp2
            go_ret
            exact ⟨rfl, hb2.trans (hb3.mono hb2.size)⟩
  · have g1 : (j != 0) = true := by simpa using h1
    have hrq : r = false := by rw [hre.out]; simp [h1]
    subst hrq
    clear h1 hre h hT
    clear hdi hct
    go_enter Tryz.func136, Tryz.ntmps136
    go_wp2
    go_ret
    exact ⟨rfl, hB⟩
end Go.Proofs.YtjomijnbnbideaaGreatDoor
