/-
  Walks: InnerTells.
-/
import Derived.Test.YteddcpblpkhoeaaAwake
set_option linter.unusedVariables false
set_option linter.unusedSimpArgs false
namespace Go.Proofs.Yteddcpblpkhoeaa
open Go.RowKit Go.Inq
set_option maxHeartbeats 2000000
attribute [local go_sem ↓] Go.wp_at_zero Go.wp_at_succ

theorem lookR_len (l : List Ev) : (lookR l).reads.length ≤ 1000000 ∧ (lookR l).writes.length ≤ 1000000 := by
  unfold lookR
  split
  · simp
  · have := readsTo_len l 16
    have := writesTo_len l 16
    dsimp only
    omega

set_option maxRecDepth 100000 in
theorem tells_any (s f : Int) (d : Bool) (A : Option Addr) (c : Nat) (l : List Ev) (w : World) (h : EvS w (Old w) (.slice A l.length c) l) (hn : l.length ≤ maxLen) :
    Calls Try.prog 3 #[.agg #[.int .i64 s, .bool d, .int .i64 f, .slice A l.length c]] w fun e w' => e = .returned (.bool true) ∧ Below w.heap.size w w' := by
  have hn2 : l.length ≤ 9223372036854775807 := hn
  have k0 : Blk (w.alloc (.cells #[.int .i64 s, .bool d, .int .i64 f, .slice A l.length c] 24)) w.heap.size 24 #[.int .i64 s, .bool d, .int .i64 f, .slice A l.length c] := Blk.new _ _ _
  have B0 : Below w.heap.size w (w.alloc (.cells #[.int .i64 s, .bool d, .int .i64 f, .slice A l.length c] 24)) := (Below.refl _ _).alloc (Nat.le_refl _) _
  go_enter Try.func3, Try.ntmps3
  go_wp2_with fail
  refine (awake_any _).mono ?_
  rintro e w1 ⟨rfl, hb1⟩
  have k1 := k0.below hb1 k0.lt
  have B1 := B0.trans (hb1.mono B0.size)
  have a0 := k1.cell 0
  have a1 := k1.cell 1
  have a2 := k1.cell 2
  have a3 := k1.cell 3
  simp at a0 a1 a2 a3
  clear k0 B0 hb1
  by_cases hlong : 200 < l.length
  · have hl2 : (200 : Int) < (l.length : Int) := by omega
    go_wp2
    go_ret
    exact ⟨by simp, B1⟩
  · have hl2 : ¬ (200 : Int) < (l.length : Int) := by omega
    have hll := lookR_len l
    go_wp2_with fail
    refine (look_any s f d A c l w1 (EvS.below h B1) (by omega)).mono ?_
    rintro e w2 ⟨rv, wv, rfl, hr, hw, hb2⟩
    have k2 := k1.below hb2 k1.lt
    have B2 := B1.trans (hb2.mono B1.size)
    have s12 := hb2.size
    have hkl := k1.lt
    clear a0 a1 a2 a3 hb2
    have a3 := k2.cell 3
    simp at a3
    obtain ⟨A1, c1, rfl⟩ := ItS.form hr
    obtain ⟨A2, c2, rfl⟩ := ItS.form hw
    have s2 : w.heap.size < w2.heap.size := by omega
    go_wp2_with fail
    have B3 : Below w.heap.size w (w2.alloc (.cells #[.slice A1 (lookR l).reads.length c1, .slice A2 (lookR l).writes.length c2] 28)) := B2.alloc (by omega) _
    have kF : Blk (w2.alloc (.cells #[.slice A1 (lookR l).reads.length c1, .slice A2 (lookR l).writes.length c2] 28)) w2.heap.size 28 #[.slice A1 (lookR l).reads.length c1, .slice A2 (lookR l).writes.length c2] := Blk.new _ _ _
    refine (rlook_any A c l _ (EvS.below h B3) (by omega)).mono ?_
    rintro e w3 ⟨rv', wv', rfl, hr', hw', hb3⟩
    obtain ⟨A3, c3, rfl⟩ := ItS.form hr'
    obtain ⟨A4, c4, rfl⟩ := ItS.form hw'
    have kF3 := kF.below hb3 kF.lt
    have B4 := B3.trans (hb3.mono B3.size)
    have s3 := hb3.size
    simp at s3
    have hr3 : ItS w3 (Old w3) (.slice A1 (lookR l).reads.length c1) (lookR l).reads := ItS.keep hr (Agree.below hb3 (fun b hb => by have := hb.2; simp; omega) |> fun h => (Agree.alloc (fun b hb => hb.2) _).trans h) (fun b hb => by have := hb.2; show b < w3.heap.size; omega)
    have hw3 : ItS w3 (Old w3) (.slice A2 (lookR l).writes.length c2) (lookR l).writes := ItS.keep hw (Agree.below hb3 (fun b hb => by have := hb.2; simp; omega) |> fun h => (Agree.alloc (fun b hb => hb.2) _).trans h) (fun b hb => by have := hb.2; show b < w3.heap.size; omega)
    have hr4 : ItS w3 (Old w3) (.slice A3 (lookR l).reads.length c3) (lookR l).reads := ItS.fit hr' (fun b hb => hb.2)
    have hw4 : ItS w3 (Old w3) (.slice A4 (lookR l).writes.length c4) (lookR l).writes := ItS.fit hw' (fun b hb => hb.2)
    clear hr hw hr' hw' hb3 B3 kF k1 k2
    go_wp2_with fail
    have kG : Blk (w3.alloc (.cells #[.slice A3 (lookR l).reads.length c3, .slice A4 (lookR l).writes.length c4] 34)) w3.heap.size 34 #[.slice A3 (lookR l).reads.length c3, .slice A4 (lookR l).writes.length c4] := Blk.new _ _ _
    have kF4 := kF3.alloc (.cells #[.slice A3 (lookR l).reads.length c3, .slice A4 (lookR l).writes.length c4] 34)
    have hup : Below w3.heap.size w3 (w3.alloc (.cells #[.slice A3 (lookR l).reads.length c3, .slice A4 (lookR l).writes.length c4] 34)) := (Below.refl _ _).alloc (Nat.le_refl _) _
    replace hr3 := ItS.below hr3 hup
    replace hw3 := ItS.below hw3 hup
    replace hr4 := ItS.below hr4 hup
    replace hw4 := ItS.below hw4 hup
    have B5 := B4.trans (hup.mono B4.size)
    clear hup
    generalize hW : (w3.alloc (.cells #[.slice A3 (lookR l).reads.length c3, .slice A4 (lookR l).writes.length c4] 34)) = W at *
    have hWs : W.heap.size = w3.heap.size + 1 := by rw [← hW]; simp
    clear hW
    have q0 := kG.cell 0
    have q1 := kG.cell 1
    have r0 := kF4.cell 0
    have r1 := kF4.cell 1
    simp at q0 q1 r0 r1
    refine wp_region_alts [0] [1, 2, 3, 4, 5, 6, 7, 8, 9, 10, 11, 12, 13, 14] [[1, 2, 3, 4, 5, 6, 7, 8, 9, 10, 11, 12, 13, 14], [2, 1, 3, 4, 5, 6, 7, 8, 9, 10, 11, 12, 13, 14]] (by kernel_rfl) (by kernel_rfl) (fun _ _ d _ _ h => by cases d <;> exact h) ?_
    simp only [List.filterMap_cons, List.filterMap_nil, List.getElem?_cons_zero, List.getElem?_cons_succ]
    repeat still_step
    refine wpStill_nil ?_
    have p0 : W.drew.cell? ⟨w3.heap.size, 0, none⟩ = some (.slice A3 (lookR l).reads.length c3) := q0
    have p1 : W.drew.cell? ⟨w3.heap.size, 1, none⟩ = some (.slice A4 (lookR l).writes.length c4) := q1
    have o0 : W.drew.cell? ⟨w2.heap.size, 0, none⟩ = some (.slice A1 (lookR l).reads.length c1) := r0
    have o1 : W.drew.cell? ⟨w2.heap.size, 1, none⟩ = some (.slice A2 (lookR l).writes.length c2) := r1
    replace hr3 : ItS W.drew (Old W.drew) _ _ := hr3
    replace hw3 : ItS W.drew (Old W.drew) _ _ := hw3
    replace hr4 : ItS W.drew (Old W.drew) _ _ := hr4
    replace hw4 : ItS W.drew (Old W.drew) _ _ := hw4
    replace B5 : Below w.heap.size w W.drew := B5.drew
    replace hWs : W.drew.heap.size = w3.heap.size + 1 := hWs
    generalize W.drew = V at *
    intro i hi
    simp only [List.filterMap_cons, List.head?_cons, List.filterMap_nil, List.mem_cons, List.not_mem_nil, or_false, or_self] at hi
    obtain rfl | rfl : i = 1 ∨ i = 2 := by omega
    · refine wpOp_list rfl ?_
      simp only [tailsOf, List.filterMap_cons, List.filterMap_nil, if_true, if_false, reduceIte, Nat.reduceEqDiff, List.length_cons, List.length_nil, Nat.reduceAdd]
      clear hi
      go_wp2_with fail
      refine (plain_any _ _ (lookR l).reads (lookR l).writes V hr3 hw3 hll.1 hll.2).mono ?_
      rintro e w5 ⟨rv5, wv5, rfl, hr5, hw5, hb5⟩
      have g0 := (hb5.cell (p := ⟨w3.heap.size, 0, none⟩) (by simp; omega)).trans p0
      have g1 := (hb5.cell (p := ⟨w3.heap.size, 1, none⟩) (by simp; omega)).trans p1
      have B6 := B5.trans (hb5.mono B5.size)
      have hr6 := ItS.below hr4 hb5
      have hw6 := ItS.below hw4 hb5
      have hr7 : ItS w5 (Old w5) rv5 (lookR l).reads := ItS.fit hr5 (fun b hb => hb.2)
      have hw7 : ItS w5 (Old w5) wv5 (lookR l).writes := ItS.fit hw5 (fun b hb => hb.2)
      clear hb5 hr5 hw5 p0 p1 o0 o1 hr3 hw3 hr4 hw4 B5
      go_wp2_with fail
      refine wpAlt_one _ _ _ _ rfl ?_
      simp only [List.filterMap_cons, List.filterMap_nil, List.getElem?_toArray, List.getElem?_cons_zero, List.getElem?_cons_succ]
      go_wp2_with fail
      refine (sameFace_any rv5 wv5 _ _ (lookR l).reads (lookR l).writes (lookR l).reads (lookR l).writes w5 hr7 hw7 hr6 hw6 hll.1 hll.2 hll.1 hll.2).mono ?_
      rintro e w7 ⟨rfl, hb7⟩
      have B8 := B6.trans (hb7.mono B6.size)
      simp only [decide_true, Bool.and_self]
      go_wp2
      go_ret
      exact ⟨by simp, B8⟩
    · refine wpOp_list rfl ?_
      simp only [tailsOf, List.filterMap_cons, List.filterMap_nil, if_true, if_false, reduceIte, Nat.reduceEqDiff, List.length_cons, List.length_nil, Nat.reduceAdd]
      clear hi
      go_wp2_with fail
      refine wpAlt_one _ _ _ _ rfl ?_
      simp only [List.filterMap_cons, List.filterMap_nil, List.getElem?_toArray, List.getElem?_cons_zero, List.getElem?_cons_succ]
      go_wp2_with fail
      refine (plain_any _ _ (lookR l).reads (lookR l).writes V hr3 hw3 hll.1 hll.2).mono ?_
      rintro e w5 ⟨rv5, wv5, rfl, hr5, hw5, hb5⟩
      have g0 := (hb5.cell (p := ⟨w3.heap.size, 0, none⟩) (by simp; omega)).trans p0
      have g1 := (hb5.cell (p := ⟨w3.heap.size, 1, none⟩) (by simp; omega)).trans p1
      have B6 := B5.trans (hb5.mono B5.size)
      have hr6 := ItS.below hr4 hb5
      have hw6 := ItS.below hw4 hb5
      have hr7 : ItS w5 (Old w5) rv5 (lookR l).reads := ItS.fit hr5 (fun b hb => hb.2)
      have hw7 : ItS w5 (Old w5) wv5 (lookR l).writes := ItS.fit hw5 (fun b hb => hb.2)
      clear hb5 hr5 hw5 p0 p1 o0 o1 hr3 hw3 hr4 hw4 B5
      go_wp2_with fail
      refine (sameFace_any rv5 wv5 _ _ (lookR l).reads (lookR l).writes (lookR l).reads (lookR l).writes w5 hr7 hw7 hr6 hw6 hll.1 hll.2 hll.1 hll.2).mono ?_
      rintro e w7 ⟨rfl, hb7⟩
      have B8 := B6.trans (hb7.mono B6.size)
      simp only [decide_true, Bool.and_self]
      go_wp2
      go_ret
      exact ⟨by simp, B8⟩
end Go.Proofs.Yteddcpblpkhoeaa
