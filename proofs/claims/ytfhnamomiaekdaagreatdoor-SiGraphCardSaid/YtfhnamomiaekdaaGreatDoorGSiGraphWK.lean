/-
  Walks: layer 12: two graphs, one behind the other.
-/
import Derived.Test.YtfhnamomiaekdaaGreatDoorGSiGraphWJ
set_option linter.unusedVariables false
set_option linter.unusedSimpArgs false
namespace Go.Proofs.YtfhnamomiaekdaaGreatDoor
open Go.RowKit Go.Inq
set_option maxHeartbeats 4000000
attribute [local go_sem ↓] Go.wp_at_zero Go.wp_at_succ

/-- The rows below k done, row k as far as some nodes. -/
def midE (n : Nat) (E F : Edges) (k : Nat) (l : List Nat) : Edges := fun a c => (decide (a < k) && thenE n E F a c) || (decide (a = k) && l.any fun b => F b c)
theorem midE_start (n : Nat) (E F : Edges) : midE n E F 0 [] = noE := by funext a c; simp [midE, noE]
theorem midE_step {n : Nat} {E F : Edges} {k y : Nat} {l : List Nat} (hk : k < n) : (rowsB n (midE n E F k l)).setIfInBounds k (.int .u64 (setB (midE n E F k l k) n ||| setB (F y) n : Nat)) = rowsB n (midE n E F k (l ++ [y])) := by
  rw [rowsB_set hk (setB_or (p := midE n E F k l k) (q := F y) (n := n))]
  refine rowsB_congr fun a b ha hb => ?_
  by_cases e : a = k
  · subst e; simp [midE]
  · simp [midE, e]
theorem midE_next {n : Nat} {E F : Edges} {k : Nat} : rowsB n (midE n E F k ((List.range n).filter (E k))) = rowsB n (midE n E F (k + 1) []) := by
  refine rowsB_congr fun a b ha hb => ?_
  unfold midE thenE
  by_cases e : a = k
  · subst e
    simp only [Nat.lt_irrefl, decide_false, Bool.false_and, Bool.false_or, decide_true, Bool.true_and, List.any_nil, Bool.and_false, Bool.or_false, Nat.lt_succ_self]
    rw [List.any_filter]
  · have : decide (a < k + 1) = decide (a < k) := by simp; omega
    simp [e, this]
theorem midE_all {n : Nat} {E F : Edges} : rowsB n (midE n E F n []) = rowsB n (thenE n E F) := rowsB_congr fun a b ha hb => by simp [midE, ha]
set_option maxRecDepth 100000 in
theorem comp12_any (n : Nat) (A A' : Option Addr) (c c' : Nat) (E F : Edges) (K : Nat → Prop) (w : World) (h : GrS w K n A c E) (h' : GrS w K n A' c' F) (hK : ∀ b, K b → b < w.heap.size) (hT : TabB w) :
    Calls Tryz.prog 100 #[.agg #[.int .i64 n, .slice A n c], .agg #[.int .i64 n, .slice A' n c']] w (OutG w n (thenE n E F)) := by
  obtain ⟨W0, hW0⟩ : ∃ W0, ((w.alloc (.cells #[.int .i64 n, .slice A n c] 77)).alloc (.cells #[.int .i64 n, .slice A' n c'] 77)).alloc (.cells #[.int .i64 0, .slice none 0 0] 77) = W0 := ⟨_, rfl⟩
  have hB := below_three hW0
  have hs0 := size_three hW0
  have k0 := Blk.three1 hW0
  have k1 := Blk.three2 hW0
  have k2 := Blk.three3 hW0
  have hg := hide (h.keep (Agree.below hB hK) (fun b hb => hb))
  have hg' := hide (h'.keep (Agree.below hB hK) (fun b hb => hb))
  have hn := h.n64
  replace hK := hide hK
  have hKW : Hid (∀ b, K b → b < W0.heap.size) := hide fun b hb => by have := hK.out b hb; omega
  clear h h'
  replace hs0 := hide hs0
  have c0 := k0.cell 0
  have c1 := k0.cell 1
  have e0 := k1.cell 0
  have e1 := k1.cell 1
  simp only [List.getElem?_toArray, List.getElem?_cons_zero, List.getElem?_cons_succ] at c0 c1 e0 e1
  go_enter Tryz.func100, Tryz.ntmps100
  go_wp2_with fail
  clear hW0 c0 c1 e0 e1
  refine (like12_any n A A' c c' E F K _ hg.out hg'.out hKW.out).mono ?_
  rintro e w1 ⟨rfl, hb1⟩
  have hs1 : w.heap.size + 3 ≤ w1.heap.size := by have := hb1.size; have := hs0.out; omega
  have hga := hide (hg.out.keep (Agree.below hb1 hKW.out) (fun b hb => hb))
  have hgb := hide (hg'.out.keep (Agree.below hb1 hKW.out) (fun b hb => hb))
  replace k0 := k0.below hb1 k0.lt
  replace k1 := k1.below hb1 k1.lt
  replace k2 := k2.below hb1 k2.lt
  have hb2 := hB.trans (hb1.mono hB.size)
  clear hg hg' hb1 hB hKW hs0
  have c0 := k0.cell 0
  simp only [List.getElem?_toArray, List.getElem?_cons_zero, List.getElem?_cons_succ] at c0
  go_wp2_with fail
  refine (new12_any n hn _).mono ?_
  rintro e w2 ⟨g, hgs, rfl, kR, hb3⟩
  have hK1 : ∀ b, K b → b < w1.heap.size := fun b hb => by have := hK.out b hb; omega
  replace hga := hide (hga.out.keep (Agree.below hb3 hK1) (fun b hb => hb))
  replace hgb := hide (hgb.out.keep (Agree.below hb3 hK1) (fun b hb => hb))
  replace k0 := k0.below hb3 k0.lt
  replace k1 := k1.below hb3 k1.lt
  replace k2 := k2.below hb3 k2.lt
  replace hb2 := hb2.trans (hb3.mono hb2.size)
  have hs2 : w1.heap.size ≤ w2.heap.size := hb3.size
  have hgl := kR.lt
  clear hb3 hK1 c0
  obtain ⟨W3, hW3⟩ : ∃ W3, w2.alloc (.cells #[.int .i64 n, .slice (some ⟨g, 0, none⟩) n n] 77) = W3 := ⟨_, rfl⟩
  have k3 := Blk.newEq hW3
  have hs3 := size_allocEq hW3
  replace k0 := k0.allocEq hW3
  replace k1 := k1.allocEq hW3
  replace k2 := k2.allocEq hW3
  replace kR := kR.allocEq hW3
  have hb5 := below_allocEq hb2 hW3 (by omega)
  have hKw : ∀ b, K b → b < w2.heap.size := fun b hb => by have := hK.out b hb; omega
  replace hga := hide (hga.out.keep (Agree.allocEq hW3 hKw) (fun b hb => hb))
  replace hgb := hide (hgb.out.keep (Agree.allocEq hW3 hKw) (fun b hb => hb))
  have hgL : g ≤ W3.heap.size := by omega
  have hg2 : w2.heap.size < W3.heap.size := by omega
  have hKg : Hid (∀ b, K b → b < g) := hide fun b hb => by have := hK.out b hb; omega
  have hT3 := hide (hT.below hb5)
  have hgl3 : 0 < w.heap.size := hT.lt
  replace hs3 := hide hs3
  clear hb2 hKw
  have d1 := k3.cell 1
  simp only [List.getElem?_toArray, List.getElem?_cons_zero, List.getElem?_cons_succ] at d1
  go_wp2_with fail
  clear d1
  have hz := hide (midE_start n E F)
  go_loopw [25] (fun s25 wr => ∃ k : Nat, k ≤ n ∧ s25 = .int .i64 k ∧ Blk wr g 172 (rowsB n (midE n E F k [])) ∧ W3.grownBy wr (some g)) (fun s25 _ => n - (intOf s25).toNat)
  case atStart => exact ⟨0, Nat.zero_le _, by go_num, by rw [hz.out]; exact kR, World.grownBy.refl _ _⟩
  case round =>
    obtain ⟨Wo, rfl⟩ : ∃ Wo, Wo = wr := ⟨_, rfl⟩
    obtain ⟨k, hk, rfl, kRw, hgw⟩ := hrel
    have hi1 : (0 : Int) ≤ (k : Int) := Int.natCast_nonneg _
    have hszw := hgw.size
    by_cases hlt : k < n
    · have hi2 : (k : Int) < (n : Int) := by omega
      have m0 := k0.grown hgw (by simp; omega)
      obtain ⟨ab, ao, rfl, _, hca⟩ := (hga.out.keep (Agree.ofGrown hgw hKg.out hgL) (fun b hb => hb)).at_ hlt
      have h64a := hide (setB_64 (p := E k) hn)
      have hbw := below_grown hb5 hgw hb5.size (by intro k hk; injection hk with hk; omega)
      have hTw := hT.below hbw
      have c1 := m0.cell 1
      simp only [List.getElem?_toArray, List.getElem?_cons_zero, List.getElem?_cons_succ] at c1
      go_wp2_with fail
      refine (list10_any _ h64a.out _ hTw).mono ?_
      rintro e wl ⟨v, rfl, hl, hbl⟩
      rw [listB_setB hn] at hl
      have hnx := hide (midE_next (n := n) (E := E) (F := F) (k := k))
      have hLn : ((List.range n).filter (E k)).length ≤ n := Nat.le_trans (List.length_filter_le _ _) (by simp)
      have hLm := hide (fun b (hb : b ∈ (List.range n).filter (E k)) => (List.mem_range.1 (List.mem_filter.1 hb).1 : b < n))
      generalize (List.range n).filter (E k) = L at *
      obtain ⟨Al, cl, hv⟩ := hl.form
      rw [intsN_len] at hv
      subst hv
      have hglw := kRw.lt
      have hszl := hbl.size
      have hLS := hide (hl.sl (K := fun b => g < b ∧ b < wl.heap.size) (fun b h1 h2 => ⟨by omega, h2⟩))
      have hgl5 := grown_trans hgw (grown_below hbl (Nat.le_refl _))
      have kRl := kRw.below hbl kRw.lt
      clear hl hbl hbw hTw kRw hgw c1 m0 hca h64a
      go_wp2_with fail
      go_loopw [35] (fun s35 wq => ∃ j : Nat, j ≤ L.length ∧ s35 = .int .i64 j ∧ Blk wq g 172 (rowsB n (midE n E F k (L.take j))) ∧ wl.grownBy wq (some g)) (fun s35 _ => L.length - (intOf s35).toNat)
      case atStart => exact ⟨0, Nat.zero_le _, by go_num, by simpa using kRl, World.grownBy.refl _ _⟩
      case round =>
        clear kRl
        obtain ⟨j, hj, rfl, kRw, hgw⟩ := hrel
        have hj1 : (0 : Int) ≤ (j : Int) := Int.natCast_nonneg _
        have hszq := hgw.size
        by_cases hjl : j < L.length
        · have hj2 : (j : Int) < (L.length : Int) := by omega
          obtain ⟨bl, ol, rfl, _, hcl⟩ := (hLS.out.keep (Agree.grown hgw fun b hb => ⟨hb.2, by simp; omega⟩) (fun b h => h)).at_ (i := j) (by rw [intsN_len]; exact hjl)
          rw [intsN_at hjl] at hcl
          have htk := hide (take_snoc' hjl)
          have hbn := hLm.out _ (List.getElem_mem hjl)
          generalize L[j] = b at *
          have hstep := hide (midE_step (n := n) (E := E) (F := F) (k := k) (y := b) (l := L.take j) hlt)
          have hgq := grown_trans hgl5 hgw
          have m1 := k1.grown hgq (by simp; omega)
          have m3 := k3.grown hgq (by simp; omega)
          obtain ⟨bb, bo, rfl, _, hcb⟩ := (hgb.out.keep (Agree.ofGrown hgq hKg.out hgL) (fun b hb => hb)).at_ hbn
          have h64a := hide (setB_64 (p := midE n E F k (L.take j) k) hn)
          have h64b := hide (setB_64 (p := F b) hn)
          have hj := hide (joinL_two (setB (midE n E F k (L.take j) k) n) (setB (F b) n))
          have e1 := m1.cell 1
          have d1 := m3.cell 1
          have f0 := kRw.frozen k
          have r0 := kRw.cell k
          rw [rowsB_at hlt] at r0
          generalize setB (midE n E F k (L.take j) k) n = x at *
          generalize setB (F b) n = y at *
          have d1n := (m3.alloc (.cells #[.int .u64 (x : Nat), .int .u64 (y : Nat)] 172)).cell 1
          simp only [List.getElem?_toArray, List.getElem?_cons_zero, List.getElem?_cons_succ] at e1 d1 d1n
          have hb1 : (0 : Int) ≤ (b : Int) := Int.natCast_nonneg _
          have hb2 : (b : Int) < (n : Int) := by omega
          have hglq := kRw.lt
          clear m1 m3 hgq
          go_wp2_with fail
          refine wp_region_alts [0, 2, 3, 4, 5, 6, 7, 8, 9, 10, 11, 12] [1, 13, 14, 15, 16] [[1, 13, 14, 15, 16], [13, 1, 14, 15, 16], [13, 14, 1, 15, 16]] (by kernel_rfl) (by kernel_rfl) (fun _ _ d _ _ h => by cases d <;> exact h) ?_
          simp only [List.filterMap_cons, List.filterMap_nil, List.getElem?_cons_zero, List.getElem?_cons_succ]
          repeat still_step
          refine wpStill_nil ?_
          have kN := hide (U64S.of_blk (l := [x, y]) (K := fun _ => True) ((Blk.new wr 172 #[.int .u64 (x : Nat), .int .u64 (y : Nat)]).drew) trivial)
          have hxy := hide (show ∀ z ∈ [x, y], z < 18446744073709551616 from by intro z hz; simp at hz; rcases hz with rfl | rfl; exact h64a.out; exact h64b.out)
          clear h64a h64b
          intro i hi
          simp only [List.filterMap_cons, List.head?_cons, List.filterMap_nil, List.mem_cons, List.not_mem_nil, or_false, or_self] at hi
          obtain rfl | rfl : i = 1 ∨ i = 13 := by omega
          · refine wpOp_list rfl ?_
            simp only [tailsOf, List.filterMap_cons, List.filterMap_nil, if_true, if_false, reduceIte, Nat.reduceEqDiff, List.length_cons, List.length_nil, Nat.reduceAdd]
            go_wp2_with fail
            refine wpAlt_one _ _ _ _ rfl ?_
            simp only [List.filterMap_cons, List.filterMap_nil, List.getElem?_toArray, List.getElem?_cons_zero, List.getElem?_cons_succ]
            go_wp2_with fail
            refine (join10_any (some ⟨wr.heap.size, 0, none⟩) 2 2 [x, y] (fun _ => True) _ rfl kN.out hxy.out (by omega)).mono ?_
            rintro e w5 ⟨rfl, rfl⟩
            rw [hj.out]
            go_wp2_with fail
            go_wp2
            go_roundw
            case rel => exact ⟨j + 1, by omega, by go_num, by rw [htk.out, ← hstep.out]; exact (kRw.set_ k _).alloc _, grown_trans (grown_trans (grown_trans hgw (grown_set g k _)) (World.grownBy_alloc _ _ _)) grown_drew⟩
            case measure => simp [intOf]; omega
          · refine wpOp_list rfl ?_
            simp only [tailsOf, List.filterMap_cons, List.filterMap_nil, if_true, if_false, reduceIte, Nat.reduceEqDiff, List.length_cons, List.length_nil, Nat.reduceAdd]
            go_wp2_with fail
            intro i hi
            simp only [List.filterMap_cons, List.head?_cons, List.filterMap_nil, List.mem_cons, List.not_mem_nil, or_false, or_self] at hi
            obtain rfl | rfl : i = 1 ∨ i = 14 := by omega
            · refine wpOp_list rfl ?_
              simp only [tailsOf, List.filterMap_cons, List.filterMap_nil, if_true, if_false, reduceIte, Nat.reduceEqDiff, List.length_cons, List.length_nil, Nat.reduceAdd]
              go_wp2_with fail
              refine wpAlt_one _ _ _ _ rfl ?_
              simp only [List.filterMap_cons, List.filterMap_nil, List.getElem?_toArray, List.getElem?_cons_zero, List.getElem?_cons_succ]
              go_wp2_with fail
              refine (join10_any (some ⟨wr.heap.size, 0, none⟩) 2 2 [x, y] (fun _ => True) _ rfl kN.out hxy.out (by omega)).mono ?_
              rintro e w5 ⟨rfl, rfl⟩
              rw [hj.out]
              go_wp2_with fail
              go_wp2
              go_roundw
              case rel => exact ⟨j + 1, by omega, by go_num, by rw [htk.out, ← hstep.out]; exact (kRw.set_ k _).alloc _, grown_trans (grown_trans (grown_trans hgw (grown_set g k _)) (World.grownBy_alloc _ _ _)) grown_drew⟩
              case measure => simp [intOf]; omega
            · refine wpOp_list rfl ?_
              simp only [tailsOf, List.filterMap_cons, List.filterMap_nil, if_true, if_false, reduceIte, Nat.reduceEqDiff, List.length_cons, List.length_nil, Nat.reduceAdd]
              go_wp2_with fail
              refine (join10_any (some ⟨wr.heap.size, 0, none⟩) 2 2 [x, y] (fun _ => True) _ rfl kN.out hxy.out (by omega)).mono ?_
              rintro e w5 ⟨rfl, rfl⟩
              rw [hj.out]
              go_wp2_with fail
              refine wpAlt_one _ _ _ _ rfl ?_
              simp only [List.filterMap_cons, List.filterMap_nil, List.getElem?_toArray, List.getElem?_cons_zero, List.getElem?_cons_succ]
              go_wp2
              go_roundw
              case rel => exact ⟨j + 1, by omega, by go_num, by rw [htk.out, ← hstep.out]; exact (kRw.set_ k _).alloc _, grown_trans (grown_trans (grown_trans hgw (grown_set g k _)) (World.grownBy_alloc _ _ _)) grown_drew⟩
              case measure => simp [intOf]; omega
        · obtain rfl : j = L.length := by omega
          rw [List.take_length, hnx.out] at kRw
          go_wp2
          go_roundw
          case rel => exact ⟨k + 1, by omega, by go_num, kRw, grown_trans hgl5 hgw⟩
          case measure => simp [intOf]; omega
    · obtain rfl : k = n := by omega
      have hall := hide (midE_all (n := k) (E := E) (F := F))
      have m2 := k2.grown hgw (by simp; omega)
      have m3 := k3.grown hgw (by simp; omega)
      have d0 := m3.cell 0
      have d1 := m3.cell 1
      have j0 := m2.cell 0
      have j1 := m2.cell 1
      simp only [List.getElem?_toArray, List.getElem?_cons_zero, List.getElem?_cons_succ] at d0 d1 j0 j1
      have jf := m2.frozen 0
      have jf1 := m2.frozen 1
      have hbF := below_grown hb5 hgw hb5.size (by intro k hk; injection hk with hk; omega)
      rw [hall.out] at kRw
      go_wp2
      have n1 : g ≠ w.heap.size + 1 + 1 := by omega
      have kF0 := ((kRw.far (p := ⟨w.heap.size + 1 + 1, 0, none⟩) n1 (.int .i64 k)).far (p := ⟨w.heap.size + 1 + 1, 1, none⟩) n1 (.slice (some ⟨g, 0, none⟩) k k))
      have hF := ((hbF.setCell (p := ⟨w.heap.size + 1 + 1, 0, none⟩) (by simp; omega) (.int .i64 k)).setCell (p := ⟨w.heap.size + 1 + 1, 1, none⟩) (by simp; omega) (.slice (some ⟨g, 0, none⟩) k k))
      exact bodyPost_ret (v := .tuple #[.agg #[.int .i64 k, .slice (some ⟨g, 0, none⟩) k k], .int .i64 0]) (by simp [results, Tryz.results100, go_sem, j0, j1]) rfl ⟨g, by omega, rfl, kF0, hF⟩
end Go.Proofs.YtfhnamomiaekdaaGreatDoor
