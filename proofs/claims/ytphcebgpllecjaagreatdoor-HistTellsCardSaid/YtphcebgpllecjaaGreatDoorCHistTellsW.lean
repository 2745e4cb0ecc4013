/-
  Walks: HistTells.
-/
import Derived.Test.YtphcebgpllecjaaGreatDoorC34
import Derived.Test.YtphcebgpllecjaaGreatDoorC37
import Derived.Test.YtphcebgpllecjaaGreatDoorC40
import Derived.Test.YtphcebgpllecjaaGreatDoorC06
set_option linter.unusedVariables false
set_option linter.unusedSimpArgs false
namespace Go.Proofs.YtphcebgpllecjaaGreatDoor
open Go.RowKit Go.Inq
set_option maxHeartbeats 4000000
attribute [local go_sem ↓] Go.wp_at_zero Go.wp_at_succ

set_option maxRecDepth 100000 in
theorem histTells_any (s : ByteArray) (A : Option Addr) (c : Nat) (H : List Txn) (w : World) (hs : s.size ≤ maxLen) (h : TxnS w (Old w) (.slice A H.length c) H) (hn : H.length ≤ maxLen) (hns : ∀ t ∈ H, t.writes.length ≤ maxLen ∧ t.reads.length ≤ maxLen) (henv : Env w) :
    Calls Tryz.prog 3 #[.string s, .agg #[.slice A H.length c]] w fun e w' => e = .returned (.bool true) ∧ Below w.heap.size w w' := by
  have hs2 : s.size ≤ 9223372036854775807 := hs
  have hA : Below w.heap.size w (w.alloc (.cells #[.slice A H.length c] 24)) := (Below.refl _ _).alloc (Nat.le_refl _) _
  have k0 : Blk (w.alloc (.cells #[.slice A H.length c] 24)) w.heap.size 24 #[.slice A H.length c] := Blk.new _ _ _
  have h0 := TxnS.below h hA
  have e0 := henv.below hA
  go_enter Tryz.func3, Tryz.ntmps3
  go_wp2_with fail
  refine (awake8_any _ e0).mono ?_
  rintro e w1 ⟨rfl, hb1⟩
  have k1 := k0.below hb1 k0.lt
  have h1 := TxnS.below h0 hb1
  have e1 := e0.below hb1
  have B1 := hA.trans (hb1.mono hA.size)
  clear k0 h0 e0 hA hb1
  have y0 := k1.cell 0
  simp only [List.getElem?_toArray, List.getElem?_cons_zero] at y0
  go_wp2_with fail
  refine (few8_any A c H w1 h1 hn hns).mono ?_
  rintro e w2 ⟨rfl, hb2⟩
  have k2 := k1.below hb2 k1.lt
  have h2 := TxnS.below h1 hb2
  have e2 := e1.below hb2
  have B2 := B1.trans (hb2.mono B1.size)
  clear k1 h1 e1 B1 hb2 y0
  have y0 := k2.cell 0
  simp only [List.getElem?_toArray, List.getElem?_cons_zero] at y0
  by_cases q0 : 4000 < s.size
  · have d0 : decide ((s.size : Int) > 4000) = true := by simp; omega
    go_wp2
    all_goals
      go_ret
      exact ⟨by simp, B2⟩
  have d0 : decide ((s.size : Int) > 4000) = false := by simp; omega
  have q3 : s.size ≤ 1000000 := by omega
  clear q0
  dsimp only
  cases hf : fewH H with
  | false =>
    go_wp2
    go_ret
    exact ⟨rfl, B2⟩
  | true =>
    have hsH := fewH_small hf
    clear hf hns
    have hsP := parseH_small s.data.toList
    have hpc := parse8_any s w2 q3 e2
    have hpc2 := fun W => rparse8_any s W q3
    generalize parseH s.data.toList = P at *
    obtain ⟨G, at_, er⟩ := P
    dsimp only at hsP
    go_wp2_with fail
    refine hpc.mono ?_
    clear hpc
    intro e w3 ho
    obtain ⟨A3, c3, rfl, r3, hb3⟩ := ho.open
    dsimp only at r3
    clear ho
    have hb4 := hb3.alloc hb3.size (.cells #[.slice A3 G.length c3] 24)
    have g4 : Blk (w3.alloc (.cells #[.slice A3 G.length c3] 24)) w3.heap.size 24 #[.slice A3 G.length c3] := Blk.new _ _ _
    have r4 := TxnS.below r3 ((Below.refl _ _).alloc (Nat.le_refl _) (.cells #[.slice A3 G.length c3] 24))
    have k4 := k2.below hb4 k2.lt
    have h4 := TxnS.below h2 hb4
    have e4 := e2.below hb4
    have B4 := B2.trans (hb4.mono B2.size)
    clear k2 h2 e2 B2 hb3 hb4 r3 y0
    go_wp2_with fail
    refine (hpc2 _).mono ?_
    clear hpc2
    intro e w5 ho
    obtain ⟨A5, c5, rfl, r5, hb5⟩ := ho.open
    dsimp only at r5
    clear ho
    have hb6 := hb5.alloc hb5.size (.cells #[.slice A5 G.length c5] 24)
    have b6 : Blk (w5.alloc (.cells #[.slice A5 G.length c5] 24)) w5.heap.size 24 #[.slice A5 G.length c5] := Blk.new _ _ _
    have r6 := TxnS.below r5 ((Below.refl _ _).alloc (Nat.le_refl _) (.cells #[.slice A5 G.length c5] 24))
    have g6 := g4.below hb6 g4.lt
    have q6 := TxnS.below r4 hb6
    have k6 := k4.below hb6 k4.lt
    have h6 := TxnS.below h4 hb6
    have e6 := e4.below hb6
    have B6 := B4.trans (hb6.mono B4.size)
    clear k4 h4 e4 B4 hb5 hb6 r5 r4 g4
    have y0 := k6.cell 0
    simp only [List.getElem?_toArray, List.getElem?_cons_zero] at y0
    go_wp2_with fail
    refine (show8_any A c H _ h6 hsH e6).mono ?_
    rintro e w7 ⟨rfl, hb7⟩
    have k7 := k6.below hb7 k6.lt
    have h7 := TxnS.below h6 hb7
    have g7 := g6.below hb7 g6.lt
    have b7 := b6.below hb7 b6.lt
    have q7 := TxnS.below q6 hb7
    have r7 := TxnS.below r6 hb7
    have B7 := B6.trans (hb7.mono B6.size)
    clear k6 h6 g6 b6 q6 r6 e6 B6 hb7 y0
    have y0 := k7.cell 0
    simp only [List.getElem?_toArray, List.getElem?_cons_zero] at y0
    go_wp2_with fail
    refine (show08_any A c H _ h7 hsH).mono ?_
    rintro e w8 ⟨rfl, hb8⟩
    have k8 := k7.below hb8 k7.lt
    have h8 := TxnS.below h7 hb8
    have g8 := g7.below hb8 g7.lt
    have b8 := b7.below hb8 b7.lt
    have q8 := TxnS.below q7 hb8
    have r8 := TxnS.below r7 hb8
    have B8 := B7.trans (hb8.mono B7.size)
    clear k7 h7 g7 b7 q7 r7 B7 hb8 y0
    have y0 := k8.cell 0
    have z0 := g8.cell 0
    have x0 := b8.cell 0
    simp only [List.getElem?_toArray, List.getElem?_cons_zero] at y0 z0 x0
    generalize showH H = sh at *
    obtain ⟨tx, sf⟩ := sh
    have b1_ : (at_ == at_) = true := by simp
    have b2_ : (er == er) = true := by simp
    have b4_ : (sf == sf) = true := by simp
    go_wp2_with fail
    refine wp_region_alts [0, 1] [2, 3, 4, 5, 6, 7, 8, 9, 10, 11, 12, 13, 14, 15, 16, 17, 18, 19, 20, 21, 22, 23, 24, 25, 26, 27, 28, 29, 30] [[2, 3, 4, 5, 6, 7, 8, 9, 10, 11, 12, 13, 14, 15, 16, 17, 18, 19, 20, 21, 22, 23, 24, 25, 26, 27, 28, 29, 30], [2, 3, 4, 5, 6, 7, 8, 9, 10, 11, 12, 13, 14, 15, 16, 17, 18, 19, 20, 21, 22, 23, 24, 26, 25, 27, 28, 29, 30], [2, 3, 4, 5, 6, 7, 8, 9, 10, 11, 12, 13, 14, 15, 16, 17, 18, 19, 20, 21, 22, 23, 26, 24, 25, 27, 28, 29, 30]] (by kernel_rfl) (by kernel_rfl) (fun _ _ d _ _ h => by cases d <;> exact h) ?_
    simp only [List.filterMap_cons, List.filterMap_nil, List.getElem?_cons_zero, List.getElem?_cons_succ]
    repeat still_step
    refine wpStill_nil ?_
    replace B8 : Below w.heap.size w w8.drew := B8.drew
    replace k8 : Blk w8.drew w.heap.size 24 _ := k8
    replace h8 : TxnS w8.drew (Old w8.drew) _ _ := h8
    replace q8 : TxnS w8.drew (Old w8.drew) _ _ := q8
    replace r8 : TxnS w8.drew (Old w8.drew) _ _ := r8
    clear g8 b8 y0 z0 x0
    generalize w8.drew = W8 at *
    intro iq hiq
    have hiq : iq = 2 := by
      simp only [List.filterMap_cons, List.head?_cons, List.filterMap_nil, List.mem_cons, List.not_mem_nil, or_false, or_self] at hiq
      omega
    cases hiq
    refine wpOp_list rfl ?_
    simp only [tailsOf, List.filterMap_cons, List.filterMap_nil, if_true, if_false, reduceIte, Nat.reduceEqDiff, List.length_cons, List.length_nil, Nat.reduceAdd]
    go_wp2_with fail
    refine (same07_any A3 A5 c3 c5 G G _ q8 r8 hsP hsP).mono ?_
    rintro e w9 ⟨rfl, hb9⟩
    simp only [decide_true]
    have k9 := k8.below hb9 k8.lt
    have h9 := TxnS.below h8 hb9
    have B9 := B8.trans (hb9.mono B8.size)
    clear k8 h8 q8 r8 B8 hb9
    have y0 := k9.cell 0
    simp only [List.getElem?_toArray, List.getElem?_cons_zero] at y0
    go_wp2_with fail
    intro iq hiq
    have hiq : iq = 3 := by
      simp only [List.filterMap_cons, List.head?_cons, List.filterMap_nil, List.mem_cons, List.not_mem_nil, or_false, or_self] at hiq
      omega
    cases hiq
    refine wpOp_list rfl ?_
    simp only [tailsOf, List.filterMap_cons, List.filterMap_nil, if_true, if_false, reduceIte, Nat.reduceEqDiff, List.length_cons, List.length_nil, Nat.reduceAdd]
    go_wp2_with fail
    intro iq hiq
    have hiq : iq = 4 := by
      simp only [List.filterMap_cons, List.head?_cons, List.filterMap_nil, List.mem_cons, List.not_mem_nil, or_false, or_self] at hiq
      omega
    cases hiq
    refine wpOp_list rfl ?_
    simp only [tailsOf, List.filterMap_cons, List.filterMap_nil, if_true, if_false, reduceIte, Nat.reduceEqDiff, List.length_cons, List.length_nil, Nat.reduceAdd]
    go_wp2_with fail
    intro iq hiq
    have hiq : iq = 5 := by
      simp only [List.filterMap_cons, List.head?_cons, List.filterMap_nil, List.mem_cons, List.not_mem_nil, or_false, or_self] at hiq
      omega
    cases hiq
    refine wpOp_list rfl ?_
    simp only [tailsOf, List.filterMap_cons, List.filterMap_nil, if_true, if_false, reduceIte, Nat.reduceEqDiff, List.length_cons, List.length_nil, Nat.reduceAdd]
    go_wp2_with fail
    intro iq hiq
    have hiq : iq = 6 := by
      simp only [List.filterMap_cons, List.head?_cons, List.filterMap_nil, List.mem_cons, List.not_mem_nil, or_false, or_self] at hiq
      omega
    cases hiq
    refine wpOp_list rfl ?_
    simp only [tailsOf, List.filterMap_cons, List.filterMap_nil, if_true, if_false, reduceIte, Nat.reduceEqDiff, List.length_cons, List.length_nil, Nat.reduceAdd]
    go_wp2_with fail
    intro iq hiq
    have hiq : iq = 7 := by
      simp only [List.filterMap_cons, List.head?_cons, List.filterMap_nil, List.mem_cons, List.not_mem_nil, or_false, or_self] at hiq
      omega
    cases hiq
    refine wpOp_list rfl ?_
    simp only [tailsOf, List.filterMap_cons, List.filterMap_nil, if_true, if_false, reduceIte, Nat.reduceEqDiff, List.length_cons, List.length_nil, Nat.reduceAdd]
    go_wp2_with fail
    intro iq hiq
    have hiq : iq = 8 := by
      simp only [List.filterMap_cons, List.head?_cons, List.filterMap_nil, List.mem_cons, List.not_mem_nil, or_false, or_self] at hiq
      omega
    cases hiq
    refine wpOp_list rfl ?_
    simp only [tailsOf, List.filterMap_cons, List.filterMap_nil, if_true, if_false, reduceIte, Nat.reduceEqDiff, List.length_cons, List.length_nil, Nat.reduceAdd]
    go_wp2_with fail
    intro iq hiq
    have hiq : iq = 9 := by
      simp only [List.filterMap_cons, List.head?_cons, List.filterMap_nil, List.mem_cons, List.not_mem_nil, or_false, or_self] at hiq
      omega
    cases hiq
    refine wpOp_list rfl ?_
    simp only [tailsOf, List.filterMap_cons, List.filterMap_nil, if_true, if_false, reduceIte, Nat.reduceEqDiff, List.length_cons, List.length_nil, Nat.reduceAdd]
    go_wp2_with fail
    intro iq hiq
    have hiq : iq = 10 := by
      simp only [List.filterMap_cons, List.head?_cons, List.filterMap_nil, List.mem_cons, List.not_mem_nil, or_false, or_self] at hiq
      omega
    cases hiq
    refine wpOp_list rfl ?_
    simp only [tailsOf, List.filterMap_cons, List.filterMap_nil, if_true, if_false, reduceIte, Nat.reduceEqDiff, List.length_cons, List.length_nil, Nat.reduceAdd]
    go_wp2_with fail
    intro iq hiq
    have hiq : iq = 11 := by
      simp only [List.filterMap_cons, List.head?_cons, List.filterMap_nil, List.mem_cons, List.not_mem_nil, or_false, or_self] at hiq
      omega
    cases hiq
    refine wpOp_list rfl ?_
    simp only [tailsOf, List.filterMap_cons, List.filterMap_nil, if_true, if_false, reduceIte, Nat.reduceEqDiff, List.length_cons, List.length_nil, Nat.reduceAdd]
    go_wp2_with fail
    intro iq hiq
    have hiq : iq = 12 := by
      simp only [List.filterMap_cons, List.head?_cons, List.filterMap_nil, List.mem_cons, List.not_mem_nil, or_false, or_self] at hiq
      omega
    cases hiq
    refine wpOp_list rfl ?_
    simp only [tailsOf, List.filterMap_cons, List.filterMap_nil, if_true, if_false, reduceIte, Nat.reduceEqDiff, List.length_cons, List.length_nil, Nat.reduceAdd]
    go_wp2_with fail
    intro iq hiq
    have hiq : iq = 13 := by
      simp only [List.filterMap_cons, List.head?_cons, List.filterMap_nil, List.mem_cons, List.not_mem_nil, or_false, or_self] at hiq
      omega
    cases hiq
    refine wpOp_list rfl ?_
    simp only [tailsOf, List.filterMap_cons, List.filterMap_nil, if_true, if_false, reduceIte, Nat.reduceEqDiff, List.length_cons, List.length_nil, Nat.reduceAdd]
    go_wp2_with fail
    intro iq hiq
    have hiq : iq = 14 := by
      simp only [List.filterMap_cons, List.head?_cons, List.filterMap_nil, List.mem_cons, List.not_mem_nil, or_false, or_self] at hiq
      omega
    cases hiq
    refine wpOp_list rfl ?_
    simp only [tailsOf, List.filterMap_cons, List.filterMap_nil, if_true, if_false, reduceIte, Nat.reduceEqDiff, List.length_cons, List.length_nil, Nat.reduceAdd]
    go_wp2_with fail
    intro iq hiq
    have hiq : iq = 15 := by
      simp only [List.filterMap_cons, List.head?_cons, List.filterMap_nil, List.mem_cons, List.not_mem_nil, or_false, or_self] at hiq
      omega
    cases hiq
    refine wpOp_list rfl ?_
    simp only [tailsOf, List.filterMap_cons, List.filterMap_nil, if_true, if_false, reduceIte, Nat.reduceEqDiff, List.length_cons, List.length_nil, Nat.reduceAdd]
    go_wp2_with fail
    intro iq hiq
    have hiq : iq = 16 := by
      simp only [List.filterMap_cons, List.head?_cons, List.filterMap_nil, List.mem_cons, List.not_mem_nil, or_false, or_self] at hiq
      omega
    cases hiq
    refine wpOp_list rfl ?_
    simp only [tailsOf, List.filterMap_cons, List.filterMap_nil, if_true, if_false, reduceIte, Nat.reduceEqDiff, List.length_cons, List.length_nil, Nat.reduceAdd]
    go_wp2_with fail
    intro iq hiq
    have hiq : iq = 17 := by
      simp only [List.filterMap_cons, List.head?_cons, List.filterMap_nil, List.mem_cons, List.not_mem_nil, or_false, or_self] at hiq
      omega
    cases hiq
    refine wpOp_list rfl ?_
    simp only [tailsOf, List.filterMap_cons, List.filterMap_nil, if_true, if_false, reduceIte, Nat.reduceEqDiff, List.length_cons, List.length_nil, Nat.reduceAdd]
    go_wp2_with fail
    intro iq hiq
    have hiq : iq = 18 := by
      simp only [List.filterMap_cons, List.head?_cons, List.filterMap_nil, List.mem_cons, List.not_mem_nil, or_false, or_self] at hiq
      omega
    cases hiq
    refine wpOp_list rfl ?_
    simp only [tailsOf, List.filterMap_cons, List.filterMap_nil, if_true, if_false, reduceIte, Nat.reduceEqDiff, List.length_cons, List.length_nil, Nat.reduceAdd]
    go_wp2_with fail
    intro iq hiq
    have hiq : iq = 19 := by
      simp only [List.filterMap_cons, List.head?_cons, List.filterMap_nil, List.mem_cons, List.not_mem_nil, or_false, or_self] at hiq
      omega
    cases hiq
    refine wpOp_list rfl ?_
    simp only [tailsOf, List.filterMap_cons, List.filterMap_nil, if_true, if_false, reduceIte, Nat.reduceEqDiff, List.length_cons, List.length_nil, Nat.reduceAdd]
    go_wp2_with fail
    intro iq hiq
    have hiq : iq = 20 := by
      simp only [List.filterMap_cons, List.head?_cons, List.filterMap_nil, List.mem_cons, List.not_mem_nil, or_false, or_self] at hiq
      omega
    cases hiq
    refine wpOp_list rfl ?_
    simp only [tailsOf, List.filterMap_cons, List.filterMap_nil, if_true, if_false, reduceIte, Nat.reduceEqDiff, List.length_cons, List.length_nil, Nat.reduceAdd]
    go_wp2_with fail
    intro iq hiq
    have hiq : iq = 21 := by
      simp only [List.filterMap_cons, List.head?_cons, List.filterMap_nil, List.mem_cons, List.not_mem_nil, or_false, or_self] at hiq
      omega
    cases hiq
    refine wpOp_list rfl ?_
    simp only [tailsOf, List.filterMap_cons, List.filterMap_nil, if_true, if_false, reduceIte, Nat.reduceEqDiff, List.length_cons, List.length_nil, Nat.reduceAdd]
    go_wp2_with fail
    intro iq hiq
    have hiq : iq = 22 := by
      simp only [List.filterMap_cons, List.head?_cons, List.filterMap_nil, List.mem_cons, List.not_mem_nil, or_false, or_self] at hiq
      omega
    cases hiq
    refine wpOp_list rfl ?_
    simp only [tailsOf, List.filterMap_cons, List.filterMap_nil, if_true, if_false, reduceIte, Nat.reduceEqDiff, List.length_cons, List.length_nil, Nat.reduceAdd]
    go_wp2_with fail
    intro iq hiq
    have hiq : iq = 23 := by
      simp only [List.filterMap_cons, List.head?_cons, List.filterMap_nil, List.mem_cons, List.not_mem_nil, or_false, or_self] at hiq
      omega
    cases hiq
    refine wpOp_list rfl ?_
    simp only [tailsOf, List.filterMap_cons, List.filterMap_nil, if_true, if_false, reduceIte, Nat.reduceEqDiff, List.length_cons, List.length_nil, Nat.reduceAdd]
    go_wp2_with fail
    intro i hi
    simp only [List.filterMap_cons, List.head?_cons, List.filterMap_nil, List.mem_cons, List.not_mem_nil, or_false, or_self] at hi
    obtain rfl | rfl : i = 24 ∨ i = 26 := by omega
    · refine wpOp_list rfl ?_
      simp only [tailsOf, List.filterMap_cons, List.filterMap_nil, if_true, if_false, reduceIte, Nat.reduceEqDiff, List.length_cons, List.length_nil, Nat.reduceAdd]
      clear hi
      go_wp2_with fail
      intro i hi
      simp only [List.filterMap_cons, List.head?_cons, List.filterMap_nil, List.mem_cons, List.not_mem_nil, or_false, or_self] at hi
      obtain rfl | rfl : i = 25 ∨ i = 26 := by omega
      · refine wpOp_list rfl ?_
        simp only [tailsOf, List.filterMap_cons, List.filterMap_nil, if_true, if_false, reduceIte, Nat.reduceEqDiff, List.length_cons, List.length_nil, Nat.reduceAdd]
        clear hi
        go_wp2_with fail
        refine (right8_any A c H _ h9 hsH).mono ?_
        rintro e w10 ⟨rfl, hb10⟩
        have k10 := k9.below hb10 k9.lt
        have h10 := TxnS.below h9 hb10
        have B10 := B9.trans (hb10.mono B9.size)
        clear k9 h9 B9 hb10 y0
        have y0 := k10.cell 0
        simp only [List.getElem?_toArray, List.getElem?_cons_zero] at y0
        go_wp2_with fail
        intro iq hiq
        have hiq : iq = 26 := by
          simp only [List.filterMap_cons, List.head?_cons, List.filterMap_nil, List.mem_cons, List.not_mem_nil, or_false, or_self] at hiq
          omega
        cases hiq
        refine wpOp_list rfl ?_
        simp only [tailsOf, List.filterMap_cons, List.filterMap_nil, if_true, if_false, reduceIte, Nat.reduceEqDiff, List.length_cons, List.length_nil, Nat.reduceAdd]
        go_wp2_with fail
        intro iq hiq
        have hiq : iq = 27 := by
          simp only [List.filterMap_cons, List.head?_cons, List.filterMap_nil, List.mem_cons, List.not_mem_nil, or_false, or_self] at hiq
          omega
        cases hiq
        refine wpOp_list rfl ?_
        simp only [tailsOf, List.filterMap_cons, List.filterMap_nil, if_true, if_false, reduceIte, Nat.reduceEqDiff, List.length_cons, List.length_nil, Nat.reduceAdd]
        go_wp2_with fail
        refine (right08_any A c H _ h10 hsH).mono ?_
        rintro e w11 ⟨rfl, hb11⟩
        have B11 := B10.trans (hb11.mono B10.size)
        go_wp2_with fail
        intro iq hiq
        have hiq : iq = 28 := by
          simp only [List.filterMap_cons, List.head?_cons, List.filterMap_nil, List.mem_cons, List.not_mem_nil, or_false, or_self] at hiq
          omega
        cases hiq
        refine wpOp_list rfl ?_
        simp only [tailsOf, List.filterMap_cons, List.filterMap_nil, if_true, if_false, reduceIte, Nat.reduceEqDiff, List.length_cons, List.length_nil, Nat.reduceAdd]
        go_wp2_with fail
        intro iq hiq
        have hiq : iq = 29 := by
          simp only [List.filterMap_cons, List.head?_cons, List.filterMap_nil, List.mem_cons, List.not_mem_nil, or_false, or_self] at hiq
          omega
        cases hiq
        refine wpOp_list rfl ?_
        simp only [tailsOf, List.filterMap_cons, List.filterMap_nil, if_true, if_false, reduceIte, Nat.reduceEqDiff, List.length_cons, List.length_nil, Nat.reduceAdd]
        go_wp2_with fail
        refine wpAlt_one _ _ _ _ rfl ?_
        simp only [List.filterMap_cons, List.filterMap_nil, List.getElem?_toArray, List.getElem?_cons_zero, List.getElem?_cons_succ]
        go_wp2
        go_ret
        exact ⟨by simp, B11⟩
      · refine wpOp_list rfl ?_
        simp only [tailsOf, List.filterMap_cons, List.filterMap_nil, if_true, if_false, reduceIte, Nat.reduceEqDiff, List.length_cons, List.length_nil, Nat.reduceAdd]
        clear hi
        go_wp2_with fail
        intro iq hiq
        have hiq : iq = 25 := by
          simp only [List.filterMap_cons, List.head?_cons, List.filterMap_nil, List.mem_cons, List.not_mem_nil, or_false, or_self] at hiq
          omega
        cases hiq
        refine wpOp_list rfl ?_
        simp only [tailsOf, List.filterMap_cons, List.filterMap_nil, if_true, if_false, reduceIte, Nat.reduceEqDiff, List.length_cons, List.length_nil, Nat.reduceAdd]
        go_wp2_with fail
        refine (right8_any A c H _ h9 hsH).mono ?_
        rintro e w10 ⟨rfl, hb10⟩
        have k10 := k9.below hb10 k9.lt
        have h10 := TxnS.below h9 hb10
        have B10 := B9.trans (hb10.mono B9.size)
        clear k9 h9 B9 hb10 y0
        have y0 := k10.cell 0
        simp only [List.getElem?_toArray, List.getElem?_cons_zero] at y0
        go_wp2_with fail
        intro iq hiq
        have hiq : iq = 27 := by
          simp only [List.filterMap_cons, List.head?_cons, List.filterMap_nil, List.mem_cons, List.not_mem_nil, or_false, or_self] at hiq
          omega
        cases hiq
        refine wpOp_list rfl ?_
        simp only [tailsOf, List.filterMap_cons, List.filterMap_nil, if_true, if_false, reduceIte, Nat.reduceEqDiff, List.length_cons, List.length_nil, Nat.reduceAdd]
        go_wp2_with fail
        refine (right08_any A c H _ h10 hsH).mono ?_
        rintro e w11 ⟨rfl, hb11⟩
        have B11 := B10.trans (hb11.mono B10.size)
        go_wp2_with fail
        intro iq hiq
        have hiq : iq = 28 := by
          simp only [List.filterMap_cons, List.head?_cons, List.filterMap_nil, List.mem_cons, List.not_mem_nil, or_false, or_self] at hiq
          omega
        cases hiq
        refine wpOp_list rfl ?_
        simp only [tailsOf, List.filterMap_cons, List.filterMap_nil, if_true, if_false, reduceIte, Nat.reduceEqDiff, List.length_cons, List.length_nil, Nat.reduceAdd]
        go_wp2_with fail
        intro iq hiq
        have hiq : iq = 29 := by
          simp only [List.filterMap_cons, List.head?_cons, List.filterMap_nil, List.mem_cons, List.not_mem_nil, or_false, or_self] at hiq
          omega
        cases hiq
        refine wpOp_list rfl ?_
        simp only [tailsOf, List.filterMap_cons, List.filterMap_nil, if_true, if_false, reduceIte, Nat.reduceEqDiff, List.length_cons, List.length_nil, Nat.reduceAdd]
        go_wp2_with fail
        refine wpAlt_one _ _ _ _ rfl ?_
        simp only [List.filterMap_cons, List.filterMap_nil, List.getElem?_toArray, List.getElem?_cons_zero, List.getElem?_cons_succ]
        go_wp2
        go_ret
        exact ⟨by simp, B11⟩
    · refine wpOp_list rfl ?_
      simp only [tailsOf, List.filterMap_cons, List.filterMap_nil, if_true, if_false, reduceIte, Nat.reduceEqDiff, List.length_cons, List.length_nil, Nat.reduceAdd]
      clear hi
      go_wp2_with fail
      intro iq hiq
      have hiq : iq = 24 := by
        simp only [List.filterMap_cons, List.head?_cons, List.filterMap_nil, List.mem_cons, List.not_mem_nil, or_false, or_self] at hiq
        omega
      cases hiq
      refine wpOp_list rfl ?_
      simp only [tailsOf, List.filterMap_cons, List.filterMap_nil, if_true, if_false, reduceIte, Nat.reduceEqDiff, List.length_cons, List.length_nil, Nat.reduceAdd]
      go_wp2_with fail
      intro iq hiq
      have hiq : iq = 25 := by
        simp only [List.filterMap_cons, List.head?_cons, List.filterMap_nil, List.mem_cons, List.not_mem_nil, or_false, or_self] at hiq
        omega
      cases hiq
      refine wpOp_list rfl ?_
      simp only [tailsOf, List.filterMap_cons, List.filterMap_nil, if_true, if_false, reduceIte, Nat.reduceEqDiff, List.length_cons, List.length_nil, Nat.reduceAdd]
      go_wp2_with fail
      refine (right8_any A c H _ h9 hsH).mono ?_
      rintro e w10 ⟨rfl, hb10⟩
      have k10 := k9.below hb10 k9.lt
      have h10 := TxnS.below h9 hb10
      have B10 := B9.trans (hb10.mono B9.size)
      clear k9 h9 B9 hb10 y0
      have y0 := k10.cell 0
      simp only [List.getElem?_toArray, List.getElem?_cons_zero] at y0
      go_wp2_with fail
      intro iq hiq
      have hiq : iq = 27 := by
        simp only [List.filterMap_cons, List.head?_cons, List.filterMap_nil, List.mem_cons, List.not_mem_nil, or_false, or_self] at hiq
        omega
      cases hiq
      refine wpOp_list rfl ?_
      simp only [tailsOf, List.filterMap_cons, List.filterMap_nil, if_true, if_false, reduceIte, Nat.reduceEqDiff, List.length_cons, List.length_nil, Nat.reduceAdd]
      go_wp2_with fail
      refine (right08_any A c H _ h10 hsH).mono ?_
      rintro e w11 ⟨rfl, hb11⟩
      have B11 := B10.trans (hb11.mono B10.size)
      go_wp2_with fail
      intro iq hiq
      have hiq : iq = 28 := by
        simp only [List.filterMap_cons, List.head?_cons, List.filterMap_nil, List.mem_cons, List.not_mem_nil, or_false, or_self] at hiq
        omega
      cases hiq
      refine wpOp_list rfl ?_
      simp only [tailsOf, List.filterMap_cons, List.filterMap_nil, if_true, if_false, reduceIte, Nat.reduceEqDiff, List.length_cons, List.length_nil, Nat.reduceAdd]
      go_wp2_with fail
      intro iq hiq
      have hiq : iq = 29 := by
        simp only [List.filterMap_cons, List.head?_cons, List.filterMap_nil, List.mem_cons, List.not_mem_nil, or_false, or_self] at hiq
        omega
      cases hiq
      refine wpOp_list rfl ?_
      simp only [tailsOf, List.filterMap_cons, List.filterMap_nil, if_true, if_false, reduceIte, Nat.reduceEqDiff, List.length_cons, List.length_nil, Nat.reduceAdd]
      go_wp2_with fail
      refine wpAlt_one _ _ _ _ rfl ?_
      simp only [List.filterMap_cons, List.filterMap_nil, List.getElem?_toArray, List.getElem?_cons_zero, List.getElem?_cons_succ]
      go_wp2
      go_ret
      exact ⟨by simp, B11⟩
end Go.Proofs.YtphcebgpllecjaaGreatDoor

namespace Go.Proofs.YtphcebgpllecjaaGreatDoor
open Go.ChangeShapes Go.WideShapes Go.ChangeAt Go.RowKit Go.Inq

set_option maxRecDepth 100000 in
theorem histTells_lifted (os : Os) (started : os.Started) (H : Type) (enc : TypeId × Value → H) :
    ReturnsInHanded {} Tryz.checked os 3 .any (fun w args => (Rows.histTellsSpec.pre enc Tryz.prog Tryz.f3 Rows.histTellsRow.domain false w args ∧ laidMetH Tryz.prog Rows.histTellsRow.laid w) ∧ sizedMet enc Tryz.prog Tryz.f3 (OpenSpec.ofChange Rows.histTellsSpec) false w args)
      (Rows.histTellsSpec.post enc Tryz.prog Tryz.f3 false true false false) := by
  refine returnsInHanded_shaped_and (C := Tryz.checked) (X := fun w _ => laidMetH Tryz.prog Rows.histTellsRow.laid w) (fun _ _ _ hh h => h.of_heap hh) own started (by kernel_rfl) Tryz.func3
    (ChangeSpec.witness_shaped (enc := enc) (C := Tryz.checked) (os := os) (X := fun w _ => laidMetH Tryz.prog Rows.histTellsRow.laid w) false (World.laidAll Tryz.prog os Rows.histTellsRow.laid) #[.string ⟨#[]⟩, .agg #[.slice none 0 0]] 8 (World.laidAll_os _ _ _)
      (World.shaped_of_ZipB (by kernel_rfl) (by kernel_rfl)) (by kernel_rfl) (by kernel_rfl) (by kernel_rfl)
      (by rw [MakeChecks.laidMetH_plain _ _ _ (by kernel_rfl)]; exact laidMet_laidAll _ (by kernel_rfl) (by kernel_rfl))) ?_
  intro W base args ds gs before hval0 hW hL hsh
  have hval : ∀ (j : Nat) t v, Tryz.f3.params[j]? = some t → args[j]? = some v → Value.okWide Tryz.prog W .any base t v := hval0
  have hW' := hW
  obtain ⟨p, q, hA0, hV, rfl, hfz, hnd⟩ := hW
  have hlt : ∀ x ∈ p ++ q, x.block < W.heap.size := fun x hx => hW'.lt x hx
  have hA : DataW.TrodAll enc Tryz.prog W 0 (fun _ => true) true Tryz.f3.params.toList args.toList ds p := hA0
  rw [Tryz.params3] at hA hval
  obtain ⟨v0, v1, d0, d1, p0, p1, rfl, rfl, rfl, h0, h1⟩ := trodAll_two hA
  obtain ⟨rfl, rfl⟩ := trodVars_none hV
  obtain ⟨s0, rfl⟩ := okWide_string Tryz.underlying9 (hval 0 9 v0 rfl rfl)
  have hs0 := str_size h0
  obtain ⟨n1, t1⟩ := h1
  obtain ⟨cs1, rfl, hz1⟩ := okWide_struct Tryz.underlying24 (hval 1 24 v1 rfl rfl)
  obtain ⟨a1, cap1, l1, he1, hl1, hn1, hm1⟩ := open_hist (by kernel_rfl) t1
  obtain rfl : cs1 = #[.slice a1 l1.length cap1] := Array.toList_inj.1 he1
  refine (histTells_any s0 a1 cap1 l1 W hs0 hl1 hn1 hm1 (Env.of hsh hL (MakeChecks.laidMetH_plain _ _ _ (by kernel_rfl)) (.tail _ (.tail _ (.head _))) (.tail _ (.tail _ (.tail _ (.tail _ (.head _))))))).mono fun e W2 he => ?_
  obtain ⟨he, hb⟩ := he
  subst he
  exact ⟨_, rfl, [d0, d1], [], (p0 ++ p1) ++ [], [], (p0 ++ p1), [], hW', trodAll_mk1 (shut_bool Tryz.underlying4 true), Below.trodAll hb (by kernel_rfl) hA (fun x hx => hlt x (List.mem_append.2 (.inl hx))), rfl, hb.frame _, fun h => by cases h⟩

theorem histTells_holds : Rows.HistTellsSaid :=
  OpenClaim.holds_of_wide 3 Tryz.f3 rfl rfl rfl rfl rfl rfl rfl ⟨rfl, rfl, rfl, rfl, rfl⟩ rfl rfl rfl rfl rfl (by kernel_rfl) Tryz.func3 (by kernel_rfl)
    (of_decide_eq_true (by kernel_rfl)) (by unfold Func.isWrapper; first | (rw [if_pos (by decide +kernel)]; kernel_rfl) | (rw [if_neg (by decide +kernel)]; exact ⟨rfl, rfl⟩))
    (fun os started H enc _ => histTells_lifted os started H enc)
theorem histTells_card_holds : Rows.HistTellsCardSaid :=
  Claim7.holds_tied_plain_at .later [] [.data, .data, .data, .data, .data, .pinned] true (true, "8abeda030da7a96d80ee37ad2b734cb0dcf4cb027b7a34844469a74b1aa5a66c") true histTells_holds (fun _ h => by cases h) (by kernel_rfl) (fun _ h => by cases h) histTells_row_tie rfl ⟨rfl, rfl⟩ (by kernel_rfl) rfl
    (fun f fn hf hfn => by
      obtain rfl : f = 3 := Option.some.inj ((show Tryz.prog.funcNamed Rows.histTellsRow.func = some 3 by kernel_rfl).symm.trans hf) |>.symm
      obtain rfl : fn = Tryz.f3 := (Option.some.inj (Tryz.func3.symm.trans hfn)).symm
      exact ⟨by kernel_rfl, fun j t ht => by
        rw [Tryz.params3] at ht
        have hm : t ∈ [9, 24] := by simpa using Array.mem_of_getElem? ht
        have hall : ([9, 24].all fun u => !Tryz.prog.wantsStandIn u) = true := by kernel_rfl
        exact (show Tryz.prog.wantsStandIn t = false by simpa using List.all_eq_true.1 hall t hm)⟩)
    (by kernel_rfl)
#print axioms histTells_card_holds
end Go.Proofs.YtphcebgpllecjaaGreatDoor
