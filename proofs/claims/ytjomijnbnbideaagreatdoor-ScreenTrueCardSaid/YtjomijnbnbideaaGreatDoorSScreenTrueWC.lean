/-
  Walks: ScreenTrue.
-/
import Derived.Test.YtjomijnbnbideaaGreatDoorS31
import Derived.Test.YtjomijnbnbideaaGreatDoorS33
import Derived.Test.YtjomijnbnbideaaGreatDoorSScreenTrueWB
set_option linter.unusedVariables false
set_option linter.unusedSimpArgs false
namespace Go.Proofs.YtjomijnbnbideaaGreatDoor
open Go.RowKit Go.Inq
set_option maxHeartbeats 8000000
attribute [local go_sem ↓] Go.wp_at_zero Go.wp_at_succ

set_option maxRecDepth 100000 in
theorem screenTrue_any (A : Option Addr) (c : Nat) (H : List Txn) (level : Int) (w : World) (h : TxnS w (Old w) (.slice A H.length c) H) (hn : H.length ≤ maxLen) (hns : ∀ t ∈ H, t.writes.length ≤ maxLen ∧ t.reads.length ≤ maxLen) (hTB : TabB w) :
    Calls Tryz.prog 6 #[.agg #[.slice A H.length c], .int .i64 level] w fun e w' => e = .returned (.bool true) ∧ Below w.heap.size w w' := by
  have hA : Below w.heap.size w (w.alloc (.cells #[.slice A H.length c] 24)) := (Below.refl _ _).alloc (Nat.le_refl _) _
  have hT0 := h.below hA
  have kh : Blk (w.alloc (.cells #[.slice A H.length c] 24)) w.heap.size 24 #[.slice A H.length c] := Blk.new _ _ _
  have hL : LenH H := ⟨hn, hns⟩
  replace hL := hide hL
  replace h := hide h
  clear hn hns
  go_enter Tryz.func6, Tryz.ntmps6
  go_wp2_with fail
  generalize w.alloc (.cells #[.slice A H.length c] 24) = W0 at *
  refine (awake28_any W0 (hTB.below hA)).mono ?_
  rintro e w1 ⟨rfl, hb1⟩
  have hb := hA.trans (hb1.mono hA.size)
  have hT1 := hT0.below hb1
  replace kh := kh.below hb1 kh.lt
  have c0 := kh.cell 0
  simp only [List.getElem?_toArray, List.getElem?_cons_zero] at c0
  clear hT0 hA hb1
  have hsl := hide (rsmall22_any A c H 5 6 w1 hT1 hL.out (by omega) (by omega))
  go_wp2_with fail
  refine hsl.out.mono ?_
  rintro e w2 ⟨rfl, hb2⟩
  replace hb := hb.trans (hb2.mono hb.size)
  have hT2 := hide (hT1.below hb2)
  replace kh := kh.below hb2 kh.lt
  clear hT1 hb2 c0 hsl
  cases hf : smallB H 5 6 with
  | false =>
    go_wp2
    go_ret
    exact ⟨rfl, hb⟩
  | true =>
    have hr : rightH H = true := by unfold smallB at hf; simp only [Bool.and_eq_true] at hf; exact hf.1.2
    have hsm := hide (right_small hr)
    clear hf
    replace hr := hide hr
    by_cases hlv : level = 0 ∨ level = 1
    · have hlb : (level != 0) = false ∨ ((level != 0) = true ∧ (level != 1) = false) := by
        rcases hlv with rfl | rfl
        · left; rfl
        · right; exact ⟨rfl, rfl⟩
      clear hlv
      have c0 := kh.cell 0
      simp only [List.getElem?_toArray, List.getElem?_cons_zero] at c0
      have hsa := hide (scr_said H level)
      have hsy := hide (scr_yes (H := H) (level := level))
      have hsn := hide (scr_no (H := H) (level := level))
      rcases hlb with hlb | ⟨hlb, hlb1⟩
      all_goals
        go_wp2_with fail
        refine (step28_any A c H level w2 hT2.out hsm.out (hTB.below hb)).mono ?_
        rintro e w3 ho
        obtain ⟨Ao, no, co, At, nt, ct, Af, nf, cf, hno, hnt, hnf, rfl, v3, b3⟩ := ho.v
        clear ho c0
        obtain ⟨W4, hX, q, bX⟩ := ScrB.made v3
        clear v3
        replace hX := hide hX
        dsimp only at hX ⊢
        clear hno hnt hnf
        go_upto_region 8 with fail
        rw [hX.out]
        have b4 := b3.trans (bX.mono b3.size)
        have hT4 := hide (hT2.out.below b4)
        replace kh := kh.below b4 kh.lt
        replace hb := hb.trans (b4.mono hb.size)
        have c0 := kh.cell 0
        have qk := q
        obtain ⟨vo, vt, vf, k7, -⟩ := qk
        have x0 := k7.cell 0
        simp only [List.getElem?_toArray, List.getElem?_cons_zero, List.getElem?_cons_succ] at c0 x0
        replace q := hide q
        clear hX bX b4 b3
        have hh := hide (rhas21_any A c H level W4 hT4.out hr.out hsm.out)
        obtain ⟨qh, hq⟩ : ∃ qh, hasB H level = qh := ⟨_, rfl⟩
        rw [hq] at hsy hsn hh
        have hsa := hsa.out
        have hsy := hsy.out
        have hsn := hsn.out
        generalize (scrH H level).said = sd at *
        generalize w3.heap.size = g7 at *
        clear hq hT2 q
        rcases hsa with rfl | rfl | rfl
        · obtain rfl : qh = true := hsy rfl
          clear hsy hsn
          go_wp2_with fail
          refine hh.out.mono ?_
          rintro e w5 ⟨rfl, b5⟩
          have k5 := k7.below b5 k7.lt
          have hb5 := hb.trans (b5.mono hb.size)
          have y0 := k5.cell 0
          simp only [List.getElem?_toArray, List.getElem?_cons_zero, List.getElem?_cons_succ] at y0
          clear k5 k7 hh x0 c0
          go_wp2
          go_ret
          exact ⟨rfl, hb5⟩
        · obtain rfl : qh = false := hsn rfl
          clear hsy hsn
          go_wp2_with fail
          refine hh.out.mono ?_
          rintro e w5 ⟨rfl, b5⟩
          have k5 := k7.below b5 k7.lt
          have hb5 := hb.trans (b5.mono hb.size)
          have y0 := k5.cell 0
          simp only [List.getElem?_toArray, List.getElem?_cons_zero, List.getElem?_cons_succ] at y0
          clear k5 k7 hh x0 c0
          go_wp2
          go_ret
          exact ⟨rfl, hb5⟩
        · clear hsy hsn
          go_wp2
          go_ret
          exact ⟨rfl, hb⟩
    · have h0 : (level != 0) = true := by rw [bne_iff_ne]; omega
      have h1 : (level != 1) = true := by rw [bne_iff_ne]; omega
      clear hlv
      go_wp2
      go_ret
      exact ⟨rfl, hb⟩
end Go.Proofs.YtjomijnbnbideaaGreatDoor
