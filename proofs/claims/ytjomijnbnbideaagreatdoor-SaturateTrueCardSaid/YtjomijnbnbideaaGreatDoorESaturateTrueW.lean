/-
  Walks: SaturateTrue.
-/
import Derived.Test.YtjomijnbnbideaaGreatDoorE38
import Derived.Test.YtjomijnbnbideaaGreatDoorE43
import Derived.Test.YtjomijnbnbideaaGreatDoorE49
set_option linter.unusedVariables false
set_option linter.unusedSimpArgs false
namespace Go.Proofs.YtjomijnbnbideaaGreatDoor
open Go.RowKit Go.Inq
set_option maxHeartbeats 8000000
attribute [local go_sem ↓] Go.wp_at_zero Go.wp_at_succ

set_option maxRecDepth 100000 in
theorem saturateTrue_any (A : Option Addr) (c : Nat) (H : List Txn) (level : Int) (w : World) (h : TxnS w (Old w) (.slice A H.length c) H) (hn : H.length ≤ maxLen) (hns : ∀ t ∈ H, t.writes.length ≤ maxLen ∧ t.reads.length ≤ maxLen) (hTB : TabB w) :
    Calls Tryz.prog 10 #[.agg #[.slice A H.length c], .int .i64 level] w fun e w' => e = .returned (.bool true) ∧ Below w.heap.size w w' := by
  have hA : Below w.heap.size w (w.alloc (.cells #[.slice A H.length c] 24)) := (Below.refl _ _).alloc (Nat.le_refl _) _
  have hT0 := h.below hA
  have kh : Blk (w.alloc (.cells #[.slice A H.length c] 24)) w.heap.size 24 #[.slice A H.length c] := Blk.new _ _ _
  have hL : LenH H := ⟨hn, hns⟩
  replace hL := hide hL
  replace h := hide h
  clear hn hns
  go_enter Tryz.func10, Tryz.ntmps10
  go_wp2_with fail
  generalize w.alloc (.cells #[.slice A H.length c] 24) = W0 at *
  refine (awake29_any W0 (hTB.below hA)).mono ?_
  rintro e w1 ⟨rfl, hb1⟩
  have hb := hA.trans (hb1.mono hA.size)
  have hT1 := hT0.below hb1
  replace kh := kh.below hb1 kh.lt
  have c0 := kh.cell 0
  simp only [List.getElem?_toArray, List.getElem?_cons_zero] at c0
  clear hT0 hA hb1
  have hsl := hide (rsmall22_any A c H 5 6 w1 hT1 hL.out (by omega) (by omega))
  go_wp2_with fail
  refine hsl.out.mono ?_
  rintro e w2 ⟨rfl, hb2⟩
  replace hb := hb.trans (hb2.mono hb.size)
  have hT2 := hide (hT1.below hb2)
  replace kh := kh.below hb2 kh.lt
  clear hT1 hb2 c0 hsl
  cases hf : smallB H 5 6 with
  | false =>
    go_wp2
    go_ret
    exact ⟨rfl, hb⟩
  | true =>
    have hr : rightH H = true := by unfold smallB at hf; simp only [Bool.and_eq_true] at hf; exact hf.1.2
    have hk6 : (pairsL H).length ≤ 6 := by unfold smallB at hf; simp only [Bool.and_eq_true, decide_eq_true_eq] at hf; exact hf.2
    have hsm := hide (right_small hr)
    clear hf
    by_cases hlv : level = 0 ∨ level = 1
    · have hen := hide (endS_start (H := H) (level := level) (may_iff.2 ⟨hr, hlv⟩) (n := 60) (Nat.le_trans (Nat.mul_le_mul (show (pairsL H).length + 1 ≤ 7 by omega) (show (pairsL H).length + 1 ≤ 7 by omega)) (by omega)))
      replace hr := hide hr
      have hlb : (level != 0) = false ∨ ((level != 0) = true ∧ (level != 1) = false) := by
        rcases hlv with rfl | rfl
        · left; rfl
        · right; exact ⟨rfl, rfl⟩
      clear hlv hk6
      have c0 := kh.cell 0
      simp only [List.getElem?_toArray, List.getElem?_cons_zero] at c0
      have hsa : Hid ((endT H level 60 0 0 []).1.said = 3 ∨ ((endT H level 60 0 0 []).1.said = 1 ∧ hasB H level = true) ∨ ((endT H level 60 0 0 []).1.said = 2 ∧ hasB H level = false)) := hide (by
        obtain ⟨o, M, k, h1, -, -, -, h2⟩ := hen.out
        rw [endT_endS _ _ _ _ _ h1]
        exact h2)
      clear hen
      rcases hlb with hlb | ⟨hlb, hlb1⟩
      all_goals
        go_wp2_with fail
        refine (ends29_any A c H level 60 w2 hT2.out hsm.out (by omega) (hTB.below hb)).mono ?_
        rintro e w3 ho
        obtain ⟨Ao, no, co, At, nt, ct, Af, nf, cf, Am, cm, rfl, -, b3⟩ := ho.v
        clear ho c0
        dsimp only
        obtain ⟨sd, hsd⟩ : ∃ sd, (endT H level 60 0 0 []).1.said = sd := ⟨_, rfl⟩
        rw [hsd] at hsa
        rw [hsd]
        clear hsd
        go_upto_region 8 with fail
        obtain ⟨W4, hX⟩ : ∃ W4, w3.alloc (.cells #[.int .i64 sd, .slice Ao no co, .slice At nt ct, .slice Af nf cf] 35) = W4 := ⟨_, rfl⟩
        rw [hX]
        have k7 := Blk.newEq hX
        have b4 := b3.trans ((below_allocEq (Below.refl w3.heap.size w3) hX (Nat.le_refl _)).mono b3.size)
        have hT4 := hide (hT2.out.below b4)
        replace kh := kh.below b4 kh.lt
        replace hb := hb.trans (b4.mono hb.size)
        have c0 := kh.cell 0
        have x0 := k7.cell 0
        simp only [List.getElem?_toArray, List.getElem?_cons_zero, List.getElem?_cons_succ] at c0 x0
        clear hX b4 b3
        have hh := hide (rhas21_any A c H level W4 hT4.out hr.out hsm.out)
        obtain ⟨qh, hq⟩ : ∃ qh, hasB H level = qh := ⟨_, rfl⟩
        rw [hq] at hsa hh
        have hsa := hsa.out
        generalize w3.heap.size = g7 at *
        clear hq hT2
        rcases hsa with rfl | ⟨rfl, rfl⟩ | ⟨rfl, rfl⟩
        · go_wp2
          go_ret
          exact ⟨rfl, hb⟩
        ·
          go_wp2_with fail
          refine hh.out.mono ?_
          rintro e w5 ⟨rfl, b5⟩
          have k5 := k7.below b5 k7.lt
          have hb5 := hb.trans (b5.mono hb.size)
          have y0 := k5.cell 0
          simp only [List.getElem?_toArray, List.getElem?_cons_zero, List.getElem?_cons_succ] at y0
          clear k5 k7 hh x0 c0
          go_wp2
          go_ret
          exact ⟨rfl, hb5⟩
        ·
          go_wp2_with fail
          refine hh.out.mono ?_
          rintro e w5 ⟨rfl, b5⟩
          have k5 := k7.below b5 k7.lt
          have hb5 := hb.trans (b5.mono hb.size)
          have y0 := k5.cell 0
          simp only [List.getElem?_toArray, List.getElem?_cons_zero, List.getElem?_cons_succ] at y0
          clear k5 k7 hh x0 c0
          go_wp2
          go_ret
          exact ⟨rfl, hb5⟩
    · have h0 : (level != 0) = true := by rw [bne_iff_ne]; omega
      have h1 : (level != 1) = true := by rw [bne_iff_ne]; omega
      replace hr := hide hr
      clear hlv
      go_wp2
      go_ret
      exact ⟨rfl, hb⟩
end Go.Proofs.YtjomijnbnbideaaGreatDoor

namespace Go.Proofs.YtjomijnbnbideaaGreatDoor
open Go.ChangeShapes Go.WideShapes Go.ChangeAt Go.RowKit Go.Inq

set_option maxRecDepth 100000 in
theorem saturateTrue_lifted (os : Os) (started : os.Started) (H : Type) (enc : TypeId × Value → H) :
    ReturnsInHanded {} Tryz.checked os 10 .any (fun w args => (Rows.saturateTrueSpec.pre enc Tryz.prog Tryz.f10 Rows.saturateTrueRow.domain false w args ∧ laidMetH Tryz.prog Rows.saturateTrueRow.laid w) ∧ sizedMet enc Tryz.prog Tryz.f10 (OpenSpec.ofChange Rows.saturateTrueSpec) false w args)
      (Rows.saturateTrueSpec.post enc Tryz.prog Tryz.f10 false true false false) := by
  refine returnsInHanded_shaped_and (C := Tryz.checked) (X := fun w _ => laidMetH Tryz.prog Rows.saturateTrueRow.laid w) (fun _ _ _ hh h => h.of_heap hh) own started (by kernel_rfl) Tryz.func10
    (ChangeSpec.witness_shaped (enc := enc) (C := Tryz.checked) (os := os) (X := fun w _ => laidMetH Tryz.prog Rows.saturateTrueRow.laid w) false (World.laidAll Tryz.prog os Rows.saturateTrueRow.laid) #[.agg #[.slice none 0 0], .int .i64 0] 8 (World.laidAll_os _ _ _)
      (World.shaped_of_ZipB (by kernel_rfl) (by kernel_rfl)) (by kernel_rfl) (by kernel_rfl) (by kernel_rfl)
      (by rw [MakeChecks.laidMetH_plain _ _ _ (by kernel_rfl)]; exact laidMet_laidAll _ (by kernel_rfl) (by kernel_rfl))) ?_
  intro W base args ds gs before hval0 hW hL hsh
  have hval : ∀ (j : Nat) t v, Tryz.f10.params[j]? = some t → args[j]? = some v → Value.okWide Tryz.prog W .any base t v := hval0
  have hW' := hW
  obtain ⟨p, q, hA0, hV, rfl, hfz, hnd⟩ := hW
  have hlt : ∀ x ∈ p ++ q, x.block < W.heap.size := fun x hx => hW'.lt x hx
  have hA : DataW.TrodAll enc Tryz.prog W 0 (fun _ => true) true Tryz.f10.params.toList args.toList ds p := hA0
  rw [Tryz.params10] at hA hval
  obtain ⟨v0, v1, d0, d1, p0, p1, rfl, rfl, rfl, h0, h1⟩ := trodAll_two hA
  obtain ⟨rfl, rfl⟩ := trodVars_none hV
  obtain ⟨n0, t0⟩ := h0
  obtain ⟨cs0, rfl, hz0⟩ := okWide_struct Tryz.underlying24 (hval 0 24 v0 rfl rfl)
  obtain ⟨a0, cap0, l0, he0, hl0, hn0, hm0⟩ := open_hist (by kernel_rfl) t0
  obtain rfl : cs0 = #[.slice a0 l0.length cap0] := Array.toList_inj.1 he0
  obtain ⟨x1, rfl⟩ := okWide_int Tryz.underlying3 (hval 1 3 v1 rfl rfl)
  refine (saturateTrue_any a0 cap0 l0 x1 W hl0 hn0 hm0 (TabB.of hL (MakeChecks.laidMetH_plain _ _ _ (by kernel_rfl)) (.head _))).mono fun e W2 he => ?_
  obtain ⟨he, hb⟩ := he
  subst he
  exact ⟨_, rfl, [d0, d1], [], (p0 ++ p1) ++ [], [], (p0 ++ p1), [], hW', trodAll_mk1 (shut_bool Tryz.underlying4 true), Below.trodAll hb (by kernel_rfl) hA (fun x hx => hlt x (List.mem_append.2 (.inl hx))), rfl, hb.frame _, fun h => by cases h⟩

theorem saturateTrue_holds : Rows.SaturateTrueSaid :=
  OpenClaim.holds_of_wide 10 Tryz.f10 rfl rfl rfl rfl rfl rfl rfl ⟨rfl, rfl, rfl, rfl, rfl⟩ rfl rfl rfl rfl rfl (by kernel_rfl) Tryz.func10 (by kernel_rfl)
    (of_decide_eq_true (by kernel_rfl)) (by unfold Func.isWrapper; first | (rw [if_pos (by decide +kernel)]; kernel_rfl) | (rw [if_neg (by decide +kernel)]; exact ⟨rfl, rfl⟩))
    (fun os started H enc _ => saturateTrue_lifted os started H enc)
theorem saturateTrue_card_holds : Rows.SaturateTrueCardSaid :=
  Claim7.holds_tied_plain_at .later [] [.data] true (true, "b0efe9e99674400e280ea1a23a13eec5d1b686fa42771ae2dadb0efcfea19ec7") false saturateTrue_holds (fun _ h => by cases h) (by kernel_rfl) (fun _ h => by cases h) saturateTrue_row_tie rfl ⟨rfl, rfl⟩ (by kernel_rfl) rfl
    (fun f fn hf hfn => by
      obtain rfl : f = 10 := Option.some.inj ((show Tryz.prog.funcNamed Rows.saturateTrueRow.func = some 10 by kernel_rfl).symm.trans hf) |>.symm
      obtain rfl : fn = Tryz.f10 := (Option.some.inj (Tryz.func10.symm.trans hfn)).symm
      exact ⟨by kernel_rfl, fun j t ht => by
        rw [Tryz.params10] at ht
        have hm : t ∈ [24, 3] := by simpa using Array.mem_of_getElem? ht
        have hall : ([24, 3].all fun u => !Tryz.prog.wantsStandIn u) = true := by kernel_rfl
        exact (show Tryz.prog.wantsStandIn t = false by simpa using List.all_eq_true.1 hall t hm)⟩)
    (by kernel_rfl)
#print axioms saturateTrue_card_holds
end Go.Proofs.YtjomijnbnbideaaGreatDoor
