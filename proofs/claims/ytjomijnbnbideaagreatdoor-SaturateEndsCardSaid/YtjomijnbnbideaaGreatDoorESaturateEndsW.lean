/-
  Walks: SaturateEnds.
-/
import Derived.Test.YtjomijnbnbideaaGreatDoorE38
import Derived.Test.YtjomijnbnbideaaGreatDoorE43
import Derived.Test.YtjomijnbnbideaaGreatDoorE49
set_option linter.unusedVariables false
set_option linter.unusedSimpArgs false
namespace Go.Proofs.YtjomijnbnbideaaGreatDoor
open Go.RowKit Go.Inq
set_option maxHeartbeats 8000000
attribute [local go_sem ↓] Go.wp_at_zero Go.wp_at_succ

set_option maxRecDepth 100000 in
theorem saturateEnds_any (A : Option Addr) (c : Nat) (H : List Txn) (level : Int) (w : World) (h : TxnS w (Old w) (.slice A H.length c) H) (hn : H.length ≤ maxLen) (hns : ∀ t ∈ H, t.writes.length ≤ maxLen ∧ t.reads.length ≤ maxLen) (hTB : TabB w) :
    Calls Tryz.prog 9 #[.agg #[.slice A H.length c], .int .i64 level] w fun e w' => e = .returned (.bool true) ∧ Below w.heap.size w w' := by
  have hA : Below w.heap.size w (w.alloc (.cells #[.slice A H.length c] 24)) := (Below.refl _ _).alloc (Nat.le_refl _) _
  have hT0 := h.below hA
  have kh : Blk (w.alloc (.cells #[.slice A H.length c] 24)) w.heap.size 24 #[.slice A H.length c] := Blk.new _ _ _
  have hL : LenH H := ⟨hn, hns⟩
  replace hL := hide hL
  replace h := hide h
  clear hn hns
  go_enter Tryz.func9, Tryz.ntmps9
  go_wp2_with fail
  generalize w.alloc (.cells #[.slice A H.length c] 24) = W0 at *
  refine (awake29_any W0 (hTB.below hA)).mono ?_
  rintro e w1 ⟨rfl, hb1⟩
  have hb := hA.trans (hb1.mono hA.size)
  have hT1 := hT0.below hb1
  replace kh := kh.below hb1 kh.lt
  have c0 := kh.cell 0
  simp only [List.getElem?_toArray, List.getElem?_cons_zero] at c0
  clear hT0 hA hb1
  have hsl := hide (rsmall22_any A c H 6 8 w1 hT1 hL.out (by omega) (by omega))
  go_wp2_with fail
  refine hsl.out.mono ?_
  rintro e w2 ⟨rfl, hb2⟩
  replace hb := hb.trans (hb2.mono hb.size)
  have hT2 := hide (hT1.below hb2)
  replace kh := kh.below hb2 kh.lt
  clear hT1 hb2 c0 hsl
  cases hf : smallB H 6 8 with
  | false =>
    go_wp2
    go_ret
    exact ⟨rfl, hb⟩
  | true =>
    have hr : rightH H = true := by unfold smallB at hf; simp only [Bool.and_eq_true] at hf; exact hf.1.2
    have hk6 : (pairsL H).length ≤ 8 := by unfold smallB at hf; simp only [Bool.and_eq_true, decide_eq_true_eq] at hf; exact hf.2
    have hsm := hide (right_small hr)
    clear hf
    by_cases hlv : level = 0 ∨ level = 1
    · have hen := hide (endS_start (H := H) (level := level) (may_iff.2 ⟨hr, hlv⟩) (Nat.le_refl _))
      have hlb : (level != 0) = false ∨ ((level != 0) = true ∧ (level != 1) = false) := by
        rcases hlv with rfl | rfl
        · left; rfl
        · right; exact ⟨rfl, rfl⟩
      clear hlv
      have hps := hide (fun W (hb : Below w2.heap.size w2 W) => rpairs09_any A c H W (hT2.out.below hb) hr hsm.out)
      replace hr := hide hr
      obtain ⟨P, hP⟩ : ∃ P, pairsL H = P := ⟨_, rfl⟩
      rw [hP] at hps hen hk6
      clear hP
      have c0 := kh.cell 0
      simp only [List.getElem?_toArray, List.getElem?_cons_zero] at c0
      rcases hlb with hlb | ⟨hlb, hlb1⟩
      all_goals
        have hp1 := hide (hps.out w2 (Below.refl _ _))
        clear hps
        go_wp2_with fail
        refine hp1.out.mono ?_
        rintro e w3 ⟨vP, rfl, hvP, hb3⟩
        obtain ⟨AP, cP, rfl⟩ := hvP.form
        clear hp1 hvP c0
        have hT3 := hide (hT2.out.below hb3)
        replace kh := kh.below hb3 kh.lt
        replace hb := hb.trans (hb3.mono hb.size)
        clear hb3 hT2
        generalize P.length = n at *
        have c0 := kh.cell 0
        simp only [List.getElem?_toArray, List.getElem?_cons_zero] at c0
        have hn0 : (0 : Int) ≤ (n : Int) := Int.natCast_nonneg _
        have hn8 : (n : Int) ≤ 8 := by omega
        obtain ⟨N, hN⟩ : ∃ N : Nat, (n + 1) * (n + 1) = N := ⟨_, rfl⟩
        rw [hN] at hen
        have hN81 : N ≤ 81 := by rw [← hN]; exact Nat.mul_le_mul (show n + 1 ≤ 9 by omega) (show n + 1 ≤ 9 by omega)
        have hNi : ((n : Int) + 1) * ((n : Int) + 1) = (N : Int) := by rw [← hN]; push_cast; rfl
        have wr1 : IntKind.i64.wrap ((n : Int) + 1) = (n : Int) + 1 := Go.IntWalk.i64_in _ (by omega)
        have wr2 : RowKit.wrap64 ((n : Int) + 1) = (n : Int) + 1 := Go.IntWalk.wrap64_in _ (by omega)
        have wr3 : IntKind.i64.wrap (((n : Int) + 1) * ((n : Int) + 1)) = (N : Int) := by rw [hNi]; exact Go.IntWalk.i64_in _ (by omega)
        have wr4 : RowKit.wrap64 (((n : Int) + 1) * ((n : Int) + 1)) = (N : Int) := by rw [hNi]; exact Go.IntWalk.wrap64_in _ (by omega)
        have hec := hide (ends29_any A c H level N w3 hT3.out hsm.out (by omega) (hTB.below hb))
        have hsa : Hid ((endT H level N 0 0 []).1.said ≠ 0 ∧ (endT H level N 0 0 []).2.2 ≤ N ∧ replB H level (endT H level N 0 0 []).2.1 = true) := hide (by
          obtain ⟨o, M, k, h1, h2, h3, h4, -⟩ := hen.out
          rw [endT_endS _ _ _ _ _ h1]
          exact ⟨h2, h3, h4⟩)
        have hft := hide (endT_fit (H := H) (level := level) N 0 0 [] (fun f hf => by simp at hf))
        clear hen
        generalize endT H level N 0 0 [] = F at *
        go_wp2_with fail
        refine hec.out.mono ?_
        rintro e w4 ho
        obtain ⟨Ao, no, co, At, nt, ct, Af, nf, cf, Am, cm, rfl, oM, b4⟩ := ho.v
        clear ho c0 hec
        dsimp only
        go_upto_region 9 with fail
        obtain ⟨W4, hX⟩ : ∃ W4, w4.alloc (.cells #[.int .i64 F.1.said, .slice Ao no co, .slice At nt ct, .slice Af nf cf] 35) = W4 := ⟨_, rfl⟩
        rw [hX]
        have k7 := Blk.newEq hX
        have bX := below_allocEq (Below.refl w4.heap.size w4) hX (Nat.le_refl _)
        have oM4 := hide (oM.below bX)
        replace b4 := b4.trans (bX.mono b4.size)
        replace hb := hb.trans (b4.mono hb.size)
        have hT4 := hide (hT3.out.below b4)
        replace kh := kh.below b4 kh.lt
        have c0 := kh.cell 0
        have x0 := k7.cell 0
        simp only [List.getElem?_toArray, List.getElem?_cons_zero, List.getElem?_cons_succ] at c0 x0
        obtain ⟨h1, h2, h3⟩ := hsa.out
        obtain ⟨j1, j2, -⟩ := hft.out
        have g1 : (F.1.said != 0) = true := by simpa using h1
        have hK0 : (0 : Int) ≤ (F.2.2 : Int) := Int.natCast_nonneg _
        have g2 : decide ((F.2.2 : Int) ≤ (N : Int)) = true := by simp; exact h2
        have g3 : decide (F.2.2 ≤ N) = true := by simpa using h2
        have hrp := hide (replay22_any A c H level Am cm F.2.1 W4 hT4.out hsm.out oM4.out.s ⟨by simp at j2; omega, j1⟩)
        rw [h3] at hrp
        clear hX bX b4 oM oM4 hsa hft hT3 hT4 h1 h3 j1 j2 k7
        go_wp2_with fail
        refine hrp.out.mono ?_
        rintro e w5 ⟨rfl, hb5⟩
        go_wp2
        go_ret
        exact ⟨rfl, hb.trans (hb5.mono hb.size)⟩
    · have h0 : (level != 0) = true := by rw [bne_iff_ne]; omega
      have h1 : (level != 1) = true := by rw [bne_iff_ne]; omega
      replace hr := hide hr
      clear hlv hk6
      go_wp2
      go_ret
      exact ⟨rfl, hb⟩
end Go.Proofs.YtjomijnbnbideaaGreatDoor

namespace Go.Proofs.YtjomijnbnbideaaGreatDoor
open Go.ChangeShapes Go.WideShapes Go.ChangeAt Go.RowKit Go.Inq

set_option maxRecDepth 100000 in
theorem saturateEnds_lifted (os : Os) (started : os.Started) (H : Type) (enc : TypeId × Value → H) :
    ReturnsInHanded {} Tryz.checked os 9 .any (fun w args => (Rows.saturateEndsSpec.pre enc Tryz.prog Tryz.f9 Rows.saturateEndsRow.domain false w args ∧ laidMetH Tryz.prog Rows.saturateEndsRow.laid w) ∧ sizedMet enc Tryz.prog Tryz.f9 (OpenSpec.ofChange Rows.saturateEndsSpec) false w args)
      (Rows.saturateEndsSpec.post enc Tryz.prog Tryz.f9 false true false false) := by
  refine returnsInHanded_shaped_and (C := Tryz.checked) (X := fun w _ => laidMetH Tryz.prog Rows.saturateEndsRow.laid w) (fun _ _ _ hh h => h.of_heap hh) own started (by kernel_rfl) Tryz.func9
    (ChangeSpec.witness_shaped (enc := enc) (C := Tryz.checked) (os := os) (X := fun w _ => laidMetH Tryz.prog Rows.saturateEndsRow.laid w) false (World.laidAll Tryz.prog os Rows.saturateEndsRow.laid) #[.agg #[.slice none 0 0], .int .i64 0] 8 (World.laidAll_os _ _ _)
      (World.shaped_of_ZipB (by kernel_rfl) (by kernel_rfl)) (by kernel_rfl) (by kernel_rfl) (by kernel_rfl)
      (by rw [MakeChecks.laidMetH_plain _ _ _ (by kernel_rfl)]; exact laidMet_laidAll _ (by kernel_rfl) (by kernel_rfl))) ?_
  intro W base args ds gs before hval0 hW hL hsh
  have hval : ∀ (j : Nat) t v, Tryz.f9.params[j]? = some t → args[j]? = some v → Value.okWide Tryz.prog W .any base t v := hval0
  have hW' := hW
  obtain ⟨p, q, hA0, hV, rfl, hfz, hnd⟩ := hW
  have hlt : ∀ x ∈ p ++ q, x.block < W.heap.size := fun x hx => hW'.lt x hx
  have hA : DataW.TrodAll enc Tryz.prog W 0 (fun _ => true) true Tryz.f9.params.toList args.toList ds p := hA0
  rw [Tryz.params9] at hA hval
  obtain ⟨v0, v1, d0, d1, p0, p1, rfl, rfl, rfl, h0, h1⟩ := trodAll_two hA
  obtain ⟨rfl, rfl⟩ := trodVars_none hV
  obtain ⟨n0, t0⟩ := h0
  obtain ⟨cs0, rfl, hz0⟩ := okWide_struct Tryz.underlying24 (hval 0 24 v0 rfl rfl)
  obtain ⟨a0, cap0, l0, he0, hl0, hn0, hm0⟩ := open_hist (by kernel_rfl) t0
  obtain rfl : cs0 = #[.slice a0 l0.length cap0] := Array.toList_inj.1 he0
  obtain ⟨x1, rfl⟩ := okWide_int Tryz.underlying3 (hval 1 3 v1 rfl rfl)
  refine (saturateEnds_any a0 cap0 l0 x1 W hl0 hn0 hm0 (TabB.of hL (MakeChecks.laidMetH_plain _ _ _ (by kernel_rfl)) (.head _))).mono fun e W2 he => ?_
  obtain ⟨he, hb⟩ := he
  subst he
  exact ⟨_, rfl, [d0, d1], [], (p0 ++ p1) ++ [], [], (p0 ++ p1), [], hW', trodAll_mk1 (shut_bool Tryz.underlying4 true), Below.trodAll hb (by kernel_rfl) hA (fun x hx => hlt x (List.mem_append.2 (.inl hx))), rfl, hb.frame _, fun h => by cases h⟩

theorem saturateEnds_holds : Rows.SaturateEndsSaid :=
  OpenClaim.holds_of_wide 9 Tryz.f9 rfl rfl rfl rfl rfl rfl rfl ⟨rfl, rfl, rfl, rfl, rfl⟩ rfl rfl rfl rfl rfl (by kernel_rfl) Tryz.func9 (by kernel_rfl)
    (of_decide_eq_true (by kernel_rfl)) (by unfold Func.isWrapper; first | (rw [if_pos (by decide +kernel)]; kernel_rfl) | (rw [if_neg (by decide +kernel)]; exact ⟨rfl, rfl⟩))
    (fun os started H enc _ => saturateEnds_lifted os started H enc)
theorem saturateEnds_card_holds : Rows.SaturateEndsCardSaid :=
  Claim7.holds_tied_plain_at .later [] [.data] true (true, "b0efe9e99674400e280ea1a23a13eec5d1b686fa42771ae2dadb0efcfea19ec7") false saturateEnds_holds (fun _ h => by cases h) (by kernel_rfl) (fun _ h => by cases h) saturateEnds_row_tie rfl ⟨rfl, rfl⟩ (by kernel_rfl) rfl
    (fun f fn hf hfn => by
      obtain rfl : f = 9 := Option.some.inj ((show Tryz.prog.funcNamed Rows.saturateEndsRow.func = some 9 by kernel_rfl).symm.trans hf) |>.symm
      obtain rfl : fn = Tryz.f9 := (Option.some.inj (Tryz.func9.symm.trans hfn)).symm
      exact ⟨by kernel_rfl, fun j t ht => by
        rw [Tryz.params9] at ht
        have hm : t ∈ [24, 3] := by simpa using Array.mem_of_getElem? ht
        have hall : ([24, 3].all fun u => !Tryz.prog.wantsStandIn u) = true := by kernel_rfl
        exact (show Tryz.prog.wantsStandIn t = false by simpa using List.all_eq_true.1 hall t hm)⟩)
    (by kernel_rfl)
#print axioms saturateEnds_card_holds
end Go.Proofs.YtjomijnbnbideaaGreatDoor
