/-
  Walks: SiSer.
-/
import Derived.Test.YtfhnamomiaekdaaSSiSerWN
import Derived.Test.YtfhnamomiaekdaaS01
set_option linter.unusedVariables false
set_option linter.unusedSimpArgs false
namespace Go.Proofs.Ytfhnamomiaekdaa
open Go.RowKit Go.Inq
set_option maxHeartbeats 8000000
attribute [local go_sem ↓] Go.wp_at_zero Go.wp_at_succ

theorem fitS_rows {H : List Txn} {π : List Int} (hp : π.length ≤ 1000000) : FitS (rowsL H π) := by
  unfold rowsL
  split
  · next h =>
    have := keysL_16len h.1
    refine ⟨by rw [List.length_map]; omega, fun r hr => ?_⟩
    obtain ⟨k, hk, rfl⟩ := List.mem_map.1 hr
    exact Nat.le_trans (List.length_filter_le _ _) hp
  · exact ⟨by simp, fun r hr => by cases hr⟩
theorem serC_split {H : List Txn} {π : List Int} (h : serC H π = true) : rightS H (rowsL H π) = true ∧ checkS H (rowsL H π) = true := by
  unfold serC at h
  rw [Bool.and_eq_true] at h
  exact ⟨rowsL_right h.1 (check_perm h.2), ser_si h.1 h.2⟩
set_option maxRecDepth 100000 in
theorem siSer_any (A : Option Addr) (c : Nat) (H : List Txn) (Ap : Option Addr) (cp : Nat) (π : List Int) (w : World) (h : TxnS w (Old w) (.slice A H.length c) H) (hn : H.length ≤ maxLen) (hns : ∀ t ∈ H, t.writes.length ≤ maxLen ∧ t.reads.length ≤ maxLen) (hπ : IntS w (Old w) (.slice Ap π.length cp) π) (hpl : π.length ≤ maxLen) :
    Calls Try.prog 3 #[.agg #[.slice A H.length c], .slice Ap π.length cp] w fun e w' => e = .returned (.bool true) ∧ Below w.heap.size w w' := by
  have hA : Below w.heap.size w (w.alloc (.cells #[.slice A H.length c] 24)) := (Below.refl _ _).alloc (Nat.le_refl _) _
  have hT0 := h.below hA
  have hP0 := hπ.below hA
  have kh : Blk (w.alloc (.cells #[.slice A H.length c] 24)) w.heap.size 24 #[.slice A H.length c] := Blk.new _ _ _
  replace hn := hide hn
  replace hns := hide hns
  replace h := hide h
  replace hπ := hide hπ
  replace hpl := hide hpl
  go_enter Try.func3, Try.ntmps3
  go_wp2_with fail
  generalize w.alloc (.cells #[.slice A H.length c] 24) = W0 at *
  refine (awake21_any W0).mono ?_
  rintro e w1 ⟨rfl, hb1⟩
  have hb := hA.trans (hb1.mono hA.size)
  have hT1 := hT0.below hb1
  have hP1 := hP0.below hb1
  replace kh := kh.below hb1 kh.lt
  have c0 := kh.cell 0
  simp only [List.getElem?_toArray, List.getElem?_cons_zero] at c0
  clear hT0 hP0 hA hb1
  go_wp2_with fail
  refine (few8n_any 40 A c H w1 hT1 hn.out hns.out).mono ?_
  rintro e w2 ⟨rfl, hb2⟩
  replace hb := hb.trans (hb2.mono hb.size)
  have hT2 := hide (hT1.below hb2)
  have hP2 := hide (hP1.below hb2)
  replace kh := kh.below hb2 kh.lt
  clear hT1 hP1 hb2 c0 hn hns
  cases hf : fewN 40 H with
  | false =>
    go_wp2
    go_ret
    exact ⟨rfl, hb⟩
  | true =>
    have hsm := hide (fewN_small (Nat.le_refl _) hf)
    clear hf
    by_cases hlp : 40 < π.length
    · have hq : decide ((π.length : Int) > 40) = true := decide_eq_true (by omega)
      have hq2 : decide (40 < π.length) = true := decide_eq_true hlp
      clear hlp
      go_wp2
      go_ret
      exact ⟨rfl, hb⟩
    · have hq : decide ((π.length : Int) > 40) = false := decide_eq_false (by omega)
      have hq2 : decide (40 < π.length) = false := decide_eq_false hlp
      have hp4 : π.length ≤ 1000000 := by omega
      have hfr := hide (fitS_rows (H := H) hp4)
      have hor := hide (rowsL_or H π)
      have hspl := hide (fun e => serC_split (H := H) (π := π) e)
      clear hlp
      have c0 := kh.cell 0
      simp only [List.getElem?_toArray, List.getElem?_cons_zero] at c0
      go_wp2_with fail
      clear hq hq2
      refine (rowsS_any A c H Ap cp π w2 hT2.out hsm.out hP2.out hp4).mono ?_
      rintro e w3 ⟨vr, rfl, hR, hb3⟩
      obtain ⟨R, hRe⟩ : ∃ R, rowsL H π = R := ⟨_, rfl⟩
      rw [hRe] at hR hfr hor hspl
      replace hRe := hide hRe
      obtain ⟨Ar, cr, rfl⟩ := hR.form
      have hRS := hR.old
      have hT3 := hT2.out.below hb3
      have hP3 := hP2.out.below hb3
      have hb4 := hb.trans (hb3.mono hb.size)
      replace kh := kh.below hb3 kh.lt
      have c0 := kh.cell 0
      simp only [List.getElem?_toArray, List.getElem?_cons_zero] at c0
      clear hR hb3 hb hT2 hP2
      go_wp2_with fail
      refine (serC_any A c H Ap cp π w3 hT3 hsm.out hP3 hp4).mono ?_
      rintro e w5 ⟨rfl, hb5⟩
      have hT5 := hT3.below hb5
      have hR5 := hRS.below hb5
      have hb6 := hb4.trans (hb5.mono hb4.size)
      replace kh := kh.below hb5 kh.lt
      have c0 := kh.cell 0
      simp only [List.getElem?_toArray, List.getElem?_cons_zero] at c0
      clear hT3 hP3 hRS hb4 hb5
      cases hs : serC H π with
      | false =>
        clear hspl hs
        by_cases hR0 : R.length = 0
        · have hq : ((R.length : Int) == 0) = true := by rw [hR0]; rfl
          clear hR0
          go_wp2
          go_ret
          exact ⟨rfl, hb6⟩
        · have hq : ((R.length : Int) == 0) = false := by rw [beq_eq_false_iff_ne]; omega
          have hrs : rightS H R = true := by rcases hor.out with e | e <;> simp_all
          clear hR0
          go_wp2_with fail
          refine (rightS_any A c H Ar cr R w5 hT5 hsm.out hR5 hfr.out).mono ?_
          rintro e w7 ⟨rfl, hb7⟩
          rw [hrs]
          go_wp2
          go_ret
          exact ⟨rfl, hb6.trans (hb7.mono hb6.size)⟩
      | true =>
        obtain ⟨hrs, hcs⟩ := hspl.out hs
        clear hspl hs
        go_wp2_with fail
        refine (rightS_any A c H Ar cr R w5 hT5 hsm.out hR5 hfr.out).mono ?_
        rintro e w7 ⟨rfl, hb7⟩
        rw [hrs]
        have hT7 := hT5.below hb7
        have hR7 := hR5.below hb7
        have hb8 := hb6.trans (hb7.mono hb6.size)
        replace kh := kh.below hb7 kh.lt
        have c0 := kh.cell 0
        simp only [List.getElem?_toArray, List.getElem?_cons_zero] at c0
        go_wp2_with fail
        refine (checkS_any A c H Ar cr R w7 hT7 hsm.out hR7 hfr.out).mono ?_
        rintro e w9 ⟨rfl, hb9⟩
        rw [hcs]
        go_wp2
        go_ret
        exact ⟨rfl, hb8.trans (hb9.mono hb8.size)⟩
end Go.Proofs.Ytfhnamomiaekdaa

namespace Go.Proofs.Ytfhnamomiaekdaa
open Go.Joins Go.ChangeShapes Go.WideShapes Go.ChangeAt Go.RowKit Go.Inq

set_option maxRecDepth 100000 in
theorem siSer_lifted (os : Os) (started : os.Started) (H : Type) (enc : TypeId × Value → H) :
    ReturnsInHanded {} Try.checked os 3 .any (Rows.siSerSpec.pre6 enc Try.prog Try.f3 Rows.siSerRow.domain false) (Rows.siSerSpec.post enc Try.prog Try.f3 false true false false) := by
  refine returnsInHanded_of_change (C := Try.checked) own started (by kernel_rfl) Try.func3
    (ChangeSpec.witness6 (enc := enc) (C := Try.checked) false ⟨#[], #[.agg #[.slice none 0 0], .slice none 0 0], []⟩ 8 (by kernel_rfl) (by kernel_rfl) (by kernel_rfl) (by kernel_rfl)) ?_
  intro W base args ds gs before hval0 hW hcnd _
  have hval : ∀ (j : Nat) t v, Try.f3.params[j]? = some t → args[j]? = some v → Value.okWide Try.prog W .any base t v := hval0
  have hW' := hW
  obtain ⟨p, q, hA0, hV, rfl, hfz, hnd⟩ := hW
  have hlt : ∀ x ∈ p ++ q, x.block < W.heap.size := fun x hx => hW'.lt x hx
  have hA : DataW.TrodAll enc Try.prog W 0 (fun _ => true) true Try.f3.params.toList args.toList ds p := hA0
  rw [Try.params3] at hA hval
  obtain ⟨v0, v1, d0, d1, p0, p1, rfl, rfl, rfl, h0, h1⟩ := trodAll_two hA
  obtain ⟨rfl, rfl⟩ := trodVars_none hV
  obtain ⟨n0, t0⟩ := h0
  obtain ⟨cs0, rfl, hz0⟩ := okWide_struct Try.underlying24 (hval 0 24 v0 rfl rfl)
  obtain ⟨a0, cap0, l0, he0, hl0, hn0, hm0⟩ := open_hist (by kernel_rfl) t0
  obtain rfl : cs0 = #[.slice a0 l0.length cap0] := Array.toList_inj.1 he0
  obtain ⟨aI1, len1, cI1, rfl⟩ := okWide_slice Try.underlying25 (hval 1 25 v1 rfl rfl)
  obtain ⟨n1, t1⟩ := h1
  obtain ⟨A, c, lI1, hv, hI1, hJ1⟩ := open_nums t1
  injection hv with e1 e2 e3
  subst e1 e2 e3
  refine (siSer_any a0 cap0 l0 aI1 cI1 lI1 W hl0 hn0 hm0 hI1 hJ1).mono fun e W2 he => ?_
  obtain ⟨he, hb⟩ := he
  subst he
  exact ⟨_, rfl, [d0, d1], [], (p0 ++ p1) ++ [], [], (p0 ++ p1), [], hW', trodAll_mk1 (shut_bool Try.underlying4 true), Below.trodAll hb (by kernel_rfl) hA (fun x hx => hlt x (List.mem_append.2 (.inl hx))), rfl, hb.frame _, fun h => by cases h⟩

theorem siSer_holds : Rows.SiSerSaid :=
  OpenClaim.holds_of_wide 3 Try.f3 rfl rfl rfl rfl rfl rfl rfl ⟨rfl, rfl, rfl, rfl, rfl⟩ rfl rfl rfl rfl rfl (by kernel_rfl) Try.func3 (by kernel_rfl)
    (of_decide_eq_true (by kernel_rfl)) (by unfold Func.isWrapper; first | (rw [if_pos (by decide +kernel)]; kernel_rfl) | (rw [if_neg (by decide +kernel)]; exact ⟨rfl, rfl⟩))
    (fun os started H enc _ => siSer_lifted os started H enc)
#print axioms siSer_holds
end Go.Proofs.Ytfhnamomiaekdaa
