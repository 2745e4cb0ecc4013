/-
  Walks: HistBack.
-/
import Derived.Test.YtphcebgpllecjaaDoorC30
set_option linter.unusedVariables false
set_option linter.unusedSimpArgs false
namespace Go.Proofs.YtphcebgpllecjaaDoor
open Go.RowKit Go.Inq
set_option maxHeartbeats 4000000
attribute [local go_sem ↓] Go.wp_at_zero Go.wp_at_succ

set_option maxRecDepth 100000 in
theorem histBack_any (A : Option Addr) (c : Nat) (H : List Txn) (w : World) (h : TxnS w (Old w) (.slice A H.length c) H) (hn : H.length ≤ maxLen) (hns : ∀ t ∈ H, t.writes.length ≤ maxLen ∧ t.reads.length ≤ maxLen) (henv : Env w) :
    Calls Tryd.prog 3 #[.agg #[.slice A H.length c]] w fun e w' => e = .returned (.bool true) ∧ Below w.heap.size w w' := by
  have hA : Below w.heap.size w (w.alloc (.cells #[.slice A H.length c] 24)) := (Below.refl _ _).alloc (Nat.le_refl _) _
  have k0 : Blk (w.alloc (.cells #[.slice A H.length c] 24)) w.heap.size 24 #[.slice A H.length c] := Blk.new _ _ _
  have h0 := TxnS.below h hA
  have e0 := henv.below hA
  have hemp : (mk []).toList = [] := by rw [Lib.toList_data]; rfl
  go_enter Tryd.func3, Tryd.ntmps3
  go_wp2_with fail
  refine (awake8_any _ e0).mono ?_
  rintro e w1 ⟨rfl, hb1⟩
  have k1 := k0.below hb1 k0.lt
  have h1 := TxnS.below h0 hb1
  have e1 := e0.below hb1
  have B1 := hA.trans (hb1.mono hA.size)
  clear k0 h0 e0 hA hb1
  have y0 := k1.cell 0
  simp only [List.getElem?_toArray, List.getElem?_cons_zero] at y0
  go_wp2_with fail
  refine (few8_any A c H w1 h1 hn hns).mono ?_
  rintro e w2 ⟨rfl, hb2⟩
  have k2 := k1.below hb2 k1.lt
  have h2 := TxnS.below h1 hb2
  have e2 := e1.below hb2
  have B2 := B1.trans (hb2.mono B1.size)
  clear k1 h1 e1 B1 hb2 y0
  have y0 := k2.cell 0
  simp only [List.getElem?_toArray, List.getElem?_cons_zero] at y0
  dsimp only
  cases hf : fewH H with
  | false =>
    go_wp2
    go_ret
    exact ⟨rfl, B2⟩
  | true =>
    have hs := fewH_small hf
    clear hf hns
    have hc := show8_any A c H w2 h2 hs e2
    go_wp2_with fail
    refine hc.mono ?_
    rintro e w3 ⟨rfl, hb3⟩
    have k3 := k2.below hb3 k2.lt
    have h3 := TxnS.below h2 hb3
    have e3 := e2.below hb3
    have B3 := B2.trans (hb3.mono B2.size)
    clear k2 h2 e2 B2 hb3 y0 hc
    have y0 := k3.cell 0
    simp only [List.getElem?_toArray, List.getElem?_cons_zero] at y0
    have hc := right8_any A c H w3 h3 hs
    have hbad := hide (showH_bad (H := H))
    have hway := hide (showH_ways (H := H))
    have hbk := hide (fun g => hist_back (H := H) g)
    go_wp2_with fail
    refine hc.mono ?_
    rintro e w4 ⟨rfl, hb4⟩
    have k4 := k3.below hb4 k3.lt
    have h4 := TxnS.below h3 hb4
    have e4 := e3.below hb4
    have B4 := B3.trans (hb4.mono B3.size)
    clear k3 h3 e3 B3 hb4 y0 hc
    have y0 := k4.cell 0
    simp only [List.getElem?_toArray, List.getElem?_cons_zero] at y0
    dsimp only
    cases hr : rightH H with
    | false =>
      have hsh := hbad.out hr
      rw [hsh]
      clear hsh hbad hway hbk hr
      go_wp2
      go_ret
      exact ⟨rfl, B4⟩
    | true =>
      rcases hway.out hr with hz | hz
      · obtain ⟨_, hp⟩ := hbk.out hz
        have hsl := showH_len H
        generalize showH H = t at *
        obtain ⟨tx, g⟩ := t
        dsimp only at hz hp hsl ⊢
        subst hz
        have hsz : (mk tx).size ≤ 1000000 := by rw [show (mk tx).size = tx.length from by simp [mk, ByteArray.size]]; exact hsl
        have hc := parse8_any (mk tx) w4 hsz e4
        rw [show (mk tx).data.toList = tx from by simp [mk], hp] at hc
        clear hp hbad hway hbk hr
        go_wp2_with fail
        refine hc.mono ?_
        clear hc
        intro e w5 ho
        obtain ⟨A5, c5, rfl, r5, hb5⟩ := ho.open
        dsimp only at r5
        clear ho
        have hb6 := hb5.alloc hb5.size (.cells #[.slice A5 H.length c5] 24)
        have g6 : Blk (w5.alloc (.cells #[.slice A5 H.length c5] 24)) w5.heap.size 24 #[.slice A5 H.length c5] := Blk.new _ _ _
        have r6 := TxnS.below r5 ((Below.refl _ _).alloc (Nat.le_refl _) (.cells #[.slice A5 H.length c5] 24))
        have h6 := TxnS.below h4 hb6
        have k6 := k4.below hb6 k4.lt
        have B6 := B4.trans (hb6.mono B4.size)
        clear k4 h4 e4 B4 hb6 y0 hb5 r5
        have y0 := k6.cell 0
        have z0 := g6.cell 0
        simp only [List.getElem?_toArray, List.getElem?_cons_zero] at y0 z0
        go_wp2_with fail
        refine (same07_any A5 A c5 c H H _ r6 h6 hs hs).mono ?_
        rintro e w7 ⟨rfl, hb7⟩
        simp only [decide_true]
        go_wp2
        go_ret
        exact ⟨by simp, B6.trans (hb7.mono B6.size)⟩
      · rw [hz]
        clear hbad hway hbk hr hz
        go_wp2
        go_ret
        exact ⟨rfl, B4⟩
end Go.Proofs.YtphcebgpllecjaaDoor

namespace Go.Proofs.YtphcebgpllecjaaDoor
open Go.ChangeShapes Go.WideShapes Go.ChangeAt Go.RowKit Go.Inq

set_option maxRecDepth 100000 in
theorem histBack_lifted (os : Os) (started : os.Started) (H : Type) (enc : TypeId × Value → H) :
    ReturnsInHanded {} Tryd.checked os 3 .any (fun w args => (Rows.histBackSpec.pre enc Tryd.prog Tryd.f3 Rows.histBackRow.domain false w args ∧ laidMetH Tryd.prog Rows.histBackRow.laid w) ∧ sizedMet enc Tryd.prog Tryd.f3 (OpenSpec.ofChange Rows.histBackSpec) false w args)
      (Rows.histBackSpec.post enc Tryd.prog Tryd.f3 false true false false) := by
  refine returnsInHanded_shaped_and (C := Tryd.checked) (X := fun w _ => laidMetH Tryd.prog Rows.histBackRow.laid w) (fun _ _ _ hh h => h.of_heap hh) own started (by kernel_rfl) Tryd.func3
    (ChangeSpec.witness_shaped (enc := enc) (C := Tryd.checked) (os := os) (X := fun w _ => laidMetH Tryd.prog Rows.histBackRow.laid w) false (World.laidAll Tryd.prog os Rows.histBackRow.laid) #[.agg #[.slice none 0 0]] 8 (World.laidAll_os _ _ _)
      (World.shaped_of_ZipB (by kernel_rfl) (by kernel_rfl)) (by kernel_rfl) (by kernel_rfl) (by kernel_rfl)
      (by rw [MakeChecks.laidMetH_plain _ _ _ (by kernel_rfl)]; exact laidMet_laidAll _ (by kernel_rfl) (by kernel_rfl))) ?_
  intro W base args ds gs before hval0 hW hL hsh
  have hval : ∀ (j : Nat) t v, Tryd.f3.params[j]? = some t → args[j]? = some v → Value.okWide Tryd.prog W .any base t v := hval0
  have hW' := hW
  obtain ⟨p, q, hA0, hV, rfl, hfz, hnd⟩ := hW
  have hlt : ∀ x ∈ p ++ q, x.block < W.heap.size := fun x hx => hW'.lt x hx
  have hA : DataW.TrodAll enc Tryd.prog W 0 (fun _ => true) true Tryd.f3.params.toList args.toList ds p := hA0
  rw [Tryd.params3] at hA hval
  obtain ⟨v0, d0, rfl, rfl, h0⟩ := trodAll_one hA
  obtain ⟨rfl, rfl⟩ := trodVars_none hV
  obtain ⟨n0, t0⟩ := h0
  obtain ⟨cs0, rfl, hz0⟩ := okWide_struct Tryd.underlying24 (hval 0 24 v0 rfl rfl)
  obtain ⟨a0, cap0, l0, he0, hl0, hn0, hm0⟩ := open_hist (by kernel_rfl) t0
  obtain rfl : cs0 = #[.slice a0 l0.length cap0] := Array.toList_inj.1 he0
  refine (histBack_any a0 cap0 l0 W hl0 hn0 hm0 (Env.of hsh hL (MakeChecks.laidMetH_plain _ _ _ (by kernel_rfl)) (.tail _ (.tail _ (.head _))) (.tail _ (.tail _ (.tail _ (.tail _ (.head _))))))).mono fun e W2 he => ?_
  obtain ⟨he, hb⟩ := he
  subst he
  exact ⟨_, rfl, [d0], [], p ++ [], [], p, [], hW', trodAll_mk1 (shut_bool Tryd.underlying4 true), Below.trodAll hb (by kernel_rfl) hA (fun x hx => hlt x (List.mem_append.2 (.inl hx))), rfl, hb.frame _, fun h => by cases h⟩

theorem histBack_holds : Rows.HistBackSaid :=
  OpenClaim.holds_of_wide 3 Tryd.f3 rfl rfl rfl rfl rfl rfl rfl ⟨rfl, rfl, rfl, rfl, rfl⟩ rfl rfl rfl rfl rfl (by kernel_rfl) Tryd.func3 (by kernel_rfl)
    (of_decide_eq_true (by kernel_rfl)) (by unfold Func.isWrapper; first | (rw [if_pos (by decide +kernel)]; kernel_rfl) | (rw [if_neg (by decide +kernel)]; exact ⟨rfl, rfl⟩))
    (fun os started H enc _ => histBack_lifted os started H enc)
theorem histBack_card_holds : Rows.HistBackCardSaid :=
  Claim7.holds_tied_plain_at .later [] [.data, .data, .data, .data, .data, .pinned] true (true, "933f6c9056a38844fa0b79a43b83a0353e02b1256637b1455fcfd22ee878c74d") true histBack_holds (fun _ h => by cases h) (by kernel_rfl) (fun _ h => by cases h) histBack_row_tie rfl ⟨rfl, rfl⟩ (by kernel_rfl) rfl
    (fun f fn hf hfn => by
      obtain rfl : f = 3 := Option.some.inj ((show Tryd.prog.funcNamed Rows.histBackRow.func = some 3 by kernel_rfl).symm.trans hf) |>.symm
      obtain rfl : fn = Tryd.f3 := (Option.some.inj (Tryd.func3.symm.trans hfn)).symm
      exact ⟨by kernel_rfl, fun j t ht => by
        rw [Tryd.params3] at ht
        have hm : t ∈ [24] := by simpa using Array.mem_of_getElem? ht
        have hall : ([24].all fun u => !Tryd.prog.wantsStandIn u) = true := by kernel_rfl
        exact (show Tryd.prog.wantsStandIn t = false by simpa using List.all_eq_true.1 hall t hm)⟩)
    (by kernel_rfl)
#print axioms histBack_card_holds
end Go.Proofs.YtphcebgpllecjaaDoor
