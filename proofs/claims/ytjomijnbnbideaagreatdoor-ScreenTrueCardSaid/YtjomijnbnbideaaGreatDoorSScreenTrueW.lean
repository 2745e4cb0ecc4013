/-
  ScreenTrue: the tied card: for every input the law returns true, and the input reads behind the call as it read before; the listed variables are tied to the program's text.
-/
import Derived.Test.YtjomijnbnbideaaGreatDoorSScreenTrueWC
import Derived.Test.YtjomijnbnbideaaGreatDoorS31
set_option linter.unusedVariables false
set_option linter.unusedSimpArgs false
namespace Go.Proofs.YtjomijnbnbideaaGreatDoor
open Go.ChangeShapes Go.WideShapes Go.ChangeAt Go.RowKit Go.Inq

set_option maxRecDepth 100000 in
theorem screenTrue_lifted (os : Os) (started : os.Started) (H : Type) (enc : TypeId × Value → H) :
    ReturnsInHanded {} Tryz.checked os 6 .any (fun w args => (Rows.screenTrueSpec.pre enc Tryz.prog Tryz.f6 Rows.screenTrueRow.domain false w args ∧ laidMetH Tryz.prog Rows.screenTrueRow.laid w) ∧ sizedMet enc Tryz.prog Tryz.f6 (OpenSpec.ofChange Rows.screenTrueSpec) false w args)
      (Rows.screenTrueSpec.post enc Tryz.prog Tryz.f6 false true false false) := by
  refine returnsInHanded_shaped_and (C := Tryz.checked) (X := fun w _ => laidMetH Tryz.prog Rows.screenTrueRow.laid w) (fun _ _ _ hh h => h.of_heap hh) own started (by kernel_rfl) Tryz.func6
    (ChangeSpec.witness_shaped (enc := enc) (C := Tryz.checked) (os := os) (X := fun w _ => laidMetH Tryz.prog Rows.screenTrueRow.laid w) false (World.laidAll Tryz.prog os Rows.screenTrueRow.laid) #[.agg #[.slice none 0 0], .int .i64 0] 8 (World.laidAll_os _ _ _)
      (World.shaped_of_ZipB (by kernel_rfl) (by kernel_rfl)) (by kernel_rfl) (by kernel_rfl) (by kernel_rfl)
      (by rw [MakeChecks.laidMetH_plain _ _ _ (by kernel_rfl)]; exact laidMet_laidAll _ (by kernel_rfl) (by kernel_rfl))) ?_
  intro W base args ds gs before hval0 hW hL hsh
  have hval : ∀ (j : Nat) t v, Tryz.f6.params[j]? = some t → args[j]? = some v → Value.okWide Tryz.prog W .any base t v := hval0
  have hW' := hW
  obtain ⟨p, q, hA0, hV, rfl, hfz, hnd⟩ := hW
  have hlt : ∀ x ∈ p ++ q, x.block < W.heap.size := fun x hx => hW'.lt x hx
  have hA : DataW.TrodAll enc Tryz.prog W 0 (fun _ => true) true Tryz.f6.params.toList args.toList ds p := hA0
  rw [Tryz.params6] at hA hval
  obtain ⟨v0, v1, d0, d1, p0, p1, rfl, rfl, rfl, h0, h1⟩ := trodAll_two hA
  obtain ⟨rfl, rfl⟩ := trodVars_none hV
  obtain ⟨n0, t0⟩ := h0
  obtain ⟨cs0, rfl, hz0⟩ := okWide_struct Tryz.underlying24 (hval 0 24 v0 rfl rfl)
  obtain ⟨a0, cap0, l0, he0, hl0, hn0, hm0⟩ := open_hist (by kernel_rfl) t0
  obtain rfl : cs0 = #[.slice a0 l0.length cap0] := Array.toList_inj.1 he0
  obtain ⟨x1, rfl⟩ := okWide_int Tryz.underlying3 (hval 1 3 v1 rfl rfl)
  refine (screenTrue_any a0 cap0 l0 x1 W hl0 hn0 hm0 (TabB.of hL (MakeChecks.laidMetH_plain _ _ _ (by kernel_rfl)) (.head _))).mono fun e W2 he => ?_
  obtain ⟨he, hb⟩ := he
  subst he
  exact ⟨_, rfl, [d0, d1], [], (p0 ++ p1) ++ [], [], (p0 ++ p1), [], hW', trodAll_mk1 (shut_bool Tryz.underlying4 true), Below.trodAll hb (by kernel_rfl) hA (fun x hx => hlt x (List.mem_append.2 (.inl hx))), rfl, hb.frame _, fun h => by cases h⟩

theorem screenTrue_holds : Rows.ScreenTrueSaid :=
  OpenClaim.holds_of_wide 6 Tryz.f6 rfl rfl rfl rfl rfl rfl rfl ⟨rfl, rfl, rfl, rfl, rfl⟩ rfl rfl rfl rfl rfl (by kernel_rfl) Tryz.func6 (by kernel_rfl)
    (of_decide_eq_true (by kernel_rfl)) (by unfold Func.isWrapper; first | (rw [if_pos (by decide +kernel)]; kernel_rfl) | (rw [if_neg (by decide +kernel)]; exact ⟨rfl, rfl⟩))
    (fun os started H enc _ => screenTrue_lifted os started H enc)
theorem screenTrue_card_holds : Rows.ScreenTrueCardSaid :=
  Claim7.holds_tied_plain_at .later [] [.data] true (true, "b0efe9e99674400e280ea1a23a13eec5d1b686fa42771ae2dadb0efcfea19ec7") false screenTrue_holds (fun _ h => by cases h) (by kernel_rfl) (fun _ h => by cases h) screenTrue_row_tie rfl ⟨rfl, rfl⟩ (by kernel_rfl) rfl
    (fun f fn hf hfn => by
      obtain rfl : f = 6 := Option.some.inj ((show Tryz.prog.funcNamed Rows.screenTrueRow.func = some 6 by kernel_rfl).symm.trans hf) |>.symm
      obtain rfl : fn = Tryz.f6 := (Option.some.inj (Tryz.func6.symm.trans hfn)).symm
      exact ⟨by kernel_rfl, fun j t ht => by
        rw [Tryz.params6] at ht
        have hm : t ∈ [24, 3] := by simpa using Array.mem_of_getElem? ht
        have hall : ([24, 3].all fun u => !Tryz.prog.wantsStandIn u) = true := by kernel_rfl
        exact (show Tryz.prog.wantsStandIn t = false by simpa using List.all_eq_true.1 hall t hm)⟩)
    (by kernel_rfl)
#print axioms screenTrue_card_holds
end Go.Proofs.YtjomijnbnbideaaGreatDoor
