/- SearchMore: the tied card. -/
import Derived.Test.YtjomijnbnbideaaGreatDoorMSearchMoreWB
import Derived.Test.YtjomijnbnbideaaGreatDoorM35
set_option linter.unusedVariables false
set_option linter.unusedSimpArgs false
namespace Go.Proofs.YtjomijnbnbideaaGreatDoor
open Go.ChangeShapes Go.WideShapes Go.ChangeAt Go.RowKit Go.Inq

theorem smPE : joinE Tryz.pinned.checked.prog Tryz.f13 Rows.searchMoreSpec Rows.searchMoreRow = true := by kernel_rfl
theorem smPA : (Rows.searchMoreRow.inPlace == Tryz.pinned.checked.prog.inPlace 13) = true := by kernel_rfl
theorem smPB : (Rows.searchMoreRow.unfollowed == Tryz.pinned.checked.prog.unfollowed 13) = true := by kernel_rfl
theorem smPC : (Rows.searchMoreRow.recurses == Tryz.pinned.checked.prog.recurses 13) = true := by kernel_rfl
theorem smPD : (Rows.searchMoreRow.named == Tryz.pinned.checked.prog.varsNamed 13) = true := by kernel_rfl
theorem smPF : joinF Tryz.pinned.checked.prog Tryz.f13 Rows.searchMoreSpec Rows.searchMoreRow = true := by kernel_rfl
theorem smPG : joinG Tryz.pinned.checked.prog Tryz.f13 Rows.searchMoreSpec Rows.searchMoreRow = true := by kernel_rfl
theorem searchMore_holds : Rows.SearchMoreSaid :=
  OpenClaim.holds_of_wide 13 Tryz.f13 rfl rfl rfl rfl rfl rfl rfl ⟨rfl, rfl, rfl, rfl, rfl⟩ rfl rfl rfl rfl rfl (by kernel_rfl) Tryz.func13 (joined_parts smPE smPA smPB smPC smPD smPF smPG)
    (of_decide_eq_true (by kernel_rfl)) (by unfold Func.isWrapper; first | (rw [if_pos (by decide +kernel)]; kernel_rfl) | (rw [if_neg (by decide +kernel)]; exact ⟨rfl, rfl⟩))
    (fun os started H enc _ => searchMore_lifted os started H enc)
theorem searchMore_card_holds : Rows.SearchMoreCardSaid :=
  Claim7.holds_tied_plain_at .later [] [.data] true (true, "b0efe9e99674400e280ea1a23a13eec5d1b686fa42771ae2dadb0efcfea19ec7") false searchMore_holds (fun _ h => by cases h) (by kernel_rfl) (fun _ h => by cases h) searchMore_row_tie rfl ⟨rfl, rfl⟩ (by kernel_rfl) rfl
    (fun f fn hf hfn => by
      obtain rfl : f = 13 := Option.some.inj ((show Tryz.prog.funcNamed Rows.searchMoreRow.func = some 13 by kernel_rfl).symm.trans hf) |>.symm
      obtain rfl : fn = Tryz.f13 := (Option.some.inj (Tryz.func13.symm.trans hfn)).symm
      exact ⟨by kernel_rfl, fun j t ht => by
        rw [Tryz.params13] at ht
        have hm : t ∈ [82, 51] := by simpa using Array.mem_of_getElem? ht
        have hall : ([82, 51].all fun u => !Tryz.prog.wantsStandIn u) = true := by kernel_rfl
        exact (show Tryz.prog.wantsStandIn t = false by simpa using List.all_eq_true.1 hall t hm)⟩)
    (by kernel_rfl)
#print axioms searchMore_card_holds
end Go.Proofs.YtjomijnbnbideaaGreatDoor
