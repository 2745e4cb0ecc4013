/- SearchEnds: the tied card. -/
import Derived.Test.YtjomijnbnbideaaGreatDoorGSearchEndsWB
import Derived.Test.YtjomijnbnbideaaGreatDoorG47
set_option linter.unusedVariables false
set_option linter.unusedSimpArgs false
namespace Go.Proofs.YtjomijnbnbideaaGreatDoor
open Go.ChangeShapes Go.WideShapes Go.ChangeAt Go.RowKit Go.Inq

theorem sePE : joinE Tryz.pinned.checked.prog Tryz.f12 Rows.searchEndsSpec Rows.searchEndsRow = true := by kernel_rfl
theorem sePA : (Rows.searchEndsRow.inPlace == Tryz.pinned.checked.prog.inPlace 12) = true := by kernel_rfl
theorem sePB : (Rows.searchEndsRow.unfollowed == Tryz.pinned.checked.prog.unfollowed 12) = true := by kernel_rfl
theorem sePC : (Rows.searchEndsRow.recurses == Tryz.pinned.checked.prog.recurses 12) = true := by kernel_rfl
theorem sePD : (Rows.searchEndsRow.named == Tryz.pinned.checked.prog.varsNamed 12) = true := by kernel_rfl
theorem sePF : joinF Tryz.pinned.checked.prog Tryz.f12 Rows.searchEndsSpec Rows.searchEndsRow = true := by kernel_rfl
theorem sePG : joinG Tryz.pinned.checked.prog Tryz.f12 Rows.searchEndsSpec Rows.searchEndsRow = true := by kernel_rfl
theorem searchEnds_holds : Rows.SearchEndsSaid :=
  OpenClaim.holds_of_wide 12 Tryz.f12 rfl rfl rfl rfl rfl rfl rfl ⟨rfl, rfl, rfl, rfl, rfl⟩ rfl rfl rfl rfl rfl (by kernel_rfl) Tryz.func12 (joined_parts sePE sePA sePB sePC sePD sePF sePG)
    (of_decide_eq_true (by kernel_rfl)) (by unfold Func.isWrapper; first | (rw [if_pos (by decide +kernel)]; kernel_rfl) | (rw [if_neg (by decide +kernel)]; exact ⟨rfl, rfl⟩))
    (fun os started H enc _ => searchEnds_lifted os started H enc)
theorem searchEnds_card_holds : Rows.SearchEndsCardSaid :=
  Claim7.holds_tied_plain_at .later [] [.data] true (true, "b0efe9e99674400e280ea1a23a13eec5d1b686fa42771ae2dadb0efcfea19ec7") false searchEnds_holds (fun _ h => by cases h) (by kernel_rfl) (fun _ h => by cases h) searchEnds_row_tie rfl ⟨rfl, rfl⟩ (by kernel_rfl) rfl
    (fun f fn hf hfn => by
      obtain rfl : f = 12 := Option.some.inj ((show Tryz.prog.funcNamed Rows.searchEndsRow.func = some 12 by kernel_rfl).symm.trans hf) |>.symm
      obtain rfl : fn = Tryz.f12 := (Option.some.inj (Tryz.func12.symm.trans hfn)).symm
      exact ⟨by kernel_rfl, fun j t ht => by
        rw [Tryz.params12] at ht
        have hm : t ∈ [24, 3, 33] := by simpa using Array.mem_of_getElem? ht
        have hall : ([24, 3, 33].all fun u => !Tryz.prog.wantsStandIn u) = true := by kernel_rfl
        exact (show Tryz.prog.wantsStandIn t = false by simpa using List.all_eq_true.1 hall t hm)⟩)
    (by kernel_rfl)
#print axioms searchEnds_card_holds
end Go.Proofs.YtjomijnbnbideaaGreatDoor
