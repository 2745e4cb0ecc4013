/- SearchTells: the tied card: for every input the law returns true, and the input reads behind the call as it read before; the listed variables are tied to the program's text. -/
import Derived.Test.YtpjechjoijjhpaaGreatDoorZ46
import Derived.Test.YtpjechjoijjhpaaGreatDoorZ26
set_option linter.unusedVariables false
set_option linter.unusedSimpArgs false
namespace Go.Proofs.YtpjechjoijjhpaaGreatDoor
open Go.ChangeShapes Go.WideShapes Go.ChangeAt Go.RowKit Go.Inq
theorem BH:O9 Tryz.pinned.checked.prog Tryz.f3 Rows.searchTellsSpec Rows.searchTellsRow=true:=by kernel_rfl
theorem BI:(Rows.searchTellsRow.inPlace==Tryz.pinned.checked.prog.inPlace 3)=true:=by kernel_rfl
theorem BJ:(Rows.searchTellsRow.unfollowed==Tryz.pinned.checked.prog.unfollowed 3)=true:=by kernel_rfl
theorem BK:(Rows.searchTellsRow.recurses==Tryz.pinned.checked.prog.recurses 3)=true:=by kernel_rfl
theorem BL:(Rows.searchTellsRow.named==Tryz.pinned.checked.prog.varsNamed 3)=true:=by kernel_rfl
theorem BM:DV Tryz.pinned.checked.prog Tryz.f3 Rows.searchTellsSpec Rows.searchTellsRow=true:=by kernel_rfl
theorem BN:Pb Tryz.pinned.checked.prog Tryz.f3 Rows.searchTellsSpec Rows.searchTellsRow=true:=by kernel_rfl
theorem vv:Rows.SearchTellsSaid:=
 OpenClaim.holds_of_wide 3 Tryz.f3 rfl rfl rfl rfl rfl rfl rfl ⟨rfl,rfl,rfl,rfl,rfl⟩ rfl rfl rfl rfl rfl (by kernel_rfl) Tryz.func3 (DW BH BI BJ BK BL BM BN)
  (of_decide_eq_true (by kernel_rfl)) (by unfold Func.isWrapper;first|(rw[if_pos (by decide+kernel)];kernel_rfl)|(rw[if_neg (by decide+kernel)];exact⟨rfl,rfl⟩))
  (fun os started H enc _=>sV os started H enc)
theorem searchTells_card_holds:Rows.SearchTellsCardSaid:=
 Claim7.holds_tied_plain_at .later [] [.data] true (true, "1047271e990000cdc4c056f37fbca1a70ac2c207e3fa6a550f952cb85e9ad440") false vv (fun _ h=>by cases h) (by kernel_rfl) (fun _ h=>by cases h) searchTells_row_tie rfl ⟨rfl,rfl⟩ (by kernel_rfl) rfl
  (fun f fn hf hfn=>by
   obtain rfl:f=3:=Option.some.inj ((show Tryz.prog.funcNamed Rows.searchTellsRow.func=some 3 by kernel_rfl).symm.trans hf)|>.symm;obtain rfl:fn=Tryz.f3:=(Option.some.inj (Tryz.func3.symm.trans hfn)).symm;exact⟨by kernel_rfl,fun j t ht=>by
    rw[Tryz.params3]at ht;have hm:t∈[28]:=(by simpa using Array.mem_of_getElem? ht);have hall:([28].all fun u=> !Tryz.prog.wantsStandIn u)=true:=(by kernel_rfl);exact(show Tryz.prog.wantsStandIn t=false by simpa using List.all_eq_true.1 hall t hm)⟩)
  (by kernel_rfl)
#print axioms searchTells_card_holds
end Go.Proofs.YtpjechjoijjhpaaGreatDoor
