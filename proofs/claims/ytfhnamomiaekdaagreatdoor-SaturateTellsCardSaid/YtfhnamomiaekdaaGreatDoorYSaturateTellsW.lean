/- SaturateTells: the tied card: for every input the law returns true, and the input reads behind the call as it read before; the listed variables are tied to the program's text. -/
import Derived.Test.YtfhnamomiaekdaaGreatDoorY42
import Derived.Test.YtfhnamomiaekdaaGreatDoorY23
set_option linter.unusedVariables false
set_option linter.unusedSimpArgs false
namespace Go.Proofs.YtfhnamomiaekdaaGreatDoor
open Go.ChangeShapes Go.WideShapes Go.ChangeAt Go.RowKit Go.Inq
theorem vV:LU Tryz.pinned.checked.prog Tryz.f3 Rows.saturateTellsSpec Rows.saturateTellsRow=true:=by kernel_rfl
theorem vW:(Rows.saturateTellsRow.inPlace==Tryz.pinned.checked.prog.inPlace 3)=true:=by kernel_rfl
theorem vX:(Rows.saturateTellsRow.unfollowed==Tryz.pinned.checked.prog.unfollowed 3)=true:=by kernel_rfl
theorem vY:(Rows.saturateTellsRow.recurses==Tryz.pinned.checked.prog.recurses 3)=true:=by kernel_rfl
theorem vZ:(Rows.saturateTellsRow.named==Tryz.pinned.checked.prog.varsNamed 3)=true:=by kernel_rfl
theorem wh:Bz Tryz.pinned.checked.prog Tryz.f3 Rows.saturateTellsSpec Rows.saturateTellsRow=true:=by kernel_rfl
theorem wm:LV Tryz.pinned.checked.prog Tryz.f3 Rows.saturateTellsSpec Rows.saturateTellsRow=true:=by kernel_rfl
theorem ql:Rows.SaturateTellsSaid:=
 OpenClaim.holds_of_wide 3 Tryz.f3 rfl rfl rfl rfl rfl rfl rfl ⟨rfl,rfl,rfl,rfl,rfl⟩ rfl rfl rfl rfl rfl (by kernel_rfl) Tryz.func3 (BA vV vW vX vY vZ wh wm)
  (of_decide_eq_true (by kernel_rfl)) (by unfold Func.isWrapper;first|(rw[if_pos (by decide+kernel)];kernel_rfl)|(rw[if_neg (by decide+kernel)];exact⟨rfl,rfl⟩))
  (fun os started H enc _=>pG os started H enc)
theorem saturateTells_card_holds:Rows.SaturateTellsCardSaid:=
 Claim7.holds_tied_plain_at .later [] [.data] true (true, "99b8dfe929b337ca48f36e4d9671b0f705fcd0e1df1d3ebf520cca97b86ba660") false ql (fun _ h=>by cases h) (by kernel_rfl) (fun _ h=>by cases h) saturateTells_row_tie rfl ⟨rfl,rfl⟩ (by kernel_rfl) rfl
  (fun f fn hf hfn=>by
   obtain rfl:f=3:=Option.some.inj ((show Tryz.prog.funcNamed Rows.saturateTellsRow.func=some 3 by kernel_rfl).symm.trans hf)|>.symm;obtain rfl:fn=Tryz.f3:=(Option.some.inj (Tryz.func3.symm.trans hfn)).symm;exact⟨by kernel_rfl,fun j t ht=>by
    rw[Tryz.params3]at ht;have hm:t∈[29]:=(by simpa using Array.mem_of_getElem? ht);have hall:([29].all fun u=> !Tryz.prog.wantsStandIn u)=true:=(by kernel_rfl);exact(show Tryz.prog.wantsStandIn t=false by simpa using List.all_eq_true.1 hall t hm)⟩)
  (by kernel_rfl)
#print axioms saturateTells_card_holds
end Go.Proofs.YtfhnamomiaekdaaGreatDoor
