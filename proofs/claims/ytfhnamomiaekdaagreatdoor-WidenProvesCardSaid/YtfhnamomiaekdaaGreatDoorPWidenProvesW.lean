/- WidenProves: the tied card: for every input the law returns true, and the input reads behind the call as it read before; the listed variables are tied to the program's text. -/
import Derived.Test.YtfhnamomiaekdaaGreatDoorP44
import Derived.Test.YtfhnamomiaekdaaGreatDoorP24
set_option linter.unusedVariables false
set_option linter.unusedSimpArgs false
namespace Go.Proofs.YtfhnamomiaekdaaGreatDoor
open Go.ChangeShapes Go.WideShapes Go.ChangeAt Go.RowKit Go.Inq
theorem wY:J3 Tryz.pinned.checked.prog Tryz.f6 Rows.widenProvesSpec Rows.widenProvesRow=true:=by kernel_rfl
theorem wZ:(Rows.widenProvesRow.inPlace==Tryz.pinned.checked.prog.inPlace 6)=true:=by kernel_rfl
theorem xg:(Rows.widenProvesRow.unfollowed==Tryz.pinned.checked.prog.unfollowed 6)=true:=by kernel_rfl
theorem xq:(Rows.widenProvesRow.recurses==Tryz.pinned.checked.prog.recurses 6)=true:=by kernel_rfl
theorem xu:(Rows.widenProvesRow.named==Tryz.pinned.checked.prog.varsNamed 6)=true:=by kernel_rfl
theorem xA:Fb Tryz.pinned.checked.prog Tryz.f6 Rows.widenProvesSpec Rows.widenProvesRow=true:=by kernel_rfl
theorem xB:J4 Tryz.pinned.checked.prog Tryz.f6 Rows.widenProvesSpec Rows.widenProvesRow=true:=by kernel_rfl
theorem qO:Rows.WidenProvesSaid:=
 OpenClaim.holds_of_wide 6 Tryz.f6 rfl rfl rfl rfl rfl rfl rfl ⟨rfl,rfl,rfl,rfl,rfl⟩ rfl rfl rfl rfl rfl (by kernel_rfl) Tryz.func6 (zm wY wZ xg xq xu xA xB)
  (of_decide_eq_true (by kernel_rfl)) (by unfold Func.isWrapper;first|(rw[if_pos (by decide+kernel)];kernel_rfl)|(rw[if_neg (by decide+kernel)];exact⟨rfl,rfl⟩))
  (fun os started H enc _=>pG os started H enc)
theorem widenProves_card_holds:Rows.WidenProvesCardSaid:=
 Claim7.holds_tied_plain_at .later [] [.data] true (true, "99b8dfe929b337ca48f36e4d9671b0f705fcd0e1df1d3ebf520cca97b86ba660") false qO (fun _ h=>by cases h) (by kernel_rfl) (fun _ h=>by cases h) widenProves_row_tie rfl ⟨rfl,rfl⟩ (by kernel_rfl) rfl
  (fun f fn hf hfn=>by
   obtain rfl:f=6:=Option.some.inj ((show Tryz.prog.funcNamed Rows.widenProvesRow.func=some 6 by kernel_rfl).symm.trans hf)|>.symm;obtain rfl:fn=Tryz.f6:=(Option.some.inj (Tryz.func6.symm.trans hfn)).symm;exact⟨by kernel_rfl,fun j t ht=>by
    rw[Tryz.params6]at ht;have hm:t∈[24,3,84]:=(by simpa using Array.mem_of_getElem? ht);have hall:([24,3,84].all fun u=> !Tryz.prog.wantsStandIn u)=true:=(by kernel_rfl);exact(show Tryz.prog.wantsStandIn t=false by simpa using List.all_eq_true.1 hall t hm)⟩)
  (by kernel_rfl)
#print axioms widenProves_card_holds
end Go.Proofs.YtfhnamomiaekdaaGreatDoor
