/- SaturateProves: the tied card: for every input the law returns true, and the input reads behind the call as it read before; the listed variables are tied to the program's text. -/
import Derived.Test.YtfhnamomiaekdaaGreatDoorU40
import Derived.Test.YtfhnamomiaekdaaGreatDoorU23
set_option linter.unusedVariables false
set_option linter.unusedSimpArgs false
namespace Go.Proofs.YtfhnamomiaekdaaGreatDoor
open Go.ChangeShapes Go.WideShapes Go.ChangeAt Go.RowKit Go.Inq
theorem uZ:Nq Tryz.pinned.checked.prog Tryz.f8 Rows.saturateProvesSpec Rows.saturateProvesRow=true:=by kernel_rfl
theorem u6:(Rows.saturateProvesRow.inPlace==Tryz.pinned.checked.prog.inPlace 8)=true:=by kernel_rfl
theorem u7:(Rows.saturateProvesRow.unfollowed==Tryz.pinned.checked.prog.unfollowed 8)=true:=by kernel_rfl
theorem vg:(Rows.saturateProvesRow.recurses==Tryz.pinned.checked.prog.recurses 8)=true:=by kernel_rfl
theorem vv:(Rows.saturateProvesRow.named==Tryz.pinned.checked.prog.varsNamed 8)=true:=by kernel_rfl
theorem vB:dL Tryz.pinned.checked.prog Tryz.f8 Rows.saturateProvesSpec Rows.saturateProvesRow=true:=by kernel_rfl
theorem vC:Nr Tryz.pinned.checked.prog Tryz.f8 Rows.saturateProvesSpec Rows.saturateProvesRow=true:=by kernel_rfl
theorem pR:Rows.SaturateProvesSaid:=
 OpenClaim.holds_of_wide 8 Tryz.f8 rfl rfl rfl rfl rfl rfl rfl ⟨rfl,rfl,rfl,rfl,rfl⟩ rfl rfl rfl rfl rfl (by kernel_rfl) Tryz.func8 (Ck uZ u6 u7 vg vv vB vC)
  (of_decide_eq_true (by kernel_rfl)) (by unfold Func.isWrapper;first|(rw[if_pos (by decide+kernel)];kernel_rfl)|(rw[if_neg (by decide+kernel)];exact⟨rfl,rfl⟩))
  (fun os started H enc _=>nX os started H enc)
theorem saturateProves_card_holds:Rows.SaturateProvesCardSaid:=
 Claim7.holds_tied_plain_at .later [] [.data] true (true, "99b8dfe929b337ca48f36e4d9671b0f705fcd0e1df1d3ebf520cca97b86ba660") false pR (fun _ h=>by cases h) (by kernel_rfl) (fun _ h=>by cases h) saturateProves_row_tie rfl ⟨rfl,rfl⟩ (by kernel_rfl) rfl
  (fun f fn hf hfn=>by
   obtain rfl:f=8:=Option.some.inj ((show Tryz.prog.funcNamed Rows.saturateProvesRow.func=some 8 by kernel_rfl).symm.trans hf)|>.symm;obtain rfl:fn=Tryz.f8:=(Option.some.inj (Tryz.func8.symm.trans hfn)).symm;exact⟨by kernel_rfl,fun j t ht=>by
    rw[Tryz.params8]at ht;have hm:t∈[29]:=(by simpa using Array.mem_of_getElem? ht);have hall:([29].all fun u=> !Tryz.prog.wantsStandIn u)=true:=(by kernel_rfl);exact(show Tryz.prog.wantsStandIn t=false by simpa using List.all_eq_true.1 hall t hm)⟩)
  (by kernel_rfl)
#print axioms saturateProves_card_holds
end Go.Proofs.YtfhnamomiaekdaaGreatDoor
