/- ScreenProves: the tied card: for every input the law returns true, and the input reads behind the call as it read before; the listed variables are tied to the program's text. -/
import Derived.Test.YtfhnamomiaekdaaGreatDoorQ38
import Derived.Test.YtfhnamomiaekdaaGreatDoorQ15
set_option linter.unusedVariables false
set_option linter.unusedSimpArgs false
namespace Go.Proofs.YtfhnamomiaekdaaGreatDoor
open Go.ChangeShapes Go.WideShapes Go.ChangeAt Go.RowKit Go.Inq
theorem xK:KE Tryz.pinned.checked.prog Tryz.f7 Rows.screenProvesSpec Rows.screenProvesRow=true:=by kernel_rfl
theorem xL:(Rows.screenProvesRow.inPlace==Tryz.pinned.checked.prog.inPlace 7)=true:=by kernel_rfl
theorem xM:(Rows.screenProvesRow.unfollowed==Tryz.pinned.checked.prog.unfollowed 7)=true:=by kernel_rfl
theorem xO:(Rows.screenProvesRow.recurses==Tryz.pinned.checked.prog.recurses 7)=true:=by kernel_rfl
theorem xP:(Rows.screenProvesRow.named==Tryz.pinned.checked.prog.varsNamed 7)=true:=by kernel_rfl
theorem xQ:Fz Tryz.pinned.checked.prog Tryz.f7 Rows.screenProvesSpec Rows.screenProvesRow=true:=by kernel_rfl
theorem xR:KF Tryz.pinned.checked.prog Tryz.f7 Rows.screenProvesSpec Rows.screenProvesRow=true:=by kernel_rfl
theorem qj:Rows.ScreenProvesSaid:=
 OpenClaim.holds_of_wide 7 Tryz.f7 rfl rfl rfl rfl rfl rfl rfl ⟨rfl,rfl,rfl,rfl,rfl⟩ rfl rfl rfl rfl rfl (by kernel_rfl) Tryz.func7 (zZ xK xL xM xO xP xQ xR)
  (of_decide_eq_true (by kernel_rfl)) (by unfold Func.isWrapper;first|(rw[if_pos (by decide+kernel)];kernel_rfl)|(rw[if_neg (by decide+kernel)];exact⟨rfl,rfl⟩))
  (fun os started H enc _=>oh os started H enc)
theorem screenProves_card_holds:Rows.ScreenProvesCardSaid:=
 Claim7.holds_tied_plain_at .later [] [.data] true (true, "99b8dfe929b337ca48f36e4d9671b0f705fcd0e1df1d3ebf520cca97b86ba660") false qj (fun _ h=>by cases h) (by kernel_rfl) (fun _ h=>by cases h) screenProves_row_tie rfl ⟨rfl,rfl⟩ (by kernel_rfl) rfl
  (fun f fn hf hfn=>by
   obtain rfl:f=7:=Option.some.inj ((show Tryz.prog.funcNamed Rows.screenProvesRow.func=some 7 by kernel_rfl).symm.trans hf)|>.symm;obtain rfl:fn=Tryz.f7:=(Option.some.inj (Tryz.func7.symm.trans hfn)).symm;exact⟨by kernel_rfl,fun j t ht=>by
    rw[Tryz.params7]at ht;have hm:t∈[24,3]:=(by simpa using Array.mem_of_getElem? ht);have hall:([24,3].all fun u=> !Tryz.prog.wantsStandIn u)=true:=(by kernel_rfl);exact(show Tryz.prog.wantsStandIn t=false by simpa using List.all_eq_true.1 hall t hm)⟩)
  (by kernel_rfl)
#print axioms screenProves_card_holds
end Go.Proofs.YtfhnamomiaekdaaGreatDoor
