/- SearchProves: the tied card: for every input the law returns true, and the input reads behind the call as it read before; the listed variables are tied to the program's text. -/
import Derived.Test.YtfhnamomiaekdaaGreatDoorV41
import Derived.Test.YtfhnamomiaekdaaGreatDoorV29
set_option linter.unusedVariables false
set_option linter.unusedSimpArgs false
namespace Go.Proofs.YtfhnamomiaekdaaGreatDoor
open Go.ChangeShapes Go.WideShapes Go.ChangeAt Go.RowKit Go.Inq
theorem zZ:O4 Tryz.pinned.checked.prog Tryz.f9 Rows.searchProvesSpec Rows.searchProvesRow=true:=by kernel_rfl
theorem Ab:(Rows.searchProvesRow.inPlace==Tryz.pinned.checked.prog.inPlace 9)=true:=by kernel_rfl
theorem Ae:(Rows.searchProvesRow.unfollowed==Tryz.pinned.checked.prog.unfollowed 9)=true:=by kernel_rfl
theorem Ag:(Rows.searchProvesRow.recurses==Tryz.pinned.checked.prog.recurses 9)=true:=by kernel_rfl
theorem Ah:(Rows.searchProvesRow.named==Tryz.pinned.checked.prog.varsNamed 9)=true:=by kernel_rfl
theorem Ai:Dx Tryz.pinned.checked.prog Tryz.f9 Rows.searchProvesSpec Rows.searchProvesRow=true:=by kernel_rfl
theorem Aj:O5 Tryz.pinned.checked.prog Tryz.f9 Rows.searchProvesSpec Rows.searchProvesRow=true:=by kernel_rfl
theorem sV:Rows.SearchProvesSaid:=
 OpenClaim.holds_of_wide 9 Tryz.f9 rfl rfl rfl rfl rfl rfl rfl ⟨rfl,rfl,rfl,rfl,rfl⟩ rfl rfl rfl rfl rfl (by kernel_rfl) Tryz.func9 (Dy zZ Ab Ae Ag Ah Ai Aj)
  (of_decide_eq_true (by kernel_rfl)) (by unfold Func.isWrapper;first|(rw[if_pos (by decide+kernel)];kernel_rfl)|(rw[if_neg (by decide+kernel)];exact⟨rfl,rfl⟩))
  (fun os started H enc _=>qQ os started H enc)
theorem searchProves_card_holds:Rows.SearchProvesCardSaid:=
 Claim7.holds_tied_plain_at .later [] [.data] true (true, "99b8dfe929b337ca48f36e4d9671b0f705fcd0e1df1d3ebf520cca97b86ba660") false sV (fun _ h=>by cases h) (by kernel_rfl) (fun _ h=>by cases h) searchProves_row_tie rfl ⟨rfl,rfl⟩ (by kernel_rfl) rfl
  (fun f fn hf hfn=>by
   obtain rfl:f=9:=Option.some.inj ((show Tryz.prog.funcNamed Rows.searchProvesRow.func=some 9 by kernel_rfl).symm.trans hf)|>.symm;obtain rfl:fn=Tryz.f9:=(Option.some.inj (Tryz.func9.symm.trans hfn)).symm;exact⟨by kernel_rfl,fun j t ht=>by
    rw[Tryz.params9]at ht;have hm:t∈[53]:=(by simpa using Array.mem_of_getElem? ht);have hall:([53].all fun u=> !Tryz.prog.wantsStandIn u)=true:=(by kernel_rfl);exact(show Tryz.prog.wantsStandIn t=false by simpa using List.all_eq_true.1 hall t hm)⟩)
  (by kernel_rfl)
#print axioms searchProves_card_holds
end Go.Proofs.YtfhnamomiaekdaaGreatDoor
