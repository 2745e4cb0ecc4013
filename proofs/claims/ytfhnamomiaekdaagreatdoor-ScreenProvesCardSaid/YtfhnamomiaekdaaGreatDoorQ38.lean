/-
  ScreenProves: the tied card: for every input the law returns true, and the input reads behind the call as it read before; the listed variables are tied to the program's text.
-/
import Derived.Test.YtfhnamomiaekdaaGreatDoorQ37
import Derived.Test.YtfhnamomiaekdaaGreatDoorQ15
set_option linter.unusedVariables false
set_option linter.unusedSimpArgs false
namespace Go.Proofs.YtfhnamomiaekdaaGreatDoor
open Go.ChangeShapes Go.WideShapes Go.ChangeAt Go.RowKit Go.Inq
set_option maxRecDepth 100000 in
theorem oh(os:Os)(started:os.Started)(H:Type)(enc:TypeId×Value→H):
 ReturnsInHanded {} Tryz.checked os 7 .any (fun w args=>(Rows.screenProvesSpec.pre enc Tryz.prog Tryz.f7 Rows.screenProvesRow.domain false w args∧laidMetH Tryz.prog Rows.screenProvesRow.laid w)∧sizedMet enc Tryz.prog Tryz.f7 (OpenSpec.ofChange Rows.screenProvesSpec) false w args)
  (Rows.screenProvesSpec.post enc Tryz.prog Tryz.f7 false true false false):=by
 refine jq (C:=Tryz.checked) (X:=fun w _=>laidMetH Tryz.prog Rows.screenProvesRow.laid w) (fun _ _ _ hh h=>h.of_heap hh) own started (by kernel_rfl) Tryz.func7
  (ChangeSpec.witness_shaped (enc:=enc) (C:=Tryz.checked) (os:=os) (X:=fun w _=>laidMetH Tryz.prog Rows.screenProvesRow.laid w) false (World.laidAll Tryz.prog os Rows.screenProvesRow.laid) #[.agg #[.slice none 0 0],.int .i64 0] 8 (World.laidAll_os _ _ _)
   (World.shaped_of_ZipB (by kernel_rfl) (by kernel_rfl)) (by kernel_rfl) (by kernel_rfl) (by kernel_rfl)
   (by rw[MakeChecks.laidMetH_plain _ _ _ (by kernel_rfl)];exact laidMet_laidAll _ (by kernel_rfl) (by kernel_rfl))) ?_
 intro W base args ds gs before hval0 hW hL hsh;have hval:∀(j:Nat) t v,Tryz.f7.params[j]?=some t→args[j]?=some v→Value.okWide Tryz.prog W .any base t v:=hval0;have hW':=hW;obtain⟨p,q,hA0,hV,rfl,hfz,hnd⟩:=hW;have hlt:∀x∈p++q,x.block<W.heap.size:=fun x hx=>hW'.lt x hx;have hA:DataW.TrodAll enc Tryz.prog W 0 (fun _=>true) true Tryz.f7.params.toList args.toList ds p:=hA0;rw[Tryz.params7]at hA hval;obtain⟨v0,v1,d0,d1,p0,p1,rfl,rfl,rfl,h0,h1⟩:=trodAll_two hA;obtain⟨rfl,rfl⟩:=trodVars_none hV;obtain⟨n0,t0⟩:=h0;obtain⟨cs0,rfl,hz0⟩:=okWide_struct Tryz.underlying24 (hval 0 24 v0 rfl rfl);obtain⟨a0,cap0,l0,he0,hl0,hn0,hm0⟩:=Ib (by kernel_rfl) t0;obtain rfl:cs0=#[.slice a0 l0.length cap0]:=Array.toList_inj.1 he0;obtain⟨x1,rfl⟩:=okWide_int Tryz.underlying3 (hval 1 3 v1 rfl rfl);refine(tu a0 cap0 l0 x1 W hl0 hn0 hm0 (gL.of hL (MakeChecks.laidMetH_plain _ _ _ (by kernel_rfl)) (.head _))).mono fun e W2 he=> ?_;obtain⟨he,hb⟩:=he;subst he;exact⟨_,rfl,[d0,d1],[],(p0++p1)++[],[],(p0++p1),[],hW',trodAll_mk1 (shut_bool Tryz.underlying4 true),Below.trodAll hb (by kernel_rfl) hA (fun x hx=>hlt x (List.mem_append.2 (.inl hx))),rfl,hb.frame _,fun h=>by cases h⟩
end Go.Proofs.YtfhnamomiaekdaaGreatDoor
