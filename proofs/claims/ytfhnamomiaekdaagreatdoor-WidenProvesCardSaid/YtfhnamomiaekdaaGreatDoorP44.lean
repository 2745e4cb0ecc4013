/-
  WidenProves: the tied card: for every input the law returns true, and the input reads behind the call as it read before; the listed variables are tied to the program's text.
-/
import Derived.Test.YtfhnamomiaekdaaGreatDoorP43
import Derived.Test.YtfhnamomiaekdaaGreatDoorP24
set_option linter.unusedVariables false
set_option linter.unusedSimpArgs false
namespace Go.Proofs.YtfhnamomiaekdaaGreatDoor
open Go.ChangeShapes Go.WideShapes Go.ChangeAt Go.RowKit Go.Inq
set_option maxRecDepth 100000 in
theorem pG(os:Os)(started:os.Started)(H:Type)(enc:TypeId×Value→H):
 ReturnsInHanded {} Tryz.checked os 6 .any (fun w args=>(Rows.widenProvesSpec.pre enc Tryz.prog Tryz.f6 Rows.widenProvesRow.domain false w args∧laidMetH Tryz.prog Rows.widenProvesRow.laid w)∧sizedMet enc Tryz.prog Tryz.f6 (OpenSpec.ofChange Rows.widenProvesSpec) false w args)
  (Rows.widenProvesSpec.post enc Tryz.prog Tryz.f6 false true false false):=by
 refine jq (C:=Tryz.checked) (X:=fun w _=>laidMetH Tryz.prog Rows.widenProvesRow.laid w) (fun _ _ _ hh h=>h.of_heap hh) own started (by kernel_rfl) Tryz.func6
  (ChangeSpec.witness_shaped (enc:=enc) (C:=Tryz.checked) (os:=os) (X:=fun w _=>laidMetH Tryz.prog Rows.widenProvesRow.laid w) false (World.laidAll Tryz.prog os Rows.widenProvesRow.laid) #[.agg #[.slice none 0 0],.int .i64 0,.agg #[.int .i64 0,.bool false,.slice none 0 0,.slice none 0 0]] 8 (World.laidAll_os _ _ _)
   (World.shaped_of_ZipB (by kernel_rfl) (by kernel_rfl)) (by kernel_rfl) (by kernel_rfl) (by kernel_rfl)
   (by rw[MakeChecks.laidMetH_plain _ _ _ (by kernel_rfl)];exact laidMet_laidAll _ (by kernel_rfl) (by kernel_rfl))) ?_
 intro W base args ds gs before hval0 hW hL hsh;have hval:∀(j:Nat) t v,Tryz.f6.params[j]?=some t→args[j]?=some v→Value.okWide Tryz.prog W .any base t v:=hval0;have hW':=hW;obtain⟨p,q,hA0,hV,rfl,hfz,hnd⟩:=hW;have hlt:∀x∈p++q,x.block<W.heap.size:=fun x hx=>hW'.lt x hx;have hA:DataW.TrodAll enc Tryz.prog W 0 (fun _=>true) true Tryz.f6.params.toList args.toList ds p:=hA0;rw[Tryz.params6]at hA hval;obtain⟨v0,v1,v2,d0,d1,d2,p0,p1,p2,rfl,rfl,rfl,h0,h1,h2⟩:=trodAll_three hA;obtain⟨rfl,rfl⟩:=trodVars_none hV;obtain⟨n0,t0⟩:=h0;obtain⟨cs0,rfl,hz0⟩:=okWide_struct Tryz.underlying24 (hval 0 24 v0 rfl rfl);obtain⟨a0,cap0,l0,he0,hl0,hn0,hm0⟩:=Hf (by kernel_rfl) t0;obtain rfl:cs0=#[.slice a0 l0.length cap0]:=Array.toList_inj.1 he0;obtain⟨x1,rfl⟩:=okWide_int Tryz.underlying3 (hval 1 3 v1 rfl rfl);obtain⟨n2,t2⟩:=h2;obtain⟨cs2,rfl,hz2⟩:=okWide_struct Tryz.underlying84 (hval 2 84 v2 rfl rfl);obtain⟨aP2,cP2,aL2,cL2,s2,he2,hP2,hL2⟩:=DZ (by kernel_rfl) t2;obtain rfl:cs2=#[.int .i64 s2.width,.bool s2.cut,.slice aP2 s2.path.length cP2,.slice aL2 s2.left.length cL2]:=Array.toList_inj.1 he2;refine(tH a0 cap0 l0 x1 _ s2 W hl0 hn0 hm0 ⟨_,_,rfl,hP2,hL2⟩ (jB.of hL (MakeChecks.laidMetH_plain _ _ _ (by kernel_rfl)) (.head _))).mono fun e W2 he=> ?_;obtain⟨he,hb⟩:=he;subst he;exact⟨_,rfl,[d0,d1,d2],[],(p0++p1++p2)++[],[],(p0++p1++p2),[],hW',trodAll_mk1 (shut_bool Tryz.underlying4 true),Below.trodAll hb (by kernel_rfl) hA (fun x hx=>hlt x (List.mem_append.2 (.inl hx))),rfl,hb.frame _,fun h=>by cases h⟩
end Go.Proofs.YtfhnamomiaekdaaGreatDoor
