/-
  SearchTells: the tied card: for every input the law returns true, and the input reads behind the call as it read before; the listed variables are tied to the program's text.
-/
import Derived.Test.YtpjechjoijjhpaaGreatDoorZ45
import Derived.Test.YtpjechjoijjhpaaGreatDoorZ26
set_option linter.unusedVariables false
set_option linter.unusedSimpArgs false
namespace Go.Proofs.YtpjechjoijjhpaaGreatDoor
open Go.ChangeShapes Go.WideShapes Go.ChangeAt Go.RowKit Go.Inq
set_option maxRecDepth 100000 in
theorem sV(os:Os)(started:os.Started)(H:Type)(enc:TypeId×Value→H):
 ReturnsInHanded {} Tryz.checked os 3 .any (fun w args=>(Rows.searchTellsSpec.pre enc Tryz.prog Tryz.f3 Rows.searchTellsRow.domain false w args∧laidMetH Tryz.prog Rows.searchTellsRow.laid w)∧sizedMet enc Tryz.prog Tryz.f3 (OpenSpec.ofChange Rows.searchTellsSpec) false w args)
  (Rows.searchTellsSpec.post enc Tryz.prog Tryz.f3 false true false false):=by
 refine lD (C:=Tryz.checked) (X:=fun w _=>laidMetH Tryz.prog Rows.searchTellsRow.laid w) (fun _ _ _ hh h=>h.of_heap hh) own started (by kernel_rfl) Tryz.func3
  (ChangeSpec.witness_shaped (enc:=enc) (C:=Tryz.checked) (os:=os) (X:=fun w _=>laidMetH Tryz.prog Rows.searchTellsRow.laid w) false (World.laidAll Tryz.prog os Rows.searchTellsRow.laid) #[.agg #[.slice none 0 0,.int .i64 0,.slice none 0 0,.slice none 0 0]] 8 (World.laidAll_os _ _ _)
   (World.shaped_of_ZipB (by kernel_rfl) (by kernel_rfl)) (by kernel_rfl) (by kernel_rfl) (by kernel_rfl)
   (by rw[MakeChecks.laidMetH_plain _ _ _ (by kernel_rfl)];exact laidMet_laidAll _ (by kernel_rfl) (by kernel_rfl))) ?_
 intro W base args ds gs before hval0 hW hL hsh;have hval:∀(j:Nat) t v,Tryz.f3.params[j]?=some t→args[j]?=some v→Value.okWide Tryz.prog W .any base t v:=hval0;have hW':=hW;obtain⟨p,q,hA0,hV,rfl,hfz,hnd⟩:=hW;have hlt:∀x∈p++q,x.block<W.heap.size:=fun x hx=>hW'.lt x hx;have hA:DataW.TrodAll enc Tryz.prog W 0 (fun _=>true) true Tryz.f3.params.toList args.toList ds p:=hA0;rw[Tryz.params3]at hA hval;obtain⟨v0,d0,rfl,rfl,h0⟩:=trodAll_one hA;obtain⟨rfl,rfl⟩:=trodVars_none hV;obtain⟨n0,t0⟩:=h0;obtain⟨cs0,rfl,hz0⟩:=okWide_struct Tryz.underlying28 (hval 0 28 v0 rfl rfl);obtain⟨aH0,cH0,lH0,lv0,aL0,cL0,lL0,aP0,cP0,lP0,he0,q0,q1,q2,q3,q4,q5,q6⟩:=FU (by kernel_rfl) t0;obtain rfl:cs0=#[.slice aH0 lH0.length cH0,.int .i64 lv0,.slice aL0 lL0.length cL0,.slice aP0 lP0.length cP0]:=Array.toList_inj.1 he0;refine(yt aH0 cH0 lH0 lv0 aL0 cL0 lL0 aP0 cP0 lP0 W q0 q1 q2 q3 q4 q5 q6 (jl.of hL (MakeChecks.laidMetH_plain _ _ _ (by kernel_rfl)) (.head _))).mono fun e W2 he=> ?_;obtain⟨he,hb⟩:=he;subst he;exact⟨_,rfl,[d0],[],p++[],[],p,[],hW',trodAll_mk1 (shut_bool Tryz.underlying4 true),Below.trodAll hb (by kernel_rfl) hA (fun x hx=>hlt x (List.mem_append.2 (.inl hx))),rfl,hb.frame _,fun h=>by cases h⟩
end Go.Proofs.YtpjechjoijjhpaaGreatDoor
