/-
  Walks: law 31: a path, as the reference has it; layer 31's reference: paths that are the same are the same.
-/
import Derived.Test.YtpjechjoijjhpaaGreatDoorZ27
import Derived.Test.YtpjechjoijjhpaaGreatDoorZ29
import Derived.Test.YtpjechjoijjhpaaGreatDoorZ05
import Derived.Test.YtpjechjoijjhpaaGreatDoorZ26
import Derived.Test.YtpjechjoijjhpaaGreatDoorZ02
import Derived.Test.YtpjechjoijjhpaaGreatDoorZ09
import Derived.Test.YtpjechjoijjhpaaGreatDoorZ24
import Derived.Test.YtpjechjoijjhpaaGreatDoorZ17
import Derived.Test.YtpjechjoijjhpaaGreatDoorZ18
import Derived.Test.YtpjechjoijjhpaaGreatDoorZ35
import Derived.Test.YtpjechjoijjhpaaGreatDoorZ30
import Derived.Test.YtpjechjoijjhpaaGreatDoorZ01
set_option linter.unusedVariables false
set_option linter.unusedSimpArgs false
namespace Go.Proofs.YtpjechjoijjhpaaGreatDoor
open Go.RowKit Go.Inq
set_option maxHeartbeats 8000000
attribute [local go_sem↓] Go.wp_at_zero Go.wp_at_succ
def WQ(w:World)(P:List Mk)(e:Ending)(w':World):Prop:=∃A' c',e= .returned (.slice A' P.length c')∧MkS w' (Old w') (.slice A' P.length c') P∧Below w.heap.size w w'
set_option maxRecDepth 100000 in
theorem xP(A:Option Addr)(c:Nat)(P:List Mk)(w:World)(h:MkS w (Old w) (.slice A P.length c) P)(hn:P.length≤1000000)(hd:∀m∈P,m.done.length≤1000000):
 Calls Tryz.prog 6 #[.slice A P.length c] w (WQ w P):=by
 obtain⟨im,him,hm1,hm2,hm3⟩:=info_parts zU;have h0:=hide h;have hrow:=hide (fun k (hk:k<P.length)=>(take_snoc' hk:P.take (k+1)=P.take k++[P[k]]));replace hd:=hide fun i (hi:i<P.length)=>hd _ (List.getElem_mem hi);clear h;go_enter Tryz.func6,Tryz.ntmps6;go_wp2_with fail;go_loopw [3,4] (fun s3 s4 wr=>∃k:Nat,k≤P.length∧s4= .int .i64 k∧aJ 5 MkR wr (fun b=>b<wr.heap.size∧s3.ownBlock≠some b) w.heap.size 72 s3 (P.take k)∧Below w.heap.size w wr) (fun _ s4 _=>P.length-(intOf s4).toNat);case atStart=>exact⟨0,Nat.zero_le _,by go_num,aJ.nil _ _ _ _ _ _,Below.refl _ _⟩
 case round=>
  obtain⟨Wo,rfl⟩:∃Wo,Wo=wr:=⟨_,rfl⟩;obtain⟨k,hk,rfl,hO,hb⟩:=hrel;have hk1:(0:Int)≤(k:Int):=Int.natCast_nonneg _;obtain⟨Av,cv,rfl⟩:=hO.form;by_cases hlt:k<P.length
  ·have hk2:(k:Int)<(P.length:Int):=(by omega);obtain⟨b,off,Ay,cy,rfl,hbK,d⟩:=MkS.at_ h0.out hlt;have hyl:=hd.out k hlt;have UY:b<w.heap.size:=hbK;have d0:Wo.drew.cell? _=_:=(hb.cell (p:=⟨b,off+k*5,none⟩) hbK).trans d.d0;have d1:Wo.drew.cell? _=_:=(hb.cell (p:=⟨b,off+k*5+1,none⟩) hbK).trans d.d1;have d2:Wo.drew.cell? _=_:=(hb.cell (p:=⟨b,off+k*5+2,none⟩) hbK).trans d.d2;have d3:Wo.drew.cell? _=_:=(hb.cell (p:=⟨b,off+k*5+3,none⟩) hbK).trans d.d3;have d4:Wo.drew.cell? _=_:=(hb.cell (p:=⟨b,off+k*5+4,none⟩) hbK).trans d.d4;have hdn:=d.done;have hst:=hide (hrow.out k hlt);have hMl:(P.take k).length≤1000000:=(by rw[List.length_take];omega);have hbx:Hid (b<Wo.drew.heap.size):=hide (Nat.lt_of_lt_of_le UY hb.size);have hb0:Hid (w.heap.size≤Wo.drew.heap.size):=hide hb.size;clear d;generalize P[k]=m at*;obtain⟨⟨mk,ma,mb⟩,mr,md⟩:=m;dsimp only at d0 d1 d2 d3 d4 hdn hst hyl;generalize P.take k=M at*;have hNK:aY Wo.drew (Old w) (.slice Ay md.length cy) md:=aY.keep hdn (Agree.below (aZ hb) fun b h=>h) (fun b h=>h);have hcn:=hide (xD (Old w) Ay cy md Wo.drew (fun b hb'=>Nat.lt_of_lt_of_le hb' hb.size) hNK hyl);have hOd:aJ 5 MkR Wo.drew (fun b=>b<Wo.drew.heap.size∧(Value.slice Av M.length cv).ownBlock≠some b) w.heap.size 72 (.slice Av M.length cv) M:=hO;have fH:=hide (fun g hg=>hOd.lt g hg);replace hOd:=hide hOd;clear hO hNK hdn hbK UY;go_wp2_with fail;refine kU [0,1,2,3,4,6,7,8,9,11,12,13,14,15] [5,10,16,17,18,19,20] [[5,10,16,17,18,19,20],[5,16,10,17,18,19,20],[10,5,16,17,18,19,20],[10,16,5,17,18,19,20],[16,5,10,17,18,19,20],[16,10,5,17,18,19,20]] (by kernel_rfl) (by kernel_rfl) (fun _ _ d _ _ h=>by cases d<;>exact h) ?_;simp only[List.filterMap_cons,List.filterMap_nil,gZ,gS];repeat still_step
   refine wpStill_nil ?_;intro i hi;simp only[List.filterMap_cons,List.head?_cons,List.filterMap_nil,List.mem_cons,List.not_mem_nil,or_false,or_self]at hi;obtain rfl|rfl|rfl:i=5∨i=10∨i=16:=by omega
   ·refine aI rfl ?_;simp only[aO,List.filterMap_cons,List.filterMap_nil,if_true,if_false,reduceIte,Nat.reduceEqDiff,List.length_cons,List.length_nil,Nat.reduceAdd];go_wp2_with fail;intro i hi;simp only[List.filterMap_cons,List.head?_cons,List.filterMap_nil,List.mem_cons,List.not_mem_nil,or_false,or_self]at hi;obtain rfl|rfl:i=10∨i=16:=by omega
    ·refine aI rfl ?_;simp only[aO,List.filterMap_cons,List.filterMap_nil,if_true,if_false,reduceIte,Nat.reduceEqDiff,List.length_cons,List.length_nil,Nat.reduceAdd];go_wp2_with fail;intro iq hiq;have hiq:iq=16:=by
      simp only[List.filterMap_cons,List.head?_cons,List.filterMap_nil,List.mem_cons,List.not_mem_nil,or_false,or_self]at hiq;omega
     cases hiq;refine aI rfl ?_;simp only[aO,List.filterMap_cons,List.filterMap_nil,if_true,if_false,reduceIte,Nat.reduceEqDiff,List.length_cons,List.length_nil,Nat.reduceAdd];go_wp2_with fail;refine hcn.out.mono ?_;rintro e w5 ⟨An,cn,Mn,rfl,ho5,jK,hb5⟩;have e0:=(hb5.cell (p:=⟨b,off+k*5,none⟩) hbx.out).trans d0;have e1:=(hb5.cell (p:=⟨b,off+k*5+1,none⟩) hbx.out).trans d1;have e2:=(hb5.cell (p:=⟨b,off+k*5+2,none⟩) hbx.out).trans d2;have e3:=(hb5.cell (p:=⟨b,off+k*5+3,none⟩) hbx.out).trans d3;replace ho5:=hide ho5;replace jK:=hide jK;clear hcn;go_wp2_with fail;clear d0 d1 d2 d3 d4 e0 e1 e2 e3;intro iq hiq;have hiq:iq=17:=by
      simp only[List.filterMap_cons,List.head?_cons,List.filterMap_nil,List.mem_cons,List.not_mem_nil,or_false,or_self]at hiq;omega
     cases hiq;refine aI rfl ?_;simp only[aO,List.filterMap_cons,List.filterMap_nil,if_true,if_false,reduceIte,Nat.reduceEqDiff,List.length_cons,List.length_nil,Nat.reduceAdd];go_wp2_with fail;intro iq hiq;have hiq:iq=18:=by
      simp only[List.filterMap_cons,List.head?_cons,List.filterMap_nil,List.mem_cons,List.not_mem_nil,or_false,or_self]at hiq;omega
     cases hiq;refine aI rfl ?_;simp only[aO,List.filterMap_cons,List.filterMap_nil,if_true,if_false,reduceIte,Nat.reduceEqDiff,List.length_cons,List.length_nil,Nat.reduceAdd];go_wp2_with fail;intro iq hiq;have hiq:iq=19:=by
      simp only[List.filterMap_cons,List.head?_cons,List.filterMap_nil,List.mem_cons,List.not_mem_nil,or_false,or_self]at hiq;omega
     cases hiq;refine aI rfl ?_;simp only[aO,List.filterMap_cons,List.filterMap_nil,if_true,if_false,reduceIte,Nat.reduceEqDiff,List.length_cons,List.length_nil,Nat.reduceAdd];obtain⟨W2,hW2⟩:∃W2,w5.alloc (.cells #[.int .i64 mk,.int .i64 ma,.int .i64 mb,.bool mr,.slice An md.length cn] 72)=W2:=⟨_,rfl⟩;rw[hW2];have kN:=Blk.newEq hW2;have hB2:=ah (Below.refl w5.heap.size w5) hW2 (Nat.le_refl _);have hs2:W2.heap.size=w5.heap.size+1:=aB hW2;have hs5:Wo.drew.heap.size≤w5.heap.size:=hb5.size;have hs6:Wo.heap.size≤w5.heap.size:=hb5.size;have hDW:Below Wo.drew.heap.size Wo.drew W2:=hb5.trans (hB2.mono hb5.size);have hOW:Below Wo.heap.size Wo W2:=(⟨rfl,rfl,rfl,Nat.le_refl _,fun _ _=>rfl⟩:Below Wo.heap.size Wo Wo.drew).trans hDW;have hbw:=hb.trans (hOW.mono hb.size);have hwo:=hb.size;have hO2:aJ 5 MkR W2 (fun b=>b<W2.heap.size∧(Value.slice Av M.length cv).ownBlock≠some b) w.heap.size 72 (.slice Av M.length cv) M:=
      aJ.keep MkR.aS hOd.out (Agree.below hDW fun b hb=>hb.1) (fun b hb=>⟨by have:=hb.1;omega,hb.2⟩) fun g hg=>hDW.block g (fH.out g hg).2
     have ho2:=own_below ho5.out hB2 (Nat.le_refl _);have hN2:aY W2 (fun b=>b<W2.heap.size∧(Value.slice Av M.length cv).ownBlock≠some b) (.slice An md.length cn) md:=
      fQ.s jK.out ho2 (Agree.below hDW fun b hb=>Nat.lt_of_lt_of_le hb hb0.out) (fun b hb=>⟨by have:b<w.heap.size:=hb;omega,fun e=>by have:=(fH.out b e).1;have:b<w.heap.size:=hb;omega⟩)
       fun g hg=>⟨(ho2.lt g hg).2,fun e=>by have h1:=(fH.out g e).2;have h2:Wo.heap.size≤g:=(ho2.lt g hg).1;have h1:g<Wo.heap.size:=h1;omega⟩
     have hsrc:SlR 5 MkR W2 (fun b=>b<W2.heap.size∧(Value.slice Av M.length cv).ownBlock≠some b) (.slice (some ⟨w5.heap.size,0,none⟩) 1 1) [(⟨⟨mk,ma,mb⟩,mr,md⟩:Mk)]:=
      SlR.one kN rfl ⟨An,cn,rfl,hN2⟩ ⟨by show w5.heap.size<_;omega,fun e=>by have h1:w5.heap.size<Wo.heap.size:=(fH.out _ e).2;omega⟩
     clear hW2 hOd kN hN2 ho2 ho5 jK hB2 hDW hOW;refine bB (R:=MkR) rfl (.tmp 11) (.tmp 29) 31 rfl w.heap.size 72 im _ 5 56 Tryz.underlying31 him hm1 hm2 hm3 rfl (by decide) (.slice Av M.length cv) _ M rfl hO2 _ [(⟨⟨mk,ma,mb⟩,mr,md⟩:Mk)] rfl hsrc (fun cs x h=>MkR.one _ _ cs x h) (by simp[maxLen];omega) (by simp;omega) (by omega) (fun w' hg cs x hx=>MkR.aS _ _ _ _ _ _ hx (Agree.grown hg (fun b hb=>⟨hb.1,fun e=>hb.2 e.symm⟩)) (fun _ h=>h)) ?_;intro v7 W7 hO7 hg7 mg;have hs7:=hg7.size;have hb9:=hbw.grown hg7 hbw.size (fun j e=>by have:=(fH.out j e).1;omega);have hO9:aJ 5 MkR W7 (fun b=>b<W7.heap.size∧v7.ownBlock≠some b) w.heap.size 72 v7 (M++[(⟨⟨mk,ma,mb⟩,mr,md⟩:Mk)]):=aJ.keep MkR.aS hO7 (Agree.refl _ _) (fun b hb=>⟨by have:=hb.1;omega,fun e=>by
      rcases mg with e'|e'
      ·exact hb.2 (e'▸e)
      ·rw[e']at e;injection e with e;have:=hb.1;omega⟩) fun _ _=>rfl
     rw[←hst.out]at hO9;clear hO7 hO2 hsrc hg7 mg fH hbw;replace hO9:=hide hO9;go_wp2_with fail;refine dB _ _ _ _ rfl ?_;simp only[List.filterMap_cons,List.filterMap_nil,gA,gZ,gS];go_wp2;go_roundw;case rel=>exact⟨k+1,by omega,by go_num,hO9.out,hb9⟩
     case measure=>simp[intOf];omega
    ·refine aI rfl ?_;simp only[aO,List.filterMap_cons,List.filterMap_nil,if_true,if_false,reduceIte,Nat.reduceEqDiff,List.length_cons,List.length_nil,Nat.reduceAdd];go_wp2_with fail;refine hcn.out.mono ?_;rintro e w5 ⟨An,cn,Mn,rfl,ho5,jK,hb5⟩;have e0:=(hb5.cell (p:=⟨b,off+k*5,none⟩) hbx.out).trans d0;have e1:=(hb5.cell (p:=⟨b,off+k*5+1,none⟩) hbx.out).trans d1;have e2:=(hb5.cell (p:=⟨b,off+k*5+2,none⟩) hbx.out).trans d2;have e3:=(hb5.cell (p:=⟨b,off+k*5+3,none⟩) hbx.out).trans d3;replace ho5:=hide ho5;replace jK:=hide jK;clear hcn;go_wp2_with fail;intro iq hiq;have hiq:iq=10:=by
      simp only[List.filterMap_cons,List.head?_cons,List.filterMap_nil,List.mem_cons,List.not_mem_nil,or_false,or_self]at hiq;omega
     cases hiq;refine aI rfl ?_;simp only[aO,List.filterMap_cons,List.filterMap_nil,if_true,if_false,reduceIte,Nat.reduceEqDiff,List.length_cons,List.length_nil,Nat.reduceAdd];go_wp2_with fail;clear d0 d1 d2 d3 d4 e0 e1 e2 e3;intro iq hiq;have hiq:iq=17:=by
      simp only[List.filterMap_cons,List.head?_cons,List.filterMap_nil,List.mem_cons,List.not_mem_nil,or_false,or_self]at hiq;omega
     cases hiq;refine aI rfl ?_;simp only[aO,List.filterMap_cons,List.filterMap_nil,if_true,if_false,reduceIte,Nat.reduceEqDiff,List.length_cons,List.length_nil,Nat.reduceAdd];go_wp2_with fail;intro iq hiq;have hiq:iq=18:=by
      simp only[List.filterMap_cons,List.head?_cons,List.filterMap_nil,List.mem_cons,List.not_mem_nil,or_false,or_self]at hiq;omega
     cases hiq;refine aI rfl ?_;simp only[aO,List.filterMap_cons,List.filterMap_nil,if_true,if_false,reduceIte,Nat.reduceEqDiff,List.length_cons,List.length_nil,Nat.reduceAdd];go_wp2_with fail;intro iq hiq;have hiq:iq=19:=by
      simp only[List.filterMap_cons,List.head?_cons,List.filterMap_nil,List.mem_cons,List.not_mem_nil,or_false,or_self]at hiq;omega
     cases hiq;refine aI rfl ?_;simp only[aO,List.filterMap_cons,List.filterMap_nil,if_true,if_false,reduceIte,Nat.reduceEqDiff,List.length_cons,List.length_nil,Nat.reduceAdd];obtain⟨W2,hW2⟩:∃W2,w5.alloc (.cells #[.int .i64 mk,.int .i64 ma,.int .i64 mb,.bool mr,.slice An md.length cn] 72)=W2:=⟨_,rfl⟩;rw[hW2];have kN:=Blk.newEq hW2;have hB2:=ah (Below.refl w5.heap.size w5) hW2 (Nat.le_refl _);have hs2:W2.heap.size=w5.heap.size+1:=aB hW2;have hs5:Wo.drew.heap.size≤w5.heap.size:=hb5.size;have hs6:Wo.heap.size≤w5.heap.size:=hb5.size;have hDW:Below Wo.drew.heap.size Wo.drew W2:=hb5.trans (hB2.mono hb5.size);have hOW:Below Wo.heap.size Wo W2:=(⟨rfl,rfl,rfl,Nat.le_refl _,fun _ _=>rfl⟩:Below Wo.heap.size Wo Wo.drew).trans hDW;have hbw:=hb.trans (hOW.mono hb.size);have hwo:=hb.size;have hO2:aJ 5 MkR W2 (fun b=>b<W2.heap.size∧(Value.slice Av M.length cv).ownBlock≠some b) w.heap.size 72 (.slice Av M.length cv) M:=
      aJ.keep MkR.aS hOd.out (Agree.below hDW fun b hb=>hb.1) (fun b hb=>⟨by have:=hb.1;omega,hb.2⟩) fun g hg=>hDW.block g (fH.out g hg).2
     have ho2:=own_below ho5.out hB2 (Nat.le_refl _);have hN2:aY W2 (fun b=>b<W2.heap.size∧(Value.slice Av M.length cv).ownBlock≠some b) (.slice An md.length cn) md:=
      fQ.s jK.out ho2 (Agree.below hDW fun b hb=>Nat.lt_of_lt_of_le hb hb0.out) (fun b hb=>⟨by have:b<w.heap.size:=hb;omega,fun e=>by have:=(fH.out b e).1;have:b<w.heap.size:=hb;omega⟩)
       fun g hg=>⟨(ho2.lt g hg).2,fun e=>by have h1:=(fH.out g e).2;have h2:Wo.heap.size≤g:=(ho2.lt g hg).1;have h1:g<Wo.heap.size:=h1;omega⟩
     have hsrc:SlR 5 MkR W2 (fun b=>b<W2.heap.size∧(Value.slice Av M.length cv).ownBlock≠some b) (.slice (some ⟨w5.heap.size,0,none⟩) 1 1) [(⟨⟨mk,ma,mb⟩,mr,md⟩:Mk)]:=
      SlR.one kN rfl ⟨An,cn,rfl,hN2⟩ ⟨by show w5.heap.size<_;omega,fun e=>by have h1:w5.heap.size<Wo.heap.size:=(fH.out _ e).2;omega⟩
     clear hW2 hOd kN hN2 ho2 ho5 jK hB2 hDW hOW;refine bB (R:=MkR) rfl (.tmp 11) (.tmp 29) 31 rfl w.heap.size 72 im _ 5 56 Tryz.underlying31 him hm1 hm2 hm3 rfl (by decide) (.slice Av M.length cv) _ M rfl hO2 _ [(⟨⟨mk,ma,mb⟩,mr,md⟩:Mk)] rfl hsrc (fun cs x h=>MkR.one _ _ cs x h) (by simp[maxLen];omega) (by simp;omega) (by omega) (fun w' hg cs x hx=>MkR.aS _ _ _ _ _ _ hx (Agree.grown hg (fun b hb=>⟨hb.1,fun e=>hb.2 e.symm⟩)) (fun _ h=>h)) ?_;intro v7 W7 hO7 hg7 mg;have hs7:=hg7.size;have hb9:=hbw.grown hg7 hbw.size (fun j e=>by have:=(fH.out j e).1;omega);have hO9:aJ 5 MkR W7 (fun b=>b<W7.heap.size∧v7.ownBlock≠some b) w.heap.size 72 v7 (M++[(⟨⟨mk,ma,mb⟩,mr,md⟩:Mk)]):=aJ.keep MkR.aS hO7 (Agree.refl _ _) (fun b hb=>⟨by have:=hb.1;omega,fun e=>by
      rcases mg with e'|e'
      ·exact hb.2 (e'▸e)
      ·rw[e']at e;injection e with e;have:=hb.1;omega⟩) fun _ _=>rfl
     rw[←hst.out]at hO9;clear hO7 hO2 hsrc hg7 mg fH hbw;replace hO9:=hide hO9;go_wp2_with fail;refine dB _ _ _ _ rfl ?_;simp only[List.filterMap_cons,List.filterMap_nil,gA,gZ,gS];go_wp2;go_roundw;case rel=>exact⟨k+1,by omega,by go_num,hO9.out,hb9⟩
     case measure=>simp[intOf];omega
   ·refine aI rfl ?_;simp only[aO,List.filterMap_cons,List.filterMap_nil,if_true,if_false,reduceIte,Nat.reduceEqDiff,List.length_cons,List.length_nil,Nat.reduceAdd];go_wp2_with fail;intro i hi;simp only[List.filterMap_cons,List.head?_cons,List.filterMap_nil,List.mem_cons,List.not_mem_nil,or_false,or_self]at hi;obtain rfl|rfl:i=5∨i=16:=by omega
    ·refine aI rfl ?_;simp only[aO,List.filterMap_cons,List.filterMap_nil,if_true,if_false,reduceIte,Nat.reduceEqDiff,List.length_cons,List.length_nil,Nat.reduceAdd];go_wp2_with fail;intro iq hiq;have hiq:iq=16:=by
      simp only[List.filterMap_cons,List.head?_cons,List.filterMap_nil,List.mem_cons,List.not_mem_nil,or_false,or_self]at hiq;omega
     cases hiq;refine aI rfl ?_;simp only[aO,List.filterMap_cons,List.filterMap_nil,if_true,if_false,reduceIte,Nat.reduceEqDiff,List.length_cons,List.length_nil,Nat.reduceAdd];go_wp2_with fail;refine hcn.out.mono ?_;rintro e w5 ⟨An,cn,Mn,rfl,ho5,jK,hb5⟩;have e0:=(hb5.cell (p:=⟨b,off+k*5,none⟩) hbx.out).trans d0;have e1:=(hb5.cell (p:=⟨b,off+k*5+1,none⟩) hbx.out).trans d1;have e2:=(hb5.cell (p:=⟨b,off+k*5+2,none⟩) hbx.out).trans d2;have e3:=(hb5.cell (p:=⟨b,off+k*5+3,none⟩) hbx.out).trans d3;replace ho5:=hide ho5;replace jK:=hide jK;clear hcn;go_wp2_with fail;clear d0 d1 d2 d3 d4 e0 e1 e2 e3;intro iq hiq;have hiq:iq=17:=by
      simp only[List.filterMap_cons,List.head?_cons,List.filterMap_nil,List.mem_cons,List.not_mem_nil,or_false,or_self]at hiq;omega
     cases hiq;refine aI rfl ?_;simp only[aO,List.filterMap_cons,List.filterMap_nil,if_true,if_false,reduceIte,Nat.reduceEqDiff,List.length_cons,List.length_nil,Nat.reduceAdd];go_wp2_with fail;intro iq hiq;have hiq:iq=18:=by
      simp only[List.filterMap_cons,List.head?_cons,List.filterMap_nil,List.mem_cons,List.not_mem_nil,or_false,or_self]at hiq;omega
     cases hiq;refine aI rfl ?_;simp only[aO,List.filterMap_cons,List.filterMap_nil,if_true,if_false,reduceIte,Nat.reduceEqDiff,List.length_cons,List.length_nil,Nat.reduceAdd];go_wp2_with fail;intro iq hiq;have hiq:iq=19:=by
      simp only[List.filterMap_cons,List.head?_cons,List.filterMap_nil,List.mem_cons,List.not_mem_nil,or_false,or_self]at hiq;omega
     cases hiq;refine aI rfl ?_;simp only[aO,List.filterMap_cons,List.filterMap_nil,if_true,if_false,reduceIte,Nat.reduceEqDiff,List.length_cons,List.length_nil,Nat.reduceAdd];obtain⟨W2,hW2⟩:∃W2,w5.alloc (.cells #[.int .i64 mk,.int .i64 ma,.int .i64 mb,.bool mr,.slice An md.length cn] 72)=W2:=⟨_,rfl⟩;rw[hW2];have kN:=Blk.newEq hW2;have hB2:=ah (Below.refl w5.heap.size w5) hW2 (Nat.le_refl _);have hs2:W2.heap.size=w5.heap.size+1:=aB hW2;have hs5:Wo.drew.heap.size≤w5.heap.size:=hb5.size;have hs6:Wo.heap.size≤w5.heap.size:=hb5.size;have hDW:Below Wo.drew.heap.size Wo.drew W2:=hb5.trans (hB2.mono hb5.size);have hOW:Below Wo.heap.size Wo W2:=(⟨rfl,rfl,rfl,Nat.le_refl _,fun _ _=>rfl⟩:Below Wo.heap.size Wo Wo.drew).trans hDW;have hbw:=hb.trans (hOW.mono hb.size);have hwo:=hb.size;have hO2:aJ 5 MkR W2 (fun b=>b<W2.heap.size∧(Value.slice Av M.length cv).ownBlock≠some b) w.heap.size 72 (.slice Av M.length cv) M:=
      aJ.keep MkR.aS hOd.out (Agree.below hDW fun b hb=>hb.1) (fun b hb=>⟨by have:=hb.1;omega,hb.2⟩) fun g hg=>hDW.block g (fH.out g hg).2
     have ho2:=own_below ho5.out hB2 (Nat.le_refl _);have hN2:aY W2 (fun b=>b<W2.heap.size∧(Value.slice Av M.length cv).ownBlock≠some b) (.slice An md.length cn) md:=
      fQ.s jK.out ho2 (Agree.below hDW fun b hb=>Nat.lt_of_lt_of_le hb hb0.out) (fun b hb=>⟨by have:b<w.heap.size:=hb;omega,fun e=>by have:=(fH.out b e).1;have:b<w.heap.size:=hb;omega⟩)
       fun g hg=>⟨(ho2.lt g hg).2,fun e=>by have h1:=(fH.out g e).2;have h2:Wo.heap.size≤g:=(ho2.lt g hg).1;have h1:g<Wo.heap.size:=h1;omega⟩
     have hsrc:SlR 5 MkR W2 (fun b=>b<W2.heap.size∧(Value.slice Av M.length cv).ownBlock≠some b) (.slice (some ⟨w5.heap.size,0,none⟩) 1 1) [(⟨⟨mk,ma,mb⟩,mr,md⟩:Mk)]:=
      SlR.one kN rfl ⟨An,cn,rfl,hN2⟩ ⟨by show w5.heap.size<_;omega,fun e=>by have h1:w5.heap.size<Wo.heap.size:=(fH.out _ e).2;omega⟩
     clear hW2 hOd kN hN2 ho2 ho5 jK hB2 hDW hOW;refine bB (R:=MkR) rfl (.tmp 11) (.tmp 29) 31 rfl w.heap.size 72 im _ 5 56 Tryz.underlying31 him hm1 hm2 hm3 rfl (by decide) (.slice Av M.length cv) _ M rfl hO2 _ [(⟨⟨mk,ma,mb⟩,mr,md⟩:Mk)] rfl hsrc (fun cs x h=>MkR.one _ _ cs x h) (by simp[maxLen];omega) (by simp;omega) (by omega) (fun w' hg cs x hx=>MkR.aS _ _ _ _ _ _ hx (Agree.grown hg (fun b hb=>⟨hb.1,fun e=>hb.2 e.symm⟩)) (fun _ h=>h)) ?_;intro v7 W7 hO7 hg7 mg;have hs7:=hg7.size;have hb9:=hbw.grown hg7 hbw.size (fun j e=>by have:=(fH.out j e).1;omega);have hO9:aJ 5 MkR W7 (fun b=>b<W7.heap.size∧v7.ownBlock≠some b) w.heap.size 72 v7 (M++[(⟨⟨mk,ma,mb⟩,mr,md⟩:Mk)]):=aJ.keep MkR.aS hO7 (Agree.refl _ _) (fun b hb=>⟨by have:=hb.1;omega,fun e=>by
      rcases mg with e'|e'
      ·exact hb.2 (e'▸e)
      ·rw[e']at e;injection e with e;have:=hb.1;omega⟩) fun _ _=>rfl
     rw[←hst.out]at hO9;clear hO7 hO2 hsrc hg7 mg fH hbw;replace hO9:=hide hO9;go_wp2_with fail;refine dB _ _ _ _ rfl ?_;simp only[List.filterMap_cons,List.filterMap_nil,gA,gZ,gS];go_wp2;go_roundw;case rel=>exact⟨k+1,by omega,by go_num,hO9.out,hb9⟩
     case measure=>simp[intOf];omega
    ·refine aI rfl ?_;simp only[aO,List.filterMap_cons,List.filterMap_nil,if_true,if_false,reduceIte,Nat.reduceEqDiff,List.length_cons,List.length_nil,Nat.reduceAdd];go_wp2_with fail;refine hcn.out.mono ?_;rintro e w5 ⟨An,cn,Mn,rfl,ho5,jK,hb5⟩;have e0:=(hb5.cell (p:=⟨b,off+k*5,none⟩) hbx.out).trans d0;have e1:=(hb5.cell (p:=⟨b,off+k*5+1,none⟩) hbx.out).trans d1;have e2:=(hb5.cell (p:=⟨b,off+k*5+2,none⟩) hbx.out).trans d2;have e3:=(hb5.cell (p:=⟨b,off+k*5+3,none⟩) hbx.out).trans d3;replace ho5:=hide ho5;replace jK:=hide jK;clear hcn;go_wp2_with fail;intro iq hiq;have hiq:iq=5:=by
      simp only[List.filterMap_cons,List.head?_cons,List.filterMap_nil,List.mem_cons,List.not_mem_nil,or_false,or_self]at hiq;omega
     cases hiq;refine aI rfl ?_;simp only[aO,List.filterMap_cons,List.filterMap_nil,if_true,if_false,reduceIte,Nat.reduceEqDiff,List.length_cons,List.length_nil,Nat.reduceAdd];go_wp2_with fail;clear d0 d1 d2 d3 d4 e0 e1 e2 e3;intro iq hiq;have hiq:iq=17:=by
      simp only[List.filterMap_cons,List.head?_cons,List.filterMap_nil,List.mem_cons,List.not_mem_nil,or_false,or_self]at hiq;omega
     cases hiq;refine aI rfl ?_;simp only[aO,List.filterMap_cons,List.filterMap_nil,if_true,if_false,reduceIte,Nat.reduceEqDiff,List.length_cons,List.length_nil,Nat.reduceAdd];go_wp2_with fail;intro iq hiq;have hiq:iq=18:=by
      simp only[List.filterMap_cons,List.head?_cons,List.filterMap_nil,List.mem_cons,List.not_mem_nil,or_false,or_self]at hiq;omega
     cases hiq;refine aI rfl ?_;simp only[aO,List.filterMap_cons,List.filterMap_nil,if_true,if_false,reduceIte,Nat.reduceEqDiff,List.length_cons,List.length_nil,Nat.reduceAdd];go_wp2_with fail;intro iq hiq;have hiq:iq=19:=by
      simp only[List.filterMap_cons,List.head?_cons,List.filterMap_nil,List.mem_cons,List.not_mem_nil,or_false,or_self]at hiq;omega
     cases hiq;refine aI rfl ?_;simp only[aO,List.filterMap_cons,List.filterMap_nil,if_true,if_false,reduceIte,Nat.reduceEqDiff,List.length_cons,List.length_nil,Nat.reduceAdd];obtain⟨W2,hW2⟩:∃W2,w5.alloc (.cells #[.int .i64 mk,.int .i64 ma,.int .i64 mb,.bool mr,.slice An md.length cn] 72)=W2:=⟨_,rfl⟩;rw[hW2];have kN:=Blk.newEq hW2;have hB2:=ah (Below.refl w5.heap.size w5) hW2 (Nat.le_refl _);have hs2:W2.heap.size=w5.heap.size+1:=aB hW2;have hs5:Wo.drew.heap.size≤w5.heap.size:=hb5.size;have hs6:Wo.heap.size≤w5.heap.size:=hb5.size;have hDW:Below Wo.drew.heap.size Wo.drew W2:=hb5.trans (hB2.mono hb5.size);have hOW:Below Wo.heap.size Wo W2:=(⟨rfl,rfl,rfl,Nat.le_refl _,fun _ _=>rfl⟩:Below Wo.heap.size Wo Wo.drew).trans hDW;have hbw:=hb.trans (hOW.mono hb.size);have hwo:=hb.size;have hO2:aJ 5 MkR W2 (fun b=>b<W2.heap.size∧(Value.slice Av M.length cv).ownBlock≠some b) w.heap.size 72 (.slice Av M.length cv) M:=
      aJ.keep MkR.aS hOd.out (Agree.below hDW fun b hb=>hb.1) (fun b hb=>⟨by have:=hb.1;omega,hb.2⟩) fun g hg=>hDW.block g (fH.out g hg).2
     have ho2:=own_below ho5.out hB2 (Nat.le_refl _);have hN2:aY W2 (fun b=>b<W2.heap.size∧(Value.slice Av M.length cv).ownBlock≠some b) (.slice An md.length cn) md:=
      fQ.s jK.out ho2 (Agree.below hDW fun b hb=>Nat.lt_of_lt_of_le hb hb0.out) (fun b hb=>⟨by have:b<w.heap.size:=hb;omega,fun e=>by have:=(fH.out b e).1;have:b<w.heap.size:=hb;omega⟩)
       fun g hg=>⟨(ho2.lt g hg).2,fun e=>by have h1:=(fH.out g e).2;have h2:Wo.heap.size≤g:=(ho2.lt g hg).1;have h1:g<Wo.heap.size:=h1;omega⟩
     have hsrc:SlR 5 MkR W2 (fun b=>b<W2.heap.size∧(Value.slice Av M.length cv).ownBlock≠some b) (.slice (some ⟨w5.heap.size,0,none⟩) 1 1) [(⟨⟨mk,ma,mb⟩,mr,md⟩:Mk)]:=
      SlR.one kN rfl ⟨An,cn,rfl,hN2⟩ ⟨by show w5.heap.size<_;omega,fun e=>by have h1:w5.heap.size<Wo.heap.size:=(fH.out _ e).2;omega⟩
     clear hW2 hOd kN hN2 ho2 ho5 jK hB2 hDW hOW;refine bB (R:=MkR) rfl (.tmp 11) (.tmp 29) 31 rfl w.heap.size 72 im _ 5 56 Tryz.underlying31 him hm1 hm2 hm3 rfl (by decide) (.slice Av M.length cv) _ M rfl hO2 _ [(⟨⟨mk,ma,mb⟩,mr,md⟩:Mk)] rfl hsrc (fun cs x h=>MkR.one _ _ cs x h) (by simp[maxLen];omega) (by simp;omega) (by omega) (fun w' hg cs x hx=>MkR.aS _ _ _ _ _ _ hx (Agree.grown hg (fun b hb=>⟨hb.1,fun e=>hb.2 e.symm⟩)) (fun _ h=>h)) ?_;intro v7 W7 hO7 hg7 mg;have hs7:=hg7.size;have hb9:=hbw.grown hg7 hbw.size (fun j e=>by have:=(fH.out j e).1;omega);have hO9:aJ 5 MkR W7 (fun b=>b<W7.heap.size∧v7.ownBlock≠some b) w.heap.size 72 v7 (M++[(⟨⟨mk,ma,mb⟩,mr,md⟩:Mk)]):=aJ.keep MkR.aS hO7 (Agree.refl _ _) (fun b hb=>⟨by have:=hb.1;omega,fun e=>by
      rcases mg with e'|e'
      ·exact hb.2 (e'▸e)
      ·rw[e']at e;injection e with e;have:=hb.1;omega⟩) fun _ _=>rfl
     rw[←hst.out]at hO9;clear hO7 hO2 hsrc hg7 mg fH hbw;replace hO9:=hide hO9;go_wp2_with fail;refine dB _ _ _ _ rfl ?_;simp only[List.filterMap_cons,List.filterMap_nil,gA,gZ,gS];go_wp2;go_roundw;case rel=>exact⟨k+1,by omega,by go_num,hO9.out,hb9⟩
     case measure=>simp[intOf];omega
   ·refine aI rfl ?_;simp only[aO,List.filterMap_cons,List.filterMap_nil,if_true,if_false,reduceIte,Nat.reduceEqDiff,List.length_cons,List.length_nil,Nat.reduceAdd];go_wp2_with fail;refine hcn.out.mono ?_;rintro e w5 ⟨An,cn,Mn,rfl,ho5,jK,hb5⟩;have e0:=(hb5.cell (p:=⟨b,off+k*5,none⟩) hbx.out).trans d0;have e1:=(hb5.cell (p:=⟨b,off+k*5+1,none⟩) hbx.out).trans d1;have e2:=(hb5.cell (p:=⟨b,off+k*5+2,none⟩) hbx.out).trans d2;have e3:=(hb5.cell (p:=⟨b,off+k*5+3,none⟩) hbx.out).trans d3;replace ho5:=hide ho5;replace jK:=hide jK;clear hcn;go_wp2_with fail;intro i hi;simp only[List.filterMap_cons,List.head?_cons,List.filterMap_nil,List.mem_cons,List.not_mem_nil,or_false,or_self]at hi;obtain rfl|rfl:i=5∨i=10:=by omega
    ·refine aI rfl ?_;simp only[aO,List.filterMap_cons,List.filterMap_nil,if_true,if_false,reduceIte,Nat.reduceEqDiff,List.length_cons,List.length_nil,Nat.reduceAdd];go_wp2_with fail;intro iq hiq;have hiq:iq=10:=by
      simp only[List.filterMap_cons,List.head?_cons,List.filterMap_nil,List.mem_cons,List.not_mem_nil,or_false,or_self]at hiq;omega
     cases hiq;refine aI rfl ?_;simp only[aO,List.filterMap_cons,List.filterMap_nil,if_true,if_false,reduceIte,Nat.reduceEqDiff,List.length_cons,List.length_nil,Nat.reduceAdd];go_wp2_with fail;clear d0 d1 d2 d3 d4 e0 e1 e2 e3;intro iq hiq;have hiq:iq=17:=by
      simp only[List.filterMap_cons,List.head?_cons,List.filterMap_nil,List.mem_cons,List.not_mem_nil,or_false,or_self]at hiq;omega
     cases hiq;refine aI rfl ?_;simp only[aO,List.filterMap_cons,List.filterMap_nil,if_true,if_false,reduceIte,Nat.reduceEqDiff,List.length_cons,List.length_nil,Nat.reduceAdd];go_wp2_with fail;intro iq hiq;have hiq:iq=18:=by
      simp only[List.filterMap_cons,List.head?_cons,List.filterMap_nil,List.mem_cons,List.not_mem_nil,or_false,or_self]at hiq;omega
     cases hiq;refine aI rfl ?_;simp only[aO,List.filterMap_cons,List.filterMap_nil,if_true,if_false,reduceIte,Nat.reduceEqDiff,List.length_cons,List.length_nil,Nat.reduceAdd];go_wp2_with fail;intro iq hiq;have hiq:iq=19:=by
      simp only[List.filterMap_cons,List.head?_cons,List.filterMap_nil,List.mem_cons,List.not_mem_nil,or_false,or_self]at hiq;omega
     cases hiq;refine aI rfl ?_;simp only[aO,List.filterMap_cons,List.filterMap_nil,if_true,if_false,reduceIte,Nat.reduceEqDiff,List.length_cons,List.length_nil,Nat.reduceAdd];obtain⟨W2,hW2⟩:∃W2,w5.alloc (.cells #[.int .i64 mk,.int .i64 ma,.int .i64 mb,.bool mr,.slice An md.length cn] 72)=W2:=⟨_,rfl⟩;rw[hW2];have kN:=Blk.newEq hW2;have hB2:=ah (Below.refl w5.heap.size w5) hW2 (Nat.le_refl _);have hs2:W2.heap.size=w5.heap.size+1:=aB hW2;have hs5:Wo.drew.heap.size≤w5.heap.size:=hb5.size;have hs6:Wo.heap.size≤w5.heap.size:=hb5.size;have hDW:Below Wo.drew.heap.size Wo.drew W2:=hb5.trans (hB2.mono hb5.size);have hOW:Below Wo.heap.size Wo W2:=(⟨rfl,rfl,rfl,Nat.le_refl _,fun _ _=>rfl⟩:Below Wo.heap.size Wo Wo.drew).trans hDW;have hbw:=hb.trans (hOW.mono hb.size);have hwo:=hb.size;have hO2:aJ 5 MkR W2 (fun b=>b<W2.heap.size∧(Value.slice Av M.length cv).ownBlock≠some b) w.heap.size 72 (.slice Av M.length cv) M:=
      aJ.keep MkR.aS hOd.out (Agree.below hDW fun b hb=>hb.1) (fun b hb=>⟨by have:=hb.1;omega,hb.2⟩) fun g hg=>hDW.block g (fH.out g hg).2
     have ho2:=own_below ho5.out hB2 (Nat.le_refl _);have hN2:aY W2 (fun b=>b<W2.heap.size∧(Value.slice Av M.length cv).ownBlock≠some b) (.slice An md.length cn) md:=
      fQ.s jK.out ho2 (Agree.below hDW fun b hb=>Nat.lt_of_lt_of_le hb hb0.out) (fun b hb=>⟨by have:b<w.heap.size:=hb;omega,fun e=>by have:=(fH.out b e).1;have:b<w.heap.size:=hb;omega⟩)
       fun g hg=>⟨(ho2.lt g hg).2,fun e=>by have h1:=(fH.out g e).2;have h2:Wo.heap.size≤g:=(ho2.lt g hg).1;have h1:g<Wo.heap.size:=h1;omega⟩
     have hsrc:SlR 5 MkR W2 (fun b=>b<W2.heap.size∧(Value.slice Av M.length cv).ownBlock≠some b) (.slice (some ⟨w5.heap.size,0,none⟩) 1 1) [(⟨⟨mk,ma,mb⟩,mr,md⟩:Mk)]:=
      SlR.one kN rfl ⟨An,cn,rfl,hN2⟩ ⟨by show w5.heap.size<_;omega,fun e=>by have h1:w5.heap.size<Wo.heap.size:=(fH.out _ e).2;omega⟩
     clear hW2 hOd kN hN2 ho2 ho5 jK hB2 hDW hOW;refine bB (R:=MkR) rfl (.tmp 11) (.tmp 29) 31 rfl w.heap.size 72 im _ 5 56 Tryz.underlying31 him hm1 hm2 hm3 rfl (by decide) (.slice Av M.length cv) _ M rfl hO2 _ [(⟨⟨mk,ma,mb⟩,mr,md⟩:Mk)] rfl hsrc (fun cs x h=>MkR.one _ _ cs x h) (by simp[maxLen];omega) (by simp;omega) (by omega) (fun w' hg cs x hx=>MkR.aS _ _ _ _ _ _ hx (Agree.grown hg (fun b hb=>⟨hb.1,fun e=>hb.2 e.symm⟩)) (fun _ h=>h)) ?_;intro v7 W7 hO7 hg7 mg;have hs7:=hg7.size;have hb9:=hbw.grown hg7 hbw.size (fun j e=>by have:=(fH.out j e).1;omega);have hO9:aJ 5 MkR W7 (fun b=>b<W7.heap.size∧v7.ownBlock≠some b) w.heap.size 72 v7 (M++[(⟨⟨mk,ma,mb⟩,mr,md⟩:Mk)]):=aJ.keep MkR.aS hO7 (Agree.refl _ _) (fun b hb=>⟨by have:=hb.1;omega,fun e=>by
      rcases mg with e'|e'
      ·exact hb.2 (e'▸e)
      ·rw[e']at e;injection e with e;have:=hb.1;omega⟩) fun _ _=>rfl
     rw[←hst.out]at hO9;clear hO7 hO2 hsrc hg7 mg fH hbw;replace hO9:=hide hO9;go_wp2_with fail;refine dB _ _ _ _ rfl ?_;simp only[List.filterMap_cons,List.filterMap_nil,gA,gZ,gS];go_wp2;go_roundw;case rel=>exact⟨k+1,by omega,by go_num,hO9.out,hb9⟩
     case measure=>simp[intOf];omega
    ·refine aI rfl ?_;simp only[aO,List.filterMap_cons,List.filterMap_nil,if_true,if_false,reduceIte,Nat.reduceEqDiff,List.length_cons,List.length_nil,Nat.reduceAdd];go_wp2_with fail;intro iq hiq;have hiq:iq=5:=by
      simp only[List.filterMap_cons,List.head?_cons,List.filterMap_nil,List.mem_cons,List.not_mem_nil,or_false,or_self]at hiq;omega
     cases hiq;refine aI rfl ?_;simp only[aO,List.filterMap_cons,List.filterMap_nil,if_true,if_false,reduceIte,Nat.reduceEqDiff,List.length_cons,List.length_nil,Nat.reduceAdd];go_wp2_with fail;clear d0 d1 d2 d3 d4 e0 e1 e2 e3;intro iq hiq;have hiq:iq=17:=by
      simp only[List.filterMap_cons,List.head?_cons,List.filterMap_nil,List.mem_cons,List.not_mem_nil,or_false,or_self]at hiq;omega
     cases hiq;refine aI rfl ?_;simp only[aO,List.filterMap_cons,List.filterMap_nil,if_true,if_false,reduceIte,Nat.reduceEqDiff,List.length_cons,List.length_nil,Nat.reduceAdd];go_wp2_with fail;intro iq hiq;have hiq:iq=18:=by
      simp only[List.filterMap_cons,List.head?_cons,List.filterMap_nil,List.mem_cons,List.not_mem_nil,or_false,or_self]at hiq;omega
     cases hiq;refine aI rfl ?_;simp only[aO,List.filterMap_cons,List.filterMap_nil,if_true,if_false,reduceIte,Nat.reduceEqDiff,List.length_cons,List.length_nil,Nat.reduceAdd];go_wp2_with fail;intro iq hiq;have hiq:iq=19:=by
      simp only[List.filterMap_cons,List.head?_cons,List.filterMap_nil,List.mem_cons,List.not_mem_nil,or_false,or_self]at hiq;omega
     cases hiq;refine aI rfl ?_;simp only[aO,List.filterMap_cons,List.filterMap_nil,if_true,if_false,reduceIte,Nat.reduceEqDiff,List.length_cons,List.length_nil,Nat.reduceAdd];obtain⟨W2,hW2⟩:∃W2,w5.alloc (.cells #[.int .i64 mk,.int .i64 ma,.int .i64 mb,.bool mr,.slice An md.length cn] 72)=W2:=⟨_,rfl⟩;rw[hW2];have kN:=Blk.newEq hW2;have hB2:=ah (Below.refl w5.heap.size w5) hW2 (Nat.le_refl _);have hs2:W2.heap.size=w5.heap.size+1:=aB hW2;have hs5:Wo.drew.heap.size≤w5.heap.size:=hb5.size;have hs6:Wo.heap.size≤w5.heap.size:=hb5.size;have hDW:Below Wo.drew.heap.size Wo.drew W2:=hb5.trans (hB2.mono hb5.size);have hOW:Below Wo.heap.size Wo W2:=(⟨rfl,rfl,rfl,Nat.le_refl _,fun _ _=>rfl⟩:Below Wo.heap.size Wo Wo.drew).trans hDW;have hbw:=hb.trans (hOW.mono hb.size);have hwo:=hb.size;have hO2:aJ 5 MkR W2 (fun b=>b<W2.heap.size∧(Value.slice Av M.length cv).ownBlock≠some b) w.heap.size 72 (.slice Av M.length cv) M:=
      aJ.keep MkR.aS hOd.out (Agree.below hDW fun b hb=>hb.1) (fun b hb=>⟨by have:=hb.1;omega,hb.2⟩) fun g hg=>hDW.block g (fH.out g hg).2
     have ho2:=own_below ho5.out hB2 (Nat.le_refl _);have hN2:aY W2 (fun b=>b<W2.heap.size∧(Value.slice Av M.length cv).ownBlock≠some b) (.slice An md.length cn) md:=
      fQ.s jK.out ho2 (Agree.below hDW fun b hb=>Nat.lt_of_lt_of_le hb hb0.out) (fun b hb=>⟨by have:b<w.heap.size:=hb;omega,fun e=>by have:=(fH.out b e).1;have:b<w.heap.size:=hb;omega⟩)
       fun g hg=>⟨(ho2.lt g hg).2,fun e=>by have h1:=(fH.out g e).2;have h2:Wo.heap.size≤g:=(ho2.lt g hg).1;have h1:g<Wo.heap.size:=h1;omega⟩
     have hsrc:SlR 5 MkR W2 (fun b=>b<W2.heap.size∧(Value.slice Av M.length cv).ownBlock≠some b) (.slice (some ⟨w5.heap.size,0,none⟩) 1 1) [(⟨⟨mk,ma,mb⟩,mr,md⟩:Mk)]:=
      SlR.one kN rfl ⟨An,cn,rfl,hN2⟩ ⟨by show w5.heap.size<_;omega,fun e=>by have h1:w5.heap.size<Wo.heap.size:=(fH.out _ e).2;omega⟩
     clear hW2 hOd kN hN2 ho2 ho5 jK hB2 hDW hOW;refine bB (R:=MkR) rfl (.tmp 11) (.tmp 29) 31 rfl w.heap.size 72 im _ 5 56 Tryz.underlying31 him hm1 hm2 hm3 rfl (by decide) (.slice Av M.length cv) _ M rfl hO2 _ [(⟨⟨mk,ma,mb⟩,mr,md⟩:Mk)] rfl hsrc (fun cs x h=>MkR.one _ _ cs x h) (by simp[maxLen];omega) (by simp;omega) (by omega) (fun w' hg cs x hx=>MkR.aS _ _ _ _ _ _ hx (Agree.grown hg (fun b hb=>⟨hb.1,fun e=>hb.2 e.symm⟩)) (fun _ h=>h)) ?_;intro v7 W7 hO7 hg7 mg;have hs7:=hg7.size;have hb9:=hbw.grown hg7 hbw.size (fun j e=>by have:=(fH.out j e).1;omega);have hO9:aJ 5 MkR W7 (fun b=>b<W7.heap.size∧v7.ownBlock≠some b) w.heap.size 72 v7 (M++[(⟨⟨mk,ma,mb⟩,mr,md⟩:Mk)]):=aJ.keep MkR.aS hO7 (Agree.refl _ _) (fun b hb=>⟨by have:=hb.1;omega,fun e=>by
      rcases mg with e'|e'
      ·exact hb.2 (e'▸e)
      ·rw[e']at e;injection e with e;have:=hb.1;omega⟩) fun _ _=>rfl
     rw[←hst.out]at hO9;clear hO7 hO2 hsrc hg7 mg fH hbw;replace hO9:=hide hO9;go_wp2_with fail;refine dB _ _ _ _ rfl ?_;simp only[List.filterMap_cons,List.filterMap_nil,gA,gZ,gS];go_wp2;go_roundw;case rel=>exact⟨k+1,by omega,by go_num,hO9.out,hb9⟩
     case measure=>simp[intOf];omega
  ·obtain rfl:k=P.length:=(by omega);rw[List.take_length]at hO;have hF:MkS Wo (Old Wo) (.slice Av P.length cv) P:=(aJ.keep MkR.aS hO (Agree.refl _ _) (fun b hb=>hb.1) fun _ _=>rfl:aJ 5 MkR Wo (Old Wo) _ _ _ _).sl fun g hg=>(hO.lt g hg).2;replace hF:=hide hF;clear hO;go_wp2;go_ret;refine⟨Av,cv,?_,hF.out,hb⟩;show Ending.returned (.slice Av (P.take P.length).length cv)=_;rw[List.take_length]
set_option maxHeartbeats 1000000
theorem CZ(A:Option Addr)(c:Nat)(l:List Int)(x:Int)(K:Nat→Prop)(w:World)(h:aM w K (.slice A l.length c) l)(hn:l.length≤1000000000):
 Calls Tryz.prog 113 #[.slice A l.length c,.int .i64 x] w fun e w'=>e= .returned (.bool (l.contains x))∧w=w':=by
 replace h:=hide h;generalize hq:l.contains x=r;replace hq:=hide hq;go_enter Tryz.func113,Tryz.ntmps113;go_wp2
 go_loop [5] (fun s5=>∃k:Nat,k≤l.length∧s5= .int .i64 k∧Hid ((l.take k).contains x=false)) (fun s5=>l.length-(intOf s5).toNat)
 case atStart=>exact⟨0,Nat.zero_le _,by go_num,hide rfl⟩
 case round=>
  obtain⟨k,hk,rfl,hc⟩:=hrel;have hk1:(0:Int)≤(k:Int):=Int.natCast_nonneg _;by_cases hlt:k<l.length
  ·have hki:(k:Int)<(l.length:Int):=(by omega);obtain⟨b,off,rfl,-,x1⟩:=h.out.at_ hlt;have hst:Hid ((l.take (k+1)).contains x=((l.take k).contains x||l[k]==x)):=hide (by rw[take_snoc' hlt,List.contains_append];congr 1;rw[List.contains_cons,List.contains_nil,Bool.or_false];rw[Bool.eq_iff_iff,beq_iff_eq,beq_iff_eq];exact eq_comm);have hin:Hid ((l[k]==x)=true→r=true):=hide (fun e=>by rw[←hq.out,List.contains_iff_mem];have:=eq_of_beq e;subst this;exact List.getElem_mem hlt);generalize l[k]=y at*;cases hy:(y==x)with
   |true=>
    have hr:=hide (hin.out hy);clear hin hst;replace hc:=hide hc;go_wp2;go_ret;exact⟨by rw[hr.out];rfl,rfl⟩
   |false=>
    have hr:Hid ((l.take (k+1)).contains x=false):=hide (by rw[hst.out,hc.out,hy];rfl);clear hin hst;replace hc:=hide hc;go_wp2
    go_round
    case rel=>exact⟨k+1,by omega,by go_num,hr⟩
    case measure=>simp[intOf];omega
  ·obtain rfl:k=l.length:=(by omega);have hr:Hid (r=false):=hide (by have:=hc.out;rw[List.take_length]at this;rw[←hq.out];exact this);replace hc:=hide hc;go_wp2;go_ret;exact⟨by rw[hr.out];rfl,rfl⟩
set_option maxHeartbeats 4000000
def uX(E:aj)(l:List Int)(v j:Nat):Bool:=(List.range j).any fun x=>E x v&& !l.contains (x:Int)
theorem Jp(E:aj)(l:List Int)(v j:Nat):uX E l v (j+1)=(uX E l v j||(E j v&& !l.contains (j:Int))):=by
 unfold uX;rw[List.range_succ,List.any_append];simp
def lJ(n:Nat)(E:aj)(l:List Int)(v:Nat):Bool:= !l.contains (v:Int)&& !uX E l v n
def xQ(n:Nat)(E:aj)(l:List Int):Int:=match (List.range n).find? (lJ n E l)with
 |some v=>(v:Int)
 |none=> -1
theorem Jq{n:Nat}{E:aj}{l:List Int}{i:Nat}(hi:i<n)(h0:∀v,v<i→lJ n E l v=false)(h:lJ n E l i=true):xQ n E l=i:=by
 unfold xQ;have:(List.range n).find? (lJ n E l)=some i:=by
  rw[List.find?_range_eq_some];exact⟨h,by simpa using hi,fun v hv=>by simp[h0 v hv]⟩
 rw[this]
theorem Jr{n:Nat}{E:aj}{l:List Int}(h0:∀v,v<n→lJ n E l v=false):xQ n E l= -1:=by
 unfold xQ;have:(List.range n).find? (lJ n E l)=none:=by
  rw[List.find?_eq_none];intro v hv;simp[h0 v (by simpa using hv)]
 rw[this]
set_option maxRecDepth 100000 in
theorem Gi(n:Nat)(A:Option Addr)(c:Nat)(E:aj)(Al:Option Addr)(cl:Nat)(l:List Int)(K:Nat→Prop)(w:World)(h:GrS w K n A c E)(hl:aM w K (.slice Al l.length cl) l)(hK:∀b,K b→b<w.heap.size)(hll:l.length≤1000000000):
 Calls Tryz.prog 73 #[.agg #[.int .i64 n,.slice A n c],.slice Al l.length cl] w fun e w'=>e= .returned (.int .i64 (xQ n E l))∧Below w.heap.size w w':=by
 have hB:Below w.heap.size w (w.alloc (.cells #[.int .i64 n,.slice A n c] 89)):=(Below.refl _ _).alloc (Nat.le_refl _) _;have kG:=Blk.new w 89 #[.int .i64 n,.slice A n c];have hg:=hide (h.keep (Agree.below hB hK) (fun b hb=>hb));have hl0:=hide (hl.keep (Agree.below hB hK) (fun b hb=>hb));have hsz:=hB.size;have hK0:∀b,K b→b<(w.alloc (.cells #[.int .i64 n,.slice A n c] 89)).heap.size:=fun b hb=>Nat.lt_of_lt_of_le (hK b hb) hsz;clear h hl;have dK:=hg.out.n64;go_enter Tryz.func73,Tryz.ntmps73;go_upto_region 1 with fail;generalize w.alloc (.cells #[.int .i64 n,.slice A n c] 89)=W at*;go_wp2_with fail;go_loopw [5] (fun s5 wr=>∃i:Nat,i≤n∧s5= .int .i64 i∧Hid (∀v,v<i→lJ n E l v=false)∧Below W.heap.size W wr) (fun s5 _=>n-(intOf s5).toNat);case atStart=>exact⟨0,Nat.zero_le _,by go_num,fun v hv=>absurd hv (by omega),Below.refl _ _⟩
 case round=>
  obtain⟨i,hi,rfl,hall,hbr⟩:=hrel;obtain⟨Wr,rfl⟩:∃Wr,Wr=wr:=⟨_,rfl⟩;have hi1:(0:Int)≤(i:Int):=Int.natCast_nonneg _;have kr:=kG.below hbr kG.lt;have c0:=Blk.n0 kr;have hlr:=hide (hl0.out.keep (Agree.below hbr hK0) (fun b hb=>hb));by_cases hlt:i<n
  ·have hi2:(i:Int)<(n:Int):=(by omega);have hst:Hid (lJ n E l i=false→∀v,v<i+1→lJ n E l v=false):=hide (fun g v hv=>by
    by_cases e:v=i
    ·subst e;exact g
    ·exact hall v (by omega))
   have hyes:Hid (lJ n E l i=true→xQ n E l=i):=hide (fun g=>Jq hlt hall g);have hfr:Hid (lJ n E l i=(!l.contains (i:Int)&& !uX E l i n)):=hide rfl;generalize lJ n E l i=fb at*;have hin:=CZ Al cl l (i:Int) K Wr hlr.out hll;generalize l.contains (i:Int)=ct at*;replace hall:=hide hall;go_wp2_with fail;refine hin.mono ?_;rintro e w1 ⟨rfl,rfl⟩;clear hin;cases ct with
   |true=>
    have hr:=hide (hst.out (by rw[hfr.out];rfl));clear hst hyes hfr;go_wp2;go_roundw;case rel=>exact⟨i+1,by omega,by go_num,hr.out,hbr⟩
    case measure=>simp[intOf];omega
   |false=>
    go_wp2_with fail;go_loopw [7,8] (fun s7 s8 wq=>∃j:Nat,j≤n∧s8= .int .i64 j∧s7= .bool (uX E l i j)∧Below W.heap.size W wq) (fun _ s8 _=>n-(intOf s8).toNat);case atStart=>exact⟨0,Nat.zero_le _,by go_num,rfl,hbr⟩
    case round=>
     obtain⟨j,hj,rfl,rfl,hbq⟩:=hrel;obtain⟨Wq,rfl⟩:∃Wq,Wq=wr:=⟨_,rfl⟩;have hj1:(0:Int)≤(j:Int):=Int.natCast_nonneg _;clear c0;have kq:=kG.below hbq kG.lt;have c0:=Blk.n0 kq;have c1:=Blk.n1 kq;have hlq:=hide (hl0.out.keep (Agree.below hbq hK0) (fun b hb=>hb));have hgq:=hide (hg.out.keep (Agree.below hbq hK0) (fun b hb=>hb));by_cases hjl:j<n
     ·have hj2:(j:Int)<(n:Int):=(by omega);have hsu:=hide (Jp E l i j);have hin:=CZ Al cl l (j:Int) K Wq hlq.out hll;have hha:=hide (gM n A c E j i K Wq hgq.out (fun b hb=>Nat.lt_of_lt_of_le (hK0 b hb) hbq.size) hjl hlt);generalize l.contains (j:Int)=cj at*;generalize E j i=ej at*;generalize uX E l i j=lj at*;go_wp2_with fail;refine hin.mono ?_;rintro e w1 ⟨rfl,rfl⟩;clear hin;go_wp2_with fail;refine hha.out.mono ?_;rintro e w2 ⟨rfl,hb2⟩;have hb3:=hbq.trans (hb2.mono hbq.size);clear hha c0 c1;cases lj<;>cases ej<;>cases cj;all_goals
       go_wp2;go_roundw;case rel=>exact⟨j+1,by omega,by go_num,by rw[hsu.out];rfl,hb3⟩
       case measure=>simp[intOf];omega
     ·obtain rfl:j=n:=(by omega);generalize uX E l i j=lj at*;cases lj with
      |true=>
       have hr:=hide (hst.out (by rw[hfr.out];rfl));clear hst hyes hfr;go_wp2;go_roundw;case rel=>exact⟨i+1,by omega,by go_num,hr.out,hbq⟩
       case measure=>simp[intOf];omega
      |false=>
       have hr:=hide (hyes.out (by rw[hfr.out];rfl));clear hst hyes hfr;go_wp2;go_ret;exact⟨by rw[hr.out];rfl,hB.trans (hbq.mono hsz)⟩
  ·obtain rfl:i=n:=(by omega);have hr:=hide (Jr hall);replace hall:=hide hall;go_wp2;go_ret;exact⟨by rw[hr.out];rfl,hB.trans (hbr.mono hsz)⟩
theorem qD(L:List Nat)(v:Nat):(au L).contains (v:Int)=L.contains v:=by
 unfold au;rw[Bool.eq_iff_iff,List.contains_iff_mem,List.contains_iff_mem,List.mem_map];exact⟨fun⟨a,h,e⟩=>by rw[←Int.ofNat_inj.1 e];exact h,fun h=>⟨v,h,rfl⟩⟩
theorem Js{n:Nat}{E:aj}{L:List Nat}(v:Nat):lJ n E (au L) v=(!L.contains v&&(List.range n).all fun x=> !E x v||L.contains x):=by
 unfold lJ uX;rw[qD,List.not_any_eq_all_not];congr 2;funext x;rw[qD,Bool.not_and,Bool.not_not]
theorem Jt(n:Nat)(E:aj)(L:List Nat):xQ n E (au L)=match jP n E L with|some v=>(v:Int)|none=> -1:=by
 unfold xQ jP;have:lJ n E (au L)=fun v=> !L.contains v&&(List.range n).all fun x=> !E x v||L.contains x:=funext fun v=>Js v;rw[this];all_goals (cases List.find? (fun v=> !L.contains v&&(List.range n).all fun x=> !E x v||L.contains x) (List.range n)<;>rfl)
set_option maxRecDepth 100000 in
theorem D7(n:Nat)(A:Option Addr)(c:Nat)(E:aj)(K:Nat→Prop)(w:World)(h:GrS w K n A c E)(hK:∀b,K b→b<w.heap.size):
 Calls Tryz.prog 32 #[.agg #[.int .i64 n,.slice A n c]] w (lC w (fK n E)):=by
 obtain⟨ii,hii,hi1,hi2,hi3⟩:=info_parts gU;have dK:=h.n64;have hB:Below w.heap.size w (w.alloc (.cells #[.int .i64 n,.slice A n c] 89)):=(Below.refl _ _).alloc (Nat.le_refl _) _;have kG:=Blk.new w 89 #[.int .i64 n,.slice A n c];have hsz:=hB.size;have hg:=hide (h.keep (Agree.below hB hK) (fun b hb=>hb));have hK0:∀b,K b→b<(w.alloc (.cells #[.int .i64 n,.slice A n c] 89)).heap.size:=fun b hb=>Nat.lt_of_lt_of_le (hK b hb) hsz;clear h;go_enter Tryz.func32,Tryz.ntmps32;go_upto_region 1 with fail;generalize w.alloc (.cells #[.int .i64 n,.slice A n c] 89)=W at*;have c0:=Blk.n0 kG;have c1:=Blk.n1 kG;go_wp2_with fail;refine(um n A c E K W hg.out hK0).mono ?_;rintro e w1 ⟨rfl,hb1⟩;clear c0 c1;have k1:=kG.below hb1 kG.lt;have c0:=Blk.n0 k1;have hs1:=hb1.size;go_wp2_with fail;go_loopw [5] (fun s5 wr=>∃(k:Nat) (L:List Nat),k≤n∧Hid (cO n E k=some L)∧bA wr w1.heap.size s5 (au L)∧Below w1.heap.size w1 wr) (fun s5 _=>n-(match s5 with| .slice _ m _=>m|_=>0));case atStart=>exact⟨0,[],Nat.zero_le _,hide rfl,bA.nil _ _,Below.refl _ _⟩
 case round=>
  obtain⟨k,L,hk,hL,hown,hbr⟩:=hrel;obtain⟨Wr,rfl⟩:∃Wr,Wr=wr:=⟨_,rfl⟩;have hLk:=gH hL.out;have hlen:(au L).length=k:=(by unfold au;simpa using hLk);obtain⟨Ao,co,rfl⟩:=bA.form hown;clear c0;have kr:=k1.below hbr k1.lt;have c0:=Blk.n0 kr;have c1:=Blk.n1 kr;have hbw:=hb1.trans (hbr.mono hs1);have hgr:=hide (hg.out.keep (Agree.below hbw hK0) (fun b hb=>hb));have hKr:∀b,K b→b<Wr.heap.size:=fun b hb=>Nat.lt_of_lt_of_le (hK0 b hb) hbw.size;have hfx:=hide (Jt n E L);have hsl:=hide (bA.sl (K:=Old Wr) hown (fun g _ h=>h));have hlo:=hide hlen;rw[hlen]at hown hsl;replace hown:=hide hown;clear hlen;by_cases hlt:k<n
  ·have hlt2:decide ((k:Int)<(n:Int))=true:=(by simpa using hlt);have hlt3:decide (k<n)=true:=(by simpa using hlt);rw[hlo.out];have hfc:=hide (Gi n A c E Ao co (au L) (fun b=>K b∨b<Wr.heap.size) Wr (hgr.out.keep (Agree.refl _ _) (fun b h=> .inl h)) (by rw[hlo.out];exact hsl.out.keep (Agree.refl _ _) (fun b h=> .inr h)) (fun b hb=>by rcases hb with h|h;exact hKr b h;exact h) (by rw[hlo.out];omega));rw[hlo.out,hfx.out]at hfc;go_wp2_with fail;refine hfc.out.mono ?_;clear hfc;rintro e w2 ⟨rfl,hb2⟩;have yj:=hbr.trans (hb2.mono hbr.size);have hown2:=own_below hown.out hb2 (Nat.le_refl _);cases hnt:jP n E L with
   |none=>
    have hf:=hide (xC hlt hL.out hnt);have hbz:=hB.trans ((hb1.trans (yj.mono hs1)).mono hsz);clear hnt hfx;dsimp only;go_wp2;exact bodyPost_ret (v:= .tuple #[.slice none 0 0,.bool false]) (by simp[results,Tryz.results32,go_sem]) rfl (by rw[hf.out];exact lC.no hbz)
   |some v=>
    have hL2:=hide (uQ hL.out hnt);have hvn:=FN hnt;clear hnt hfx;dsimp only;have hv0:decide ((v:Int)<0)=false:=(by simp);have hit:Hid (au L++[(v:Int)]=au (L++[v])):=hide (by unfold au;simp);have hown3:Hid (w2.ownsRow w1.heap.size 3 1 (.slice Ao (au L).length co) (au L).length ((au L).map Go.Inq.encI).flatten):=hide (by
     have:=hown2;unfold bA at this;rw[hlo.out]at this⊢;exact this)
    have hlk:Hid ((L++[v]).length=k+1):=hide (gH hL2.out);have hDl:(au L).length≤64:=(by rw[hlo.out];omega);rw[←hlo.out];generalize hD:au L=D at*;have hkD:D.length+1≤maxLen:=(by unfold maxLen;omega);have hkb:(D.length+1)*8≤140737488355328:=(by omega);have hsw:w1.heap.size≤w2.heap.size:=yj.size;replace hD:=hide hD;go_wp2_with (at_builtin;go_loud (refine aN (enc:=Go.Inq.encI) rfl (.tmp 21) (.tmp 23) 35 rfl w1.heap.size 3 ii _ 1 8 Tryz.underlying35 hii hi1 hi2 hi3 rfl (by decide) (.slice Ao D.length co) D rfl hown3.out (fun _=>rfl) (v:Int) _ rfl rfl Go.Inq.fD hkD hkb hsw w1 w1.heap.size (Nat.le_refl _) yj ?_);intro v1 w6 hown1 hg1 hbz jN);go_roundw;case rel=>exact⟨k+1,L++[v],by omega,hL2,by rw[←hit.out];exact hown1,hbz⟩
    case measure=>
     obtain⟨A6,c6,e6⟩:=aW hown1;rw[e6];have:=hlo.out;simp;omega
  ·obtain rfl:k=n:=(by omega);have hf:Hid (fK k E=some L):=hide hL.out;have hbz:=hB.trans ((hb1.trans (hbr.mono hs1)).mono hsz);have hos:Hid (bA Wr w.heap.size (.slice Ao k co) (au L)):=hide (own_base' hown.out (Nat.le_trans hsz hs1));have hlt2:decide ((k:Int)<(k:Int))=false:=(by simp);rw[hlo.out];go_wp2;exact bodyPost_ret (v:= .tuple #[.slice Ao k co,.bool true]) (by simp[results,Tryz.results32,go_sem]) rfl (by rw[hf.out];exact lC.yes hos.out hbz)
def iZ(w:World)(g cap n:Nat)(D:Nat→Nat):Prop:=∃cur:Array Value,Blk w g 3 cur∧cur.size=cap∧n≤cap∧cap≤maxLen∧∀x,x<n→cur[x]?=some (.int .i64 ((D x:Nat):Int))
theorem iZ.of{w:World}{base:Nat}{v:Value}{n:Nat}{D:Nat→Nat}(h:bA w base v (au ((List.range n).map D)))(hn:0<n):∃g cap,base≤g∧v= .slice (some ⟨g,0,none⟩) n cap∧iZ w g cap n D:=by
 have hl:(au ((List.range n).map D)).length=n:=(by simp[au]);unfold bA at h;rw[hl]at h;rcases h.2 with⟨_,h2⟩|⟨g,cap,cur,hv,hg,hb,h1,h2,h3,h4⟩
 ·omega
 ·refine⟨g,cap,hg,hv,cur,hb,by simpa using h3,h1,h2,fun x hx=> ?_⟩;have e1:(((au ((List.range n).map D)).map Go.Inq.encI).flatten)[x]?=some (.int .i64 ((D x:Nat):Int)):=by
   have:((au ((List.range n).map D)).map Go.Inq.encI).flatten=(List.range n).map fun y=>Value.int .i64 ((D y:Nat):Int):=by
    unfold au;rw[List.map_map,List.map_map]
    induction List.range n with
    |nil=>rfl
    |cons a l ih=>simp[Go.Inq.encI]at ih⊢;exact ih
   rw[this,List.getElem?_map,List.getElem?_range hx];rfl
  rw[←h4,List.getElem?_take]at e1;have hx1:x<n*1:=(by omega);rw[if_pos hx1]at e1;simpa using e1
theorem iZ.below{w w':World}{g cap n:Nat}{D:Nat→Nat}(h:iZ w g cap n D){B:Nat}(hb:Below B w w')(hg:g<B):iZ w' g cap n D:=by
 obtain⟨cur,h1,h2⟩:=h;exact⟨cur,h1.below hb hg,h2⟩
theorem iZ.lt{w:World}{g cap n:Nat}{D:Nat→Nat}(h:iZ w g cap n D):g<w.heap.size:=by obtain⟨cur,h1,-⟩:=h;exact h1.lt
theorem iZ.cell{w:World}{g cap n:Nat}{D:Nat→Nat}(h:iZ w g cap n D){x:Nat}(hx:x<n):w.cell? ⟨g,x,none⟩=some (.int .i64 ((D x:Nat):Int))∧w.frozen? ⟨g,x,none⟩=false:=by
 obtain⟨cur,h1,h2,h3,h4,h5⟩:=h;exact⟨(h1.cell x).trans (h5 x hx),h1.frozen x⟩
theorem iZ.put{w:World}{g cap n:Nat}{D F:Nat→Nat}{x:Nat}{u:Value}(h:iZ w g cap n D)(hx:x<n)(hu:u= .int .i64 ((F x:Nat):Int))(hF:∀y,y<n→y≠x→F y=D y):iZ (w.setCell ⟨g,x,none⟩ u) g cap n F:=by
 obtain⟨cur,h1,h2,h3,h4,h5⟩:=h;refine⟨_,h1.aH x u,by simpa using h2,h3,h4,fun y hy=> ?_⟩;by_cases e:y=x
 ·subst e;rw[hu,Array.getElem?_setIfInBounds_self_of_lt (by omega)]
 ·rw[hF y hy e,←h5 y hy,Array.getElem?_setIfInBounds_ne (Ne.symm e)]
theorem iZ.congr{w:World}{g cap n:Nat}{D F:Nat→Nat}(h:iZ w g cap n D)(hF:∀y,y<n→F y=D y):iZ w g cap n F:=by
 obtain⟨cur,h1,h2,h3,h4,h5⟩:=h;exact⟨cur,h1,h2,h3,h4,fun x hx=>by rw[hF x hx];exact h5 x hx⟩
def uY(n:Nat)(E:aj)(v k x:Nat)(y:Nat):Nat:=if y<x then bC n E v (k+1) y else bC n E v k y
def iD(n:Nat)(E:aj)(v k x m:Nat)(y:Nat):Nat:=if y=x then(if bC n E v k x≠0 then bC n E v k x else if((List.range m).any fun z=>E x z&&decide (bC n E v k z=k))=true then k+1 else 0)else uY n E v k x y
theorem MR{n:Nat}{E:aj}{v k x y:Nat}:iD n E v k x 0 y=uY n E v k x y:=by
 unfold iD;by_cases e:y=x
 ·subst e;rw[if_pos rfl];unfold uY;rw[if_neg (Nat.lt_irrefl y)];by_cases h:bC n E v k y=0
  ·have hh:¬bC n E v k y≠0:=fun q=>q h;rw[if_neg hh,h];rfl
  ·rw[if_pos h]
 ·rw[if_neg e]
theorem Ju{n:Nat}{E:aj}{v k x:Nat}(hx:x<n):bS n E v (k+1) x=(List.range n).any fun z=>E x z&&decide (bC n E v (k+1) z=k+1):=by
 show((List.range n).any fun y=>E x y&&decide (cB n E v k y=k+1))=_;rw[Bool.eq_iff_iff,List.any_eq_true,List.any_eq_true];constructor
 ·rintro⟨y,hy,h⟩;refine⟨y,hy,?_⟩;have:bC n E v (k+1) y=cB n E v k y:=(by unfold bC;rw[if_pos (List.mem_range.1 hy)]);rw[this];exact h
 ·rintro⟨y,hy,h⟩;refine⟨y,hy,?_⟩;have:bC n E v (k+1) y=cB n E v k y:=(by unfold bC;rw[if_pos (List.mem_range.1 hy)]);rw[this]at h;exact h
theorem Gj{n:Nat}{E:aj}{v k x m y:Nat}(hk:0<k)(hx:x<n)(hm:m≤n)(h:m=n∨iD n E v k x m x≠0):iD n E v k x m y=uY n E v k (x+1) y:=by
 by_cases e:y=x
 ·subst e;have e1:uY n E v k (y+1) y=bC n E v (k+1) y:=(by unfold uY;rw[if_pos (by omega)]);rw[e1,qO hx];unfold iD at h⊢;rw[if_pos rfl]at h⊢;by_cases h0:bC n E v k y=0
  ·have hh:¬bC n E v k y≠0:=fun q=>q h0;rw[if_neg hh]at h⊢;rw[if_neg hh];obtain⟨j,rfl⟩:∃j,k=j+1:=⟨k-1,by omega⟩;rw[Ju hx];rcases h with rfl|h
   ·rfl
   ·cases q:(List.range m).any fun z=>E y z&&decide (bC n E v (j+1) z=j+1)with
    |false=>rw[q]at h;simp at h
    |true=>
     have:((List.range n).any fun z=>E y z&&decide (bC n E v (j+1) z=j+1))=true:=by
      rw[List.any_eq_true]at q⊢;obtain⟨z,hz,hq⟩:=q;exact⟨z,List.mem_range.2 (by have:=List.mem_range.1 hz;omega),hq⟩
     rw[this]
  ·rw[if_pos h0,if_pos h0]
 ·unfold iD;rw[if_neg e];unfold uY;by_cases e2:y<x
  ·rw[if_pos e2,if_pos (by omega)]
  ·rw[if_neg e2,if_neg (by omega)]
theorem MS{n:Nat}{E:aj}{v k x m:Nat}(h0:iD n E v k x m x=0):(E x m&&decide (bC n E v k m=k))=false→∀y,iD n E v k x (m+1) y=iD n E v k x m y:=by
 intro h y;unfold iD;by_cases e:y=x
 ·rw[if_pos e,if_pos e,List.range_succ,List.any_append];simp only[List.any_cons,List.any_nil,h,Bool.or_false]
 ·rw[if_neg e,if_neg e]
theorem PW{n:Nat}{E:aj}{v k x m:Nat}(h0:iD n E v k x m x=0):(E x m&&decide (bC n E v k m=k))=true→iD n E v k x (m+1) x=k+1∧∀y,y≠x→iD n E v k x (m+1) y=iD n E v k x m y:=by
 intro h;constructor
 ·unfold iD at h0⊢;rw[if_pos rfl]at h0⊢;have hz:bC n E v k x=0:=by
   by_cases q:bC n E v k x=0
   ·exact q
   ·rw[if_pos q]at h0;exact absurd h0 q
  have hh:¬bC n E v k x≠0:=fun q=>q hz;rw[if_neg hh,List.range_succ,List.any_append];simp only[List.any_cons,List.any_nil,h,Bool.or_true,Bool.or_false,if_true]
 ·intro y e;unfold iD;rw[if_neg e,if_neg e]
theorem QT{n:Nat}{E:aj}{v k x m z:Nat}(hk:0<k)(hz:z<n):decide (iD n E v k x m z=k)=decide (bC n E v k z=k):=by
 have key:iD n E v k x m z=bC n E v k z∨(bC n E v k z=0∧(iD n E v k x m z=k+1)):=by
  unfold iD;by_cases e:z=x
  ·subst e;rw[if_pos rfl];by_cases h:bC n E v k z=0
   ·have hh:¬bC n E v k z≠0:=fun q=>q h;rw[if_neg hh];split
    ·exact .inr ⟨h,rfl⟩
    ·exact .inl h.symm
   ·rw[if_pos h];exact .inl rfl
  ·rw[if_neg e];unfold uY;split
   ·rw[qO hz];by_cases h:bC n E v k z=0
    ·have hh:¬bC n E v k z≠0:=fun q=>q h;rw[if_neg hh];split
     ·exact .inr ⟨h,rfl⟩
     ·exact .inl h.symm
    ·rw[if_pos h];exact .inl rfl
   ·exact .inl rfl
 rcases key with e|⟨e1,e2⟩
 ·rw[e]
 ·rw[e1,e2,decide_eq_false (by omega),decide_eq_false (by omega)]
theorem QU{n:Nat}{E:aj}{v:Nat}(hn:0<n)(x:Nat):eG n E v x=bC n E v n x:=by
 unfold eG bC;split
 ·obtain⟨j,rfl⟩:∃j,n=j+1:=⟨n-1,by omega⟩;rfl
 ·rfl
theorem QV{n:Nat}{E:aj}{v x:Nat}(hx:x<n):bC n E v 1 x=if E x v=true then 1 else 0:=by
 unfold bC;rw[if_pos hx];rfl
set_option maxRecDepth 100000 in
theorem Jv(n:Nat)(A:Option Addr)(c:Nat)(E:aj)(v:Nat)(K:Nat→Prop)(w:World)(h:GrS w K n A c E)(hK:∀b,K b→b<w.heap.size)(hv:v<n):
 Calls Tryz.prog 68 #[.agg #[.int .i64 n,.slice A n c],.int .i64 (v:Int)] w fun e w'=>∃g cap,e= .returned (.slice (some ⟨g,0,none⟩) n cap)∧w.heap.size≤g∧iZ w' g cap n (eG n E v)∧Below w.heap.size w w':=by
 obtain⟨ii,hii,hi1,hi2,hi3⟩:=info_parts gU;have dK:=h.n64;obtain⟨W,hW⟩:∃W,w.alloc (.cells #[.int .i64 n,.slice A n c] 89)=W:=⟨_,rfl⟩;have hB:=ah (Below.refl w.heap.size w) hW (Nat.le_refl _);have kG:=Blk.newEq hW;have hsz:=hB.size;have hsz1:=aB hW;have hg:=hide (fun W' (hb:Below w.heap.size w W')=>gM n A c E);have hgr:Hid (∀W',Below w.heap.size w W'→∀a b,a<n→b<n→Calls Tryz.prog 69 #[.agg #[.int .i64 n,.slice A n c],.int .i64 (a:Int),.int .i64 (b:Int)] W' fun e w'=>e= .returned (.bool (E a b))∧Below W'.heap.size W' w'):=
  hide (fun W' hb a b ha hb'=>gM n A c E a b K W' (h.keep (Agree.below hb hK) (fun b h=>h)) (fun b h=>Nat.lt_of_lt_of_le (hK b h) hb.size) ha hb')
 have hv0:(0:Int)≤(v:Int):=Int.natCast_nonneg _;clear h hg;go_enter Tryz.func68,Tryz.ntmps68;go_upto_region 3 with fail;try rw[hW]
 clear hW;go_loopw [5,6] (fun s5 s6 wr=>∃x:Nat,x≤n∧s6= .int .i64 x∧bA wr W.heap.size s5 (au ((List.range x).map (bC n E v 1)))∧Below W.heap.size W wr) (fun _ s6 _=>n-(intOf s6).toNat);case atStart=>exact⟨0,Nat.zero_le _,by go_num,bA.nil _ _,Below.refl _ _⟩
 case round=>
  obtain⟨x,hx,rfl,hown,hbr⟩:=hrel;obtain⟨Wr,rfl⟩:∃Wr,Wr=wr:=⟨_,rfl⟩;have hx0:(0:Int)≤(x:Int):=Int.natCast_nonneg _;have kr:=kG.below hbr kG.lt;have c0:=Blk.n0 kr;have c1:=Blk.n1 kr;by_cases hlt:x<n
  ·have hx1:(x:Int)<(n:Int):=(by omega);have hbw:=hB.trans (hbr.mono hsz);have hhc:=hide (hgr.out Wr hbw x v hlt hv);have hlen:(au ((List.range x).map (bC n E v 1))).length=x:=(by simp[au]);have hit:Hid (∀b,E x v=b→au ((List.range x).map (bC n E v 1))++[if b=true then(1:Int)else 0]=au ((List.range (x+1)).map (bC n E v 1))):=hide (by
    rintro b rfl;rw[List.range_succ,List.map_append];unfold au;rw[List.map_append,List.map_cons,List.map_cons,QV hlt];cases E x v<;>rfl)
   obtain⟨Ao,co,rfl⟩:=bA.form hown;rw[hlen]at hown;have hDl:(au ((List.range x).map (bC n E v 1))).length≤64:=(by rw[hlen];omega);obtain⟨b,hb⟩:∃b,E x v=b:=⟨_,rfl⟩;have hit2:=hide (hit.out b hb);clear hit;rw[hb]at hhc;clear hb;generalize au ((List.range x).map (bC n E v 1))=D at*;have hkD:D.length+1≤maxLen:=(by unfold maxLen;omega);have hkb:(D.length+1)*8≤140737488355328:=(by omega);go_wp2_with fail;refine hhc.out.mono ?_;rintro e w2 ⟨rfl,hb2⟩;have yj:=hbr.trans (hb2.mono hbr.size);have hown2:=hide (own_below hown hb2 (Nat.le_refl _));have hsw:W.heap.size≤w2.heap.size:=yj.size;clear hhc hown c0 c1 kr;cases b with
   |true=>
    replace hit2:Hid (D++[(1:Int)]=_):=hit2;go_wp2_with (at_builtin;go_loud (refine aN (enc:=Go.Inq.encI) rfl (.tmp 24) (.tmp 26) 35 rfl W.heap.size 3 ii _ 1 8 Tryz.underlying35 hii hi1 hi2 hi3 rfl (by decide) (.slice Ao x co) D rfl hown2.out (fun _=>rfl) (1:Int) _ rfl rfl Go.Inq.fD hkD hkb hsw W W.heap.size (Nat.le_refl _) yj ?_);intro v1 w6 hown1 hg1 hbz jN);go_roundw;case rel=>exact⟨x+1,by omega,by go_num,by rw[←hit2.out];exact hown1,hbz⟩
    case measure=>simp[intOf];omega
   |false=>
    replace hit2:Hid (D++[(0:Int)]=_):=hit2;go_wp2_with (at_builtin;go_loud (refine aN (enc:=Go.Inq.encI) rfl (.tmp 24) (.tmp 26) 35 rfl W.heap.size 3 ii _ 1 8 Tryz.underlying35 hii hi1 hi2 hi3 rfl (by decide) (.slice Ao x co) D rfl hown2.out (fun _=>rfl) (0:Int) _ rfl rfl Go.Inq.fD hkD hkb hsw W W.heap.size (Nat.le_refl _) yj ?_);intro v1 w6 hown1 hg1 hbz jN);go_roundw;case rel=>exact⟨x+1,by omega,by go_num,by rw[←hit2.out];exact hown1,hbz⟩
    case measure=>simp[intOf];omega
  ·obtain rfl:x=n:=(by omega);obtain⟨g,cap,hg,rfl,hR⟩:=iZ.of hown (by omega);have hbw:=hB.trans (hbr.mono hsz);have hgw:w.heap.size+1≤g:=(by omega);have hgl:=hR.lt;have hn0:0<x:=(by omega);clear hown hg hv0 hB hv;go_wp2_with fail;go_loopw [9] (fun s9 wr=>∃k:Nat,1≤k∧k≤x∧s9= .int .i64 k∧iZ wr g cap x (bC x E v k)∧Blk wr w.heap.size 89 #[.int .i64 x,.slice A x c]∧Below w.heap.size w wr) (fun s9 _=>x-(intOf s9).toNat);case atStart=>exact⟨1,Nat.le_refl _,hn0,by go_num,hR,kr,hbw⟩
   case round=>
    clear hR kr hbw c0 c1 hbr hgl;obtain⟨k,hk1,hkx,rfl,hR,kr,hbw⟩:=hrel;obtain⟨Wk,rfl⟩:∃Wk,Wk=wr:=⟨_,rfl⟩;have c0:=Blk.n0 kr;have hk0:(0:Int)≤(k:Int):=Int.natCast_nonneg _;by_cases hkt:k<x
    ·have hk2:(k:Int)<(x:Int):=(by omega);have hR0:iZ Wk g cap x (uY x E v k 0):=hR.congr fun y _=>(by unfold uY;rw[if_neg (Nat.not_lt_zero y)]);clear hR;go_wp2_with fail;go_loopw [10] (fun s10 wr=>∃p:Nat,p≤x∧s10= .int .i64 p∧iZ wr g cap x (uY x E v k p)∧Blk wr w.heap.size 89 #[.int .i64 x,.slice A x c]∧Below w.heap.size w wr) (fun s10 _=>x-(intOf s10).toNat);case atStart=>exact⟨0,Nat.zero_le _,by go_num,hR0,kr,hbw⟩
     case round=>
      clear hR0 kr hbw c0;obtain⟨p,hp,rfl,hR,kr,hbw⟩:=hrel;obtain⟨Wp,rfl⟩:∃Wp,Wp=wr:=⟨_,rfl⟩;have c0:=Blk.n0 kr;have hp0:(0:Int)≤(p:Int):=Int.natCast_nonneg _;by_cases hpt:p<x
      ·have hp2:(p:Int)<(x:Int):=(by omega);have hR0:iZ Wp g cap x (iD x E v k p 0):=hR.congr fun y _=>MR;clear hR;go_wp2_with fail;go_loopw [11] (fun s11 wr=>∃m:Nat,m≤x∧s11= .int .i64 m∧iZ wr g cap x (iD x E v k p m)∧Blk wr w.heap.size 89 #[.int .i64 x,.slice A x c]∧Below w.heap.size w wr) (fun s11 _=>x-(intOf s11).toNat);case atStart=>exact⟨0,Nat.zero_le _,by go_num,hR0,kr,hbw⟩
       case round=>
        clear hR0 kr hbw c0;obtain⟨m,hm,rfl,hR,kr,hbw⟩:=hrel;obtain⟨Wm,rfl⟩:∃Wm,Wm=wr:=⟨_,rfl⟩;have c0:=Blk.n0 kr;have c1:=Blk.n1 kr;have hm0:(0:Int)≤(m:Int):=Int.natCast_nonneg _;obtain⟨dp,fp⟩:=hR.cell hpt;by_cases hmt:m<x
        ·have hm2:(m:Int)<(x:Int):=(by omega);by_cases hz:iD x E v k p m p=0
         ·have hzb:((iD x E v k p m p:Int)==0)=true:=(by simp[hz]);have hhc:=hide (hgr.out Wm hbw p m hpt hmt);obtain⟨b,hb⟩:∃b,E p m=b:=⟨_,rfl⟩;rw[hb]at hhc;have hst:=hide (fun q=>MS (n:=x) (E:=E) (v:=v) (k:=k) (x:=p) (m:=m) hz q);have hht:=hide (fun q=>PW (n:=x) (E:=E) (v:=v) (k:=k) (x:=p) (m:=m) hz q);have hat:=QT (n:=x) (E:=E) (v:=v) (k:=k) (x:=p) (m:=m) (z:=m) (by omega) hmt;rw[hb,←hat]at hst hht;clear hat hb hz;obtain⟨dm,-⟩:=hR.cell hmt;go_upto_region 20 with fail;refine hhc.out.mono ?_;rintro e w2 ⟨rfl,hb2⟩;have hbw2:=hbw.trans (hb2.mono hbw.size);replace kr:=kr.below hb2 kr.lt;replace hR:=hR.below hb2 hR.lt;have hgl:=hR.lt;clear dm dp fp c0 c1 hhc hb2 hbw;obtain⟨dm,-⟩:=hR.cell hmt;obtain⟨dp,fp⟩:=hR.cell hpt;cases b with
          |false=>
           have hR2:=hR.congr (F:=iD x E v k p (m+1)) fun y _=>hst.out rfl y;clear hst hht;go_wp2;go_roundw;case rel=>exact⟨m+1,by omega,by go_num,hR2,kr,hbw2⟩
           case measure=>simp[intOf];omega
          |true=>
           rw[Bool.true_and]at hst hht;by_cases hq:iD x E v k p m m=k
           ·have hqb:((iD x E v k p m m:Int)==(k:Int))=true:=(by simp[hq]);obtain⟨h1,h2⟩:=hht.out (decide_eq_true hq);have hR2:=hR.put (F:=iD x E v k p (m+1)) (u:= .int .i64 ((k:Int)+1)) hpt (by rw[h1];rfl) (fun y _ e=>h2 y e);have kr2:=kr.far (p:=⟨g,p,none⟩) (show w.heap.size≠g by omega) (.int .i64 ((k:Int)+1));have QW:=hbw2.setCell (p:=⟨g,p,none⟩) (show w.heap.size≤g by omega) (.int .i64 ((k:Int)+1));clear hst hht hq h1 h2;go_wp2;go_roundw;case rel=>exact⟨m+1,by omega,by go_num,hR2,kr2,QW⟩
            case measure=>simp[intOf];omega
           ·have hqb:((iD x E v k p m m:Int)==(k:Int))=false:=(by rw[beq_eq_false_iff_ne];omega);have hR2:=hR.congr (F:=iD x E v k p (m+1)) fun y _=>hst.out (decide_eq_false hq) y;clear hst hht hq;go_wp2;go_roundw;case rel=>exact⟨m+1,by omega,by go_num,hR2,kr,hbw2⟩
            case measure=>simp[intOf];omega
         ·have hzb:((iD x E v k p m p:Int)==0)=false:=(by rw[beq_eq_false_iff_ne];omega);have hR2:iZ Wm g cap x (uY x E v k (p+1)):=hR.congr fun y _=>(Gj (by omega) hpt hm (.inr hz)).symm;clear hz;go_wp2;go_roundw;case rel=>exact⟨p+1,by omega,by go_num,hR2,kr,hbw⟩
          case measure=>simp[intOf];omega
        ·obtain rfl:m=x:=(by omega);have hR2:iZ Wm g cap m (uY m E v k (p+1)):=hR.congr fun y _=>(Gj (by omega) hpt hm (.inl rfl)).symm;go_wp2;go_roundw;case rel=>exact⟨p+1,by omega,by go_num,hR2,kr,hbw⟩
         case measure=>simp[intOf];omega
      ·obtain rfl:p=x:=(by omega);have hR2:iZ Wp g cap p (bC p E v (k+1)):=hR.congr fun y hy=>(by unfold uY;rw[if_pos hy]);go_wp2;go_roundw;case rel=>exact⟨k+1,by omega,by omega,by go_num,hR2,kr,hbw⟩
       case measure=>simp[intOf];omega
    ·obtain rfl:k=x:=(by omega);have hR2:=hR.congr (F:=eG k E v) fun y _=>QU hn0 y;go_wp2;go_ret;exact⟨g,cap,rfl,by omega,hR2,hbw⟩
def uZ(n:Nat)(p:Nat→Bool)(m:Nat):Int:=match ((List.range n).drop m).find? p with
 |some y=>(y:Int)
 |none=> -1
theorem PX(n:Nat)(p:Nat→Bool):uZ n p n= -1:=by
 unfold uZ;rw[List.drop_eq_nil_of_le (by simp)];rfl
theorem MU{n m:Nat}{p:Nat→Bool}(h:m<n):uZ n p m=if p m=true then(m:Int)else uZ n p (m+1):=by
 unfold uZ;rw[List.drop_eq_getElem_cons (by simpa using h),List.find?_cons];simp only[List.getElem_range];cases p m<;>rfl
theorem MV{n:Nat}{p:Nat→Bool}{y:Nat}(h:(List.range n).find? p=some y):uZ n p 0=(y:Int):=by
 unfold uZ;rw[List.drop_zero,h]
def vg(n:Nat)(E:aj)(v:Nat)(pre:List Nat)(y j:Nat):Prop:=y<n∧j≤64∧pre.length+j≤64∧bX n E v y=j+1∧fZ n E=pre++oz n E (bX n E v) y j
theorem vg.start{n:Nat}{E:aj}{v:Nat}(hn:n≤64)(hv:v<n)(h:∀u,u<v→eG n E u u=0)(h1:eG n E v v≠0):vg n E v [v] v (eG n E v v-1)∧1≤eG n E v v:=by
 have e:eG n E v v=bX n E v v:=(by unfold eG;rw[if_pos hv]);have h2:bX n E v v≤n:=mF hv;have hf:=Fp hv h h1;rw[e]at h1⊢;exact⟨⟨hv,by omega,by simp;omega,by omega,hf⟩,by omega⟩
theorem vg.next{n:Nat}{E:aj}{v:Nat}{pre:List Nat}{y j:Nat}(h:vg n E v pre y (j+1)):∃z:Nat,uZ n (fun z=>E y z&&decide (bX n E v z=j+1)) 0=(z:Int)∧vg n E v (pre++[z]) z j:=by
 obtain⟨h1,h2,h3,h4,h5⟩:=h;obtain⟨z,g1,g2,g3,g4⟩:=rW h4;refine⟨z,MV g1,g2,by omega,by simp;omega,g4,?_⟩;rw[h5,rX g1,List.append_assoc];rfl
theorem vg.done{n:Nat}{E:aj}{v:Nat}{pre:List Nat}{y:Nat}(h:vg n E v pre y 0):fZ n E=pre:=by
 obtain⟨h1,h2,h3,h4,h5⟩:=h;rw[h5];simp[oz]
set_option maxRecDepth 100000 in
theorem xR(n:Nat)(A:Option Addr)(c:Nat)(E:aj)(K:Nat→Prop)(w:World)(h:GrS w K n A c E)(hK:∀b,K b→b<w.heap.size):
 Calls Tryz.prog 29 #[.agg #[.int .i64 n,.slice A n c]] w (AO w (au (fZ n E))):=by
 obtain⟨ii,hii,hi1,hi2,hi3⟩:=info_parts gU;have dK:=h.n64;obtain⟨W,hW⟩:∃W,w.alloc (.cells #[.int .i64 n,.slice A n c] 89)=W:=⟨_,rfl⟩;have hB:=ah (Below.refl w.heap.size w) hW (Nat.le_refl _);have kG:=Blk.newEq hW;have hsz:=hB.size;have hsz1:=aB hW;have hgr:Hid (∀W',Below w.heap.size w W'→GrS W' K n A c E∧∀b,K b→b<W'.heap.size):=hide (fun W' hb=>⟨h.keep (Agree.below hb hK) (fun b h=>h),fun b h=>Nat.lt_of_lt_of_le (hK b h) hb.size⟩);have hno:=hide (Fj (n:=n) (E:=E));have c0:=Blk.n0 kG;have c1:=Blk.n1 kG;clear h;go_enter Tryz.func29,Tryz.ntmps29;go_wp2_with fail;try rw[hW]
 clear hW;refine(um n A c E K W (hgr.out W hB).1 (hgr.out W hB).2).mono ?_;rintro e w1 ⟨rfl,hb1⟩;replace kG:=kG.below hb1 kG.lt;replace hB:=hB.trans (hb1.mono hsz);clear hb1 c0 c1;go_upto_region 5 with fail;go_loopw [4] (fun s4 wr=>∃v:Nat,v≤n∧s4= .int .i64 v∧Hid (∀u,u<v→eG n E u u=0)∧Blk wr w.heap.size 89 #[.int .i64 n,.slice A n c]∧Below w.heap.size w wr) (fun s4 _=>n-(intOf s4).toNat);case atStart=>exact⟨0,Nat.zero_le _,by go_num,hide (fun u hu=>absurd hu (Nat.not_lt_zero u)),kG,hB⟩
 case round=>
  clear kG hB;obtain⟨v,hv,rfl,hall,kr,hbw⟩:=hrel;obtain⟨Wv,rfl⟩:∃Wv,Wv=wr:=⟨_,rfl⟩;have hv0:(0:Int)≤(v:Int):=Int.natCast_nonneg _;have c0:=Blk.n0 kr;have c1:=Blk.n1 kr;by_cases hvt:v<n
  ·have hv1:(v:Int)<(n:Int):=(by omega);have hfr:=hide (Jv n A c E v K Wv (hgr.out Wv hbw).1 (hgr.out Wv hbw).2 hvt);go_wp2_with fail;refine hfr.out.mono ?_;rintro e w2 ⟨g,cap,rfl,hg,hR,hb2⟩;have hbw2:=hbw.trans (hb2.mono hbw.size);replace kr:=kr.below hb2 kr.lt;have hgl:=hR.lt;have hsv:=hbw.size;obtain⟨d0,-⟩:=hR.cell hvt;clear hfr hbw hb2 c0 c1;by_cases hz:eG n E v v=0
   ·have hzb:((eG n E v v:Int)==0)=true:=(by simp[hz]);have bK:Hid (∀u,u<v+1→eG n E u u=0):=hide (fun u hu=>by
     rcases Nat.lt_or_ge u v with q|q
     ·exact hall.out u q
     ·obtain rfl:u=v:=(by omega);exact hz)
    clear hall hz;go_wp2;go_roundw;case rel=>exact⟨v+1,by omega,by go_num,bK,kr,hbw2⟩
    case measure=>simp[intOf];omega
   ·have hzb:((eG n E v v:Int)==0)=false:=(by rw[beq_eq_false_iff_ne];omega);obtain⟨hst,h1⟩:=vg.start dK hvt hall.out hz;have hRE:iZ w2 g cap n (bX n E v):=hR.congr fun y hy=>(by unfold eG;rw[if_pos hy]);replace hst:=hide hst;clear hall hz;obtain⟨Wz,hWz⟩:∃Wz,w2.alloc (.cells #[.int .i64 (v:Int)] 3)=Wz:=⟨_,rfl⟩;have kz:=Blk.newEq hWz;have hbz:=(ah (Below.refl w2.heap.size w2) hWz (Nat.le_refl _));have hs2:=hbw2.size;have ho0:bA Wz w2.heap.size (.slice (some ⟨w2.heap.size,0,none⟩) 1 1) (au [v]):=JW kz (Nat.le_refl _);replace kr:=kr.below hbz kr.lt;have hR2:=hRE.below hbz hgl;have QW:=hbw2.trans (hbz.mono hs2);have d1:=((hR.below hbz hgl).cell hvt).1;clear hR;have hdv:((eG n E v v:Int)-1)=((eG n E v v-1:Nat):Int):=(by omega);go_wp2_with fail;try rw[hWz]
    go_loopw [6,7,8] (fun s6 s7 s8 wr=>∃(pre:List Nat) (y j:Nat),s7= .int .i64 y∧s8= .int .i64 j∧Hid (vg n E v pre y j)∧bA wr w2.heap.size s6 (au pre)∧iZ wr g cap n (bX n E v)∧Blk wr w.heap.size 89 #[.int .i64 n,.slice A n c]∧Below w.heap.size w wr∧Below w2.heap.size w2 wr) (fun _ _ s8 _=>(intOf s8).toNat);case atStart=>exact⟨[v],v,eG n E v v-1,by go_num,congrArg _ (Go.IntWalk.wrap64_in _ (by have:=hst.out.2.1;omega)),hst,ho0,hR2,kr,QW,hbz⟩
    case round=>
     clear ho0 hR2 kr QW hbz hst d1 d0 kz hWz;obtain⟨pre,y,j,rfl,rfl,hF,hown,hR,kr,hbw,hbz⟩:=hrel;obtain⟨Wy,rfl⟩:∃Wy,Wy=wr:=⟨_,rfl⟩;have hj0:(0:Int)≤(j:Int):=Int.natCast_nonneg _;have hlen:=aR pre;obtain⟨Ao,co,rfl⟩:=bA.form hown;rw[hlen]at hown⊢;have c0:=Blk.n0 kr;have c1:=Blk.n1 kr;cases j with
     |zero=>
      have hfd:=hide hF.out.done;clear hF;have hos:Hid (bA Wy w.heap.size (.slice Ao pre.length co) (au pre)):=hide (own_base' hown (by omega));go_wp2;exact bodyPost_ret (v:= .slice Ao pre.length co) (by simp[results,Tryz.results29,go_sem]) rfl ⟨_,rfl,by rw[hfd.out];exact hos.out,hbw⟩
     |succ i=>
      obtain⟨z,hz1,hF2⟩:=hF.out.next;have hyn:=hF.out.1;have hpl:=hF.out.2.2.1;have hj2:((i+1:Nat):Int)=(i:Int)+1:=(by omega);rw[hj2];replace hF2:=hide hF2;replace hz1:=hide hz1;clear hF;have hpm:pre.length+1≤maxLen:=(by unfold maxLen;omega);have hpb:(pre.length+1)*8≤140737488355328:=(by omega);have hend:=hide (PX n (fun z=>E y z&&decide (bX n E v z=i+1)));go_wp2_with fail;go_loopw [9,10] (fun s9 s10 wr=>∃m:Nat,m≤n∧s10= .int .i64 ((m:Int)-1)∧s9= .int .i64 (uZ n (fun z=>E y z&&decide (bX n E v z=i+1)) m)∧bA wr w2.heap.size (.slice Ao pre.length co) (au pre)∧iZ wr g cap n (bX n E v)∧Blk wr w.heap.size 89 #[.int .i64 n,.slice A n c]∧Below w.heap.size w wr∧Below w2.heap.size w2 wr) (fun _ s10 _=>((intOf s10)+1).toNat);case atStart=>exact⟨n,Nat.le_refl _,by go_num,by rw[hend.out],hown,hR,kr,hbw,hbz⟩
      case round=>
       clear hown hR kr hbw hbz c0 c1;obtain⟨m,hm,rfl,rfl,hown,hR,kr,hbw,hbz⟩:=hrel;obtain⟨Wm,rfl⟩:∃Wm,Wm=wr:=⟨_,rfl⟩;have c0:=Blk.n0 kr;have c1:=Blk.n1 kr;cases m with
       |zero=>
        rw[hz1.out];have hown2:=hide hown;have hit:Hid (au pre++[(z:Int)]=au (pre++[z])):=hide (by unfold au;simp);have ug:=hide hlen;generalize au pre=D at*;have hsw:w2.heap.size≤Wm.heap.size:=hbz.size;have TV:g<w2.heap.size:=hgl;have hlo:=hide (fun b hb=>(World.ownsRow.lt hown b hb).1);clear hlen c0 c1 hown;go_wp2_with (at_builtin;go_loud (refine aN (enc:=Go.Inq.encI) rfl (.tmp 64) (.tmp 66) 35 rfl w2.heap.size 3 ii _ 1 8 Tryz.underlying35 hii hi1 hi2 hi3 rfl (by decide) (.slice Ao pre.length co) D rfl hown2.out (fun _=>rfl) (z:Int) _ rfl rfl Go.Inq.fD (by rw[ug.out];exact hpm) (by rw[ug.out];exact hpb) hsw w2 w2.heap.size (Nat.le_refl _) hbz ?_);intro v1 w6 hown1 hg1 UZ jN);have hno:∀q,q<w2.heap.size→some q≠(Value.slice Ao pre.length co).ownBlock:=fun q hq e=>(by have:=hlo.out q e.symm;omega);have kr2:=(kr.alloc (.cells #[.int .i64 (z:Int)] 3)).grown hg1 (hno _ (by omega));have hR2:iZ w6 g cap n (bX n E v):=by
         obtain⟨cur,q1,q2⟩:=hR;exact⟨cur,(q1.alloc (.cells #[.int .i64 (z:Int)] 3)).grown hg1 (hno _ TV),q2⟩
        have WR:Below w.heap.size w w6:=hbw2.trans (UZ.mono hs2);go_roundw;case rel=>exact⟨pre++[z],z,i,rfl,by go_num,hF2,by rw[←hit.out];exact hown1,hR2,kr2,WR,UZ⟩
        case measure=>simp[intOf]<;>omega
       |succ x=>
        have hx2:(((x+1:Nat):Int)-1)=(x:Int):=(by omega);rw[hx2];have hx0:(0:Int)≤(x:Int):=Int.natCast_nonneg _;have hx1:(x:Int)<(n:Int):=(by omega);have hxn:x<n:=(by omega);have hnx:=hide (MU (p:=fun z=>E y z&&decide (bX n E v z=i+1)) hxn);have hhc:=hide (gM n A c E y x K Wm (hgr.out Wm hbw).1 (hgr.out Wm hbw).2 hyn hxn);obtain⟨b,hb⟩:∃b,E y x=b:=⟨_,rfl⟩;rw[hb]at hhc hnx;go_wp2_with fail;refine hhc.out.mono ?_;rintro e w5 ⟨rfl,hb5⟩;have Tk:=hbw.trans (hb5.mono hbw.size);have Tm:=hbz.trans (hb5.mono hbz.size);replace kr:=kr.below hb5 kr.lt;replace hR:=hR.below hb5 hR.lt;have hown5:=own_below hown hb5 (Nat.le_refl _);obtain⟨dx,-⟩:=hR.cell hxn;clear hhc hown hbw hbz hb5 c0 c1;cases b with
        |false=>
         have hn2:Hid (uZ n (fun z=>E y z&&decide (bX n E v z=i+1)) (x+1)=uZ n (fun z=>E y z&&decide (bX n E v z=i+1)) x):=hide (by rw[hnx.out];rfl);rw[hn2.out];clear hnx;go_wp2;go_roundw;case rel=>exact⟨x,by omega,by go_num,rfl,hown5,hR,kr,Tk,Tm⟩
         case measure=>simp[intOf]<;>omega
        |true=>
         rw[Bool.true_and]at hnx;by_cases hq:bX n E v x=i+1
         ·have hqb:((bX n E v x:Int)==(i:Int)+1)=true:=(by rw[beq_iff_eq];omega);have hn2:Hid ((x:Int)=uZ n (fun z=>E y z&&decide (bX n E v z=i+1)) x):=hide (by rw[hnx.out,if_pos (decide_eq_true hq)]);clear hnx hq;go_wp2;go_roundw;case rel=>exact⟨x,by omega,by go_num,by rw[←hn2.out],hown5,hR,kr,Tk,Tm⟩
          case measure=>simp[intOf]<;>omega
         ·have hqb:((bX n E v x:Int)==(i:Int)+1)=false:=(by rw[beq_eq_false_iff_ne];omega);have hn2:Hid (uZ n (fun z=>E y z&&decide (bX n E v z=i+1)) (x+1)=uZ n (fun z=>E y z&&decide (bX n E v z=i+1)) x):=hide (by rw[hnx.out,if_neg (by simp[hq])]);rw[hn2.out];clear hnx hq;go_wp2;go_roundw;case rel=>exact⟨x,by omega,by go_num,rfl,hown5,hR,kr,Tk,Tm⟩
          case measure=>simp[intOf]<;>omega
  ·obtain rfl:v=n:=(by omega);have hnl:=hide (hno.out fun u hu=>hall.out u hu);go_wp2;exact bodyPost_ret (v:= .slice none 0 0) (by simp[results,Tryz.results29,go_sem]) rfl ⟨_,rfl,by rw[hnl.out];exact bA.nil _ _,hbw⟩
set_option maxHeartbeats 2000000
end Go.Proofs.YtpjechjoijjhpaaGreatDoor
