/-
  Walks: WidenProves.
-/
import Derived.Test.YtfhnamomiaekdaaGreatDoorP24
import Derived.Test.YtfhnamomiaekdaaGreatDoorP11
import Derived.Test.YtfhnamomiaekdaaGreatDoorP25
import Derived.Test.YtfhnamomiaekdaaGreatDoorP42
import Derived.Test.YtfhnamomiaekdaaGreatDoorP21
import Derived.Test.YtfhnamomiaekdaaGreatDoorP41
set_option linter.unusedVariables false
set_option linter.unusedSimpArgs false
namespace Go.Proofs.YtfhnamomiaekdaaGreatDoor
open Go.RowKit Go.Inq
set_option maxHeartbeats 16000000
attribute [local go_sem↓] Go.wp_at_zero Go.wp_at_succ
theorem KO{H:List Txn}{π:List Int}(hp:π.length≤1000000):KF (fE H π):=by
 unfold fE;split
 ·next h=>
  have:=jI h.1;refine⟨by rw[List.length_map];omega,fun r hr=> ?_⟩;obtain⟨k,hk,rfl⟩:=List.mem_map.1 hr;exact Nat.le_trans (List.length_filter_le _ _) hp
 ·exact⟨by simp,fun r hr=>by cases hr⟩
theorem IG{H:List Txn}{level:Int}{π:List Int}(hr:ay H=true)(h:Kk H level π=true):Ck H level true (if level=0 then π else[]) (if level=0 then[]else fE H π) []=true:=by
 unfold Kk at h;unfold Ck;rw[if_pos rfl];by_cases h0:level=0
 ·rw[if_pos h0]at h⊢;rw[if_pos h0,if_pos h0];unfold rP;rw[hr,h];rfl
 ·rw[if_neg h0]at h⊢;rw[if_neg h0,if_neg h0];by_cases h1:level=1
  ·rw[if_pos h1]at h⊢;rw[h];rfl
  ·rw[if_neg h1]at h;cases h
set_option maxRecDepth 100000 in
theorem tH(A:Option Addr)(c:Nat)(H:List Txn)(level:Int)(v:Value)(s:Wd)(w:World)(h:aA w (Old w) (.slice A H.length c) H)(hn:H.length≤maxLen)(hns:∀t∈H,t.writes.length≤maxLen∧t.reads.length≤maxLen)(hv:WdS w (Old w) v s)(hTB:jB w):
 Calls Tryz.prog 6 #[.agg #[.slice A H.length c],.int .i64 level,v] w fun e w'=>e= .returned (.bool true)∧Below w.heap.size w w':=by
 obtain⟨Ap,cp,Al,cl,rfl,hP,hL⟩:=hv.form;obtain⟨W0,hW0⟩:∃W0,(w.alloc (.cells #[.slice A H.length c] 24)).alloc (.cells #[.int .i64 s.width,.bool s.cut,.slice Ap s.path.length cp,.slice Al s.left.length cl] 84)=W0:=⟨_,rfl⟩;have hb:=aN hW0;have k0:=Blk.jg hW0;have k1:=Blk.iB hW0;have s0:=size_two hW0;have hT0:=hide (h.below hb);have hv0:=hide (hv.below hb);have hB0:=hTB.below hb;replace hns:=hide hns;clear h hv hP hL;go_enter Tryz.func6,Tryz.ntmps6;go_wp2_with fail;clear hW0;refine(Bq W0 hB0).mono ?_;rintro e w1 ⟨rfl,hb1⟩;replace hb:=hb.trans (hb1.mono hb.size);have hT1:=hT0.out.below hb1;have hv1:=hv0.out.below hb1;have hB1:=hB0.below hb1;replace k0:=k0.below hb1 k0.lt;replace k1:=k1.below hb1 k1.lt;have hs1:=hb1.size;clear hT0 hv0 hb1 hB0;have hfc:=hide (GZ 16 A c H w1 hT1 hn hns.out);have c0:=Blk.n0 k0;go_wp2_with fail;clear c0;refine hfc.out.mono ?_;rintro e w2 ⟨rfl,hb2⟩;replace hb:=hb.trans (hb2.mono hb.size);have hT2:=hT1.below hb2;have hv2:=hv1.below hb2;have hB2:=hB1.below hb2;replace k0:=k0.below hb2 k0.lt;replace k1:=k1.below hb2 k1.lt;have hs2:=hb2.size;clear hT1 hv1 hb2 hfc hB1;have hfs:=hide (DW _ s w2 hv2);have q0:=Blk.n0 k1;have q1:=Blk.n1 k1;have q2:=Blk.n2 k1;have q3:=Blk.n3 k1;go_wp2_with fail;clear q0 q1 q2 q3;refine hfs.out.mono ?_;rintro e w3 ⟨rfl,hb3⟩;replace hb:=hb.trans (hb3.mono hb.size);have hT3:=hT2.below hb3;have hv3:=hv2.below hb3;have hB3:=hB2.below hb3;replace k0:=k0.below hb3 k0.lt;replace k1:=k1.below hb3 k1.lt;have hs3:=hb3.size;clear hT2 hv2 hb3 hfs hB2;cases hf:sU 16 H with
 |false=>
  go_wp2;go_ret;exact⟨rfl,hb⟩
 |true=>
  cases hg:DV s with
  |false=>
   go_wp2;go_ret;exact⟨rfl,hb⟩
  |true=>
   have hsm:=hide (DT (by omega) hf);have RA:=JW hf;obtain⟨hF,hS,RB,P7,OY⟩:=u7 hg;have hF2:=G8 (level:=level) hg (show H.length≤40 by omega);replace hf:=hide hf;replace hg:=hide hg;replace hF:=hide hF;replace hS:=hide hS;replace hF2:=hide hF2;replace OY:=hide OY;have hll:s.left.length≤900000:=(by omega);have hT4:=hT3;have hst:=hide (uX A c H level (.agg #[.int .i64 s.width,.bool s.cut,.slice Ap s.path.length cp,.slice Al s.left.length cl]) s (Old w3) w3 (fun b hb=>hb) hT3 hsm.out hv3 hS.out hB3);have hok:=hide (fun e=>step_ok (level:=level) ((tL H s).1 e));have hsd:=hide (fun e=>Hy (level:=level) ((tL H s).1 e));have hbad:Hid (cZ H s=false→stepW H level s=(s,3,[])):=hide fun e=>(by unfold stepW;rw[if_pos (.inl e)]);have c0:=Blk.n0 k0;have q0:=Blk.n0 k1;have q1:=Blk.n1 k1;have q2:=Blk.n2 k1;have q3:=Blk.n3 k1;generalize stepW H level s=r at*;obtain⟨s',said,ord⟩:=r;clear hT4;go_wp2_with fail;clear c0 q0 q1 q2 q3;refine hst.out.mono ?_;rintro e w5 ⟨v5,vo,rfl,hvt,hvo,hb5⟩;obtain⟨Ap',cp',Al',cl',rfl,-,-⟩:=hvt.form;obtain⟨Ar,cr,rfl⟩:=aB.form hvo;dsimp only at*;go_upto_region 9 with fail;obtain⟨X,hX⟩:∃X,(w5.alloc (.cells #[.int .i64 s'.width,.bool s'.cut,.slice Ap' s'.path.length cp',.slice Al' s'.left.length cl'] 84)).alloc (.cells #[.int .i64 said,.slice Ar ord.length cr,.slice none 0 0,.slice none 0 0] 36)=X:=⟨_,rfl⟩;rw[hX];have hba:=aN hX;have k3:=Blk.jg hX;have k4:=Blk.iB hX;have hs5:=hb5.size;have hbx:=hb5.trans (hba.mono hs5);have wt:=hide (hvt.keep (w':=X) (K':=Old X) (Agree.below hba fun b hb=>hb.2) (fun b hb=>Nat.lt_of_lt_of_le hb.2 hba.size));have wo:=hide (hvo.keep (w':=X) (K':=Old X) (Agree.below hba fun b hb=>hb.2) (fun b hb=>Nat.lt_of_lt_of_le hb.2 hba.size));have wT:=hide (hT3.below hbx);have ws:=hide (hv3.below hbx);replace k0:=k0.below hbx k0.lt;replace k1:=k1.below hbx k1.lt;replace hb:=hb.trans (hbx.mono hb.size);clear hX hba hbx hb5 hT3 hv3 hvt hvo hst hB3;generalize w5.heap.size=p5 at*;obtain⟨EN,II⟩:=hF2.out;have hS2:lq s':=⟨by have:=EN.1;omega,by have:=EN.2.1;omega,fun l hl=>by have:=EN.2.2 l hl;omega⟩;replace EN:=hide EN;replace II:=hide II;replace hS2:=hide hS2;clear hF2;have c0:=Blk.n0 k0;have q0:=Blk.n0 k1;have q1:=Blk.n1 k1;have q2:=Blk.n2 k1;have q3:=Blk.n3 k1;go_wp2_with fail;clear c0 q0 q1 q2 q3;refine(jJ A c H _ s X wT.out hsm.out ws.out hS.out).mono ?_;rintro e X1 ⟨rfl,hb6⟩;have hb7:=hb.trans (hb6.mono hb.size);cases hr:cZ H s with
   |false=>
    have hq:=hbad.out hr;simp only[Prod.mk.injEq]at hq;obtain⟨rfl,rfl,rfl⟩:=hq;clear hbad hok hsd hr;have a0:=hide (fun W (hW:Below X.heap.size X W)=>(hW.cell (p:=⟨p5,0,none⟩) k3.lt).trans (k3.cell 0));have a1:=hide (fun W (hW:Below X.heap.size X W)=>(hW.cell (p:=⟨p5,1,none⟩) k3.lt).trans (k3.cell 1));have a2:=hide (fun W (hW:Below X.heap.size X W)=>(hW.cell (p:=⟨p5,2,none⟩) k3.lt).trans (k3.cell 2));have a3:=hide (fun W (hW:Below X.heap.size X W)=>(hW.cell (p:=⟨p5,3,none⟩) k3.lt).trans (k3.cell 3));have b0:=hide (fun W (hW:Below X.heap.size X W)=>(hW.cell (p:=⟨w.heap.size+1,0,none⟩) k1.lt).trans (k1.cell 0));have b1:=hide (fun W (hW:Below X.heap.size X W)=>(hW.cell (p:=⟨w.heap.size+1,1,none⟩) k1.lt).trans (k1.cell 1));have b2:=hide (fun W (hW:Below X.heap.size X W)=>(hW.cell (p:=⟨w.heap.size+1,2,none⟩) k1.lt).trans (k1.cell 2));have b3:=hide (fun W (hW:Below X.heap.size X W)=>(hW.cell (p:=⟨w.heap.size+1,3,none⟩) k1.lt).trans (k1.cell 3));have v0:=hide (fun W (hW:Below X.heap.size X W)=>(hW.cell (p:=⟨p5+1,0,none⟩) k4.lt).trans (k4.cell 0));simp only[gA,gZ,gS]at a0 a1 a2 a3 b0 b1 b2 b3 v0;have lift:=hide (fun W (hW:Below X.heap.size X W)=>Agree.below (K:=Old X) hW (fun b hb=>hb));have lsz:=hide (fun W (hW:Below X.heap.size X W) (b:Nat) (hb:Old X b)=>(Nat.lt_of_lt_of_le hb hW.size:b<W.heap.size));clear k0 k1 k3 k4 wo wT hS2 II;go_upto_region 10 with fail;refine bK (fun W=>Below X.heap.size X W) (by kernel_rfl) (by kernel_rfl) hb6.drew ?_;refine⟨.pointer (some ⟨p5+1,0,none⟩),fun W hW=>(by go_wp2),?_⟩;refine⟨.int .i64 3,fun W hW=>(by have v0:=v0.out W hW;go_wp2),?_⟩;refine⟨.bool true,fun W hW=>(by go_wp2),?_⟩;refine⟨.bool true,fun W hW=>(by go_wp2),?_⟩;refine⟨.agg #[.int .i64 s'.width,.bool s'.cut,.slice Ap' s'.path.length cp',.slice Al' s'.left.length cl'],fun W hW=>(by have v0:=a0.out W hW;have v1:=a1.out W hW;have v2:=a2.out W hW;have v3:=a3.out W hW;go_wp2),?_⟩;refine⟨.agg #[.int .i64 s'.width,.bool s'.cut,.slice Ap' s'.path.length cp',.slice Al' s'.left.length cl'],fun W hW=>(by
     go_wp2_with fail;refine(rY _ s' (Old W) W (wt.out.keep (lift.out W hW) (lsz.out W hW))).mono ?_;rintro e' w' ⟨rfl,hb'⟩;replace hW:=hW.trans (hb'.mono hW.size);go_wp2),?_⟩
    refine⟨.agg #[.int .i64 s'.width,.bool s'.cut,.slice Ap s'.path.length cp,.slice Al s'.left.length cl],fun W hW=>(by have v0:=b0.out W hW;have v1:=b1.out W hW;have v2:=b2.out W hW;have v3:=b3.out W hW;go_wp2),?_⟩;refine⟨.agg #[.int .i64 s'.width,.bool s'.cut,.slice Ap s'.path.length cp,.slice Al s'.left.length cl],fun W hW=>(by
     go_wp2_with fail;refine(rY _ s' (Old W) W (ws.out.keep (lift.out W hW) (lsz.out W hW))).mono ?_;rintro e' w' ⟨rfl,hb'⟩;replace hW:=hW.trans (hb'.mono hW.size);go_wp2),?_⟩
    refine⟨.bool true,fun W hW=>(by
     go_wp2_with fail;refine(DU s' s' _ _ W (wt.out.keep (lift.out W hW) (lsz.out W hW)) (ws.out.keep (lift.out W hW) (lsz.out W hW)) EN.out EN.out).mono ?_;rintro e' w' ⟨he,hb'⟩;replace he:e'= .returned (.bool true):=(by rw[he];simp);subst he;replace hW:=hW.trans (hb'.mono hW.size);go_wp2),?_⟩
    refine⟨.bool true,fun W hW=>(by go_wp2),?_⟩;refine⟨.bool true,fun W hW=>(by go_wp2),?_⟩;intro W5 hW5;simp only[Act.put,sA,sZ,sS];have hbF:=hb.trans (hW5.mono hb.size);clear hb hW5;go_wp2;go_ret;exact⟨rfl,hbF⟩
   |true=>
    have hrs:=(tL H s').2 (hok.out hr);have hsaid:=hide (hsd.out hr);have hrH:=((tL H s).1 hr).h;clear hbad hok hsd hr;have wt1:=wt.out.below hb6;have wT1:=wT.out.below hb6;have wo1:=aB.keep wo.out (Agree.below hb6 fun b hb=>hb) (fun b hb=>Nat.lt_of_lt_of_le hb hb6.size);replace wo1:=hide wo1;replace k0:=k0.below hb6 k0.lt;replace k3:=k3.below hb6 k3.lt;replace k4:=k4.below hb6 k4.lt;clear wt wo wT ws k1 hb6 hb;have hrr:=hide (jJ A c H _ s' X1 wT1 hsm.out wt1 hS2.out);rw[hrs]at hrr;replace hrs:=hide hrs;replace wT1:=hide wT1;have c0:=Blk.n0 k0;have q0:=Blk.n0 k3;have q1:=Blk.n1 k3;have q2:=Blk.n2 k3;have q3:=Blk.n3 k3;go_wp2_with fail;clear c0 q0 q1 q2 q3;refine hrr.out.mono ?_;rintro e X2 ⟨rfl,hb8⟩;have hb9:=hb7.trans (hb8.mono hb7.size);have wT2:=hide (wT1.out.below hb8);have wo2:=hide (aB.keep wo1.out (Agree.below hb8 fun b hb=>hb) (fun b hb=>(Nat.lt_of_lt_of_le hb hb8.size:b<X2.heap.size)));replace k0:=k0.below hb8 k0.lt;replace k4:=k4.below hb8 k4.lt;clear wT1 wo1 wt1 k3 hrr hb8 hb7;have o0:=Blk.n0 k4;have o1:=Blk.n1 k4;have o2:=Blk.n2 k4;have o3:=Blk.n3 k4;have c0:=Blk.n0 k0;rcases hsaid.out with⟨hs1,hy⟩|⟨hs1,hs2⟩
    ·subst hs1;have hcy:=hide (IG hrH hy);clear hsaid hy;go_upto_region 14 with fail;have hch:=hide (fun W (hW:Below X2.heap.size X2 W)=>(hW.cell (p:=⟨w.heap.size,0,none⟩) k0.lt).trans c0);have hco:=hide (fun W (hW:Below X2.heap.size X2 W)=>(hW.cell (p:=⟨p5+1,1,none⟩) k4.lt).trans o1);have Qw:=hide (fun W (hW:Below X2.heap.size X2 W)=>IE A c H level Ar cr ord W (wT2.out.below hW) hsm.out (aB.below wo2.out hW) II.out);have hOl:Hid ((if level=0 then ord else[]).length≤1000000):=hide (by split;exact II.out;exact Nat.zero_le _);have hRl:Hid (KF (if level=0 then[]else fE H ord)):=hide (by split;exact⟨Nat.zero_le _,by simp⟩;exact KO II.out);generalize(if level=0 then ord else[])=O1 at*;generalize(if level=0 then[]else fE H ord)=R1 at*;have Qx:=hide (fun W (hW:Below X2.heap.size X2 W) Ao co Aq cq At ct g1 g2 g3=>(by
      have:=Iu A c H level true Ao co O1 Aq cq R1 At ct [] W (wT2.out.below hW) hsm.out g1 hOl.out g2 hRl.out g3 (Nat.zero_le _) (by intro n hn;cases hn);rw[hcy.out]at this;exact this:
      Calls Tryz.prog 45 #[.agg #[.slice A H.length c],.agg #[.int .i64 level,.bool true,.slice Ao O1.length co,.slice Aq R1.length cq,.slice At 0 ct]] W fun e w'=>e= .returned (.bool true)∧Below W.heap.size W w'))
     clear o0 o1 o2 o3 c0 k0 k4 hcy;refine Cr (W0:=X2) [qV (.agg #[.slice A H.length c]),qV (.agg #[.slice A H.length c]),qV (.int .i64 level),qV (.pointer (some ⟨p5+1,1,none⟩)),qV (.slice Ar ord.length cr),Mc level true O1 R1 [],qV (.bool true),qV (.bool true)] [0,0,0,0,8,30,63,127] [[],[],[],[],[3],[1,2,4],[0,5],[6]] (by kernel_rfl) (by kernel_rfl) (by kernel_rfl) (by simp) (Below.refl _ _) ?hstep ?hend;case hstep=>
      intro i o ho vs W hB hd
      match i,ho with
      |0,ho=>
       clear hd;simp only[gZ,gS,Option.some.injEq]at ho;subst ho;simp only[acV,gA,gZ,gS,Act.put,sA,sZ,sS];have v0:=hch.out W hB;go_wp2;exact⟨rfl,_,rfl,rfl,hB,Below.refl _ _⟩
      |1,ho=>
       clear hd;simp only[gZ,gS,Option.some.injEq]at ho;subst ho;simp only[acV,gA,gZ,gS,Act.put,sA,sZ,sS];have v0:=hch.out W hB;go_wp2;exact⟨rfl,_,rfl,rfl,hB,Below.refl _ _⟩
      |2,ho=>
       clear hd;simp only[gZ,gS,Option.some.injEq]at ho;subst ho;simp only[acV,gA,gZ,gS,Act.put,sA,sZ,sS];go_wp2;exact⟨rfl,_,rfl,rfl,hB,Below.refl _ _⟩
      |3,ho=>
       clear hd;simp only[gZ,gS,Option.some.injEq]at ho;subst ho;simp only[acV,gA,gZ,gS,Act.put,sA,sZ,sS];go_wp2;exact⟨rfl,_,rfl,rfl,hB,Below.refl _ _⟩
      |4,ho=>
       have e3:vs 3= .pointer (some ⟨p5+1,1,none⟩):=hd 3 (by simp);clear hd;simp only[gZ,gS,Option.some.injEq]at ho;subst ho;simp only[acV,gA,gZ,gS,Act.put,sA,sZ,sS];rw[e3];have v0:=hco.out W hB;go_wp2;exact⟨rfl,_,rfl,rfl,hB,Below.refl _ _⟩
      |5,ho=>
       have e1:vs 1= .agg #[.slice A H.length c]:=hd 1 (by simp);have e2:vs 2= .int .i64 level:=hd 2 (by simp);have e4:vs 4= .slice Ar ord.length cr:=hd 4 (by simp);clear hd;simp only[gZ,gS,Option.some.injEq]at ho;subst ho;simp only[acV,gA,gZ,gS,Act.put,sA,sZ,sS];rw[e1,e2,e4];go_wp2_with fail;refine(Qw.out W hB).mono ?_;rintro e W2 ⟨Ao,co,Aq,cq,At,ct,rfl,g1,g2,g3,b3⟩;replace g1:=hide g1;replace g2:=hide g2;replace g3:=hide g3;go_wp2;exact⟨rfl,_,rfl,⟨Ao,co,Aq,cq,At,ct,rfl,g1.out,g2.out,g3.out⟩,hB.trans (b3.mono hB.size),b3⟩
      |6,ho=>
       have e0:vs 0= .agg #[.slice A H.length c]:=hd 0 (by simp);have h5:(Mc level true O1 R1 []).p (vs 5) W:=hd 5 (by simp);clear hd;simp only[gZ,gS,Option.some.injEq]at ho;subst ho;simp only[acV,gA,gZ,gS,Act.put,sA,sZ,sS];rw[e0];obtain⟨Ao,co,Aq,cq,At,ct,e5,g1,g2,g3⟩:=h5;rw[e5];have hck:=hide (Qx.out W hB Ao co Aq cq At ct g1 g2 g3);clear g1 g2 g3;go_wp2_with fail;refine hck.out.mono ?_;rintro e W2 ⟨rfl,b3⟩;go_wp2;exact⟨rfl,_,rfl,rfl,hB.trans (b3.mono hB.size),b3⟩
      |7,ho=>
       have e6:vs 6= .bool true:=hd 6 (by simp);clear hd;simp only[gZ,gS,Option.some.injEq]at ho;subst ho;simp only[acV,gA,gZ,gS,Act.put,sA,sZ,sS];rw[e6];go_wp2;exact⟨rfl,_,rfl,rfl,hB,Below.refl _ _⟩
      |i+8,ho=>simp at ho
     case hend=>
      intro vs W hB hd;have e7:vs 7= .bool true:=hd 7 (by simp);have hbF:=hb9.trans (hB.mono hb9.size);clear hd;simp only[acV,gA,gZ,gS,Act.put,sA,sZ,sS,List.length_cons,List.length_nil,Nat.reduceAdd];rw[e7];go_wp2;go_ret;exact⟨rfl,hbF⟩
    ·subst hs1;have hz:(said==1)=false:=(by rcases hs2 with rfl|rfl<;>rfl);clear hsaid;rcases hs2 with rfl|rfl
     ·go_wp2;go_ret;exact⟨rfl,hb9⟩
     ·go_wp2;go_ret;exact⟨rfl,hb9⟩
end Go.Proofs.YtfhnamomiaekdaaGreatDoor
