/-
  Walks: SaturateTells.
-/
import Derived.Test.YtfhnamomiaekdaaGreatDoorY22
import Derived.Test.YtfhnamomiaekdaaGreatDoorY23
import Derived.Test.YtfhnamomiaekdaaGreatDoorY27
import Derived.Test.YtfhnamomiaekdaaGreatDoorY39
import Derived.Test.YtfhnamomiaekdaaGreatDoorY40
set_option linter.unusedVariables false
set_option linter.unusedSimpArgs false
namespace Go.Proofs.YtfhnamomiaekdaaGreatDoor
open Go.RowKit Go.Inq
set_option maxHeartbeats 16000000
attribute [local go_sem↓] Go.wp_at_zero Go.wp_at_succ
theorem dL.ty{n0:Nat}{σ:List TypeId}{W W':World}{v:Value}{o:Say}(h:dL 0 W v o)(hT:TyW n0 σ W W')(hσ:∀t∈dS,t∉σ):dL 0 W' v o:=
 h.keep (fun b hb=>by
  rcases hb.2 with h0|⟨t,cs,hk,ht⟩
  ·omega
  ·exact(hT.blk hk (hσ t ht)).trans hk.symm) hT.size
def wRS(x y:Int)(o:Say):Wrd:=⟨dS,fun u W=>∃v,u= .tuple #[.agg #[.int .i64 x,.int .i64 y],v]∧dL 0 W v o,fun _ _ _ _ _ h hT k=>by
 obtain⟨v,h1,h2⟩:=k;exact⟨v,h1,h2.ty hT h⟩⟩
def wSX(o:Say):Wrd:=⟨dS,fun u W=>dL 0 W u o,fun _ _ _ _ _ h hT k=>k.ty hT h⟩
def wSO(base:Nat)(o:Say):Wrd:=⟨42::dS,fun u W=>∃g Ao no co At nt ct Af nf cf,base≤g∧u= .pointer (some ⟨g,0,none⟩)∧Blk W g 42 #[.int .i64 o.said,.slice Ao no co,.slice At nt ct,.slice Af nf cf]∧dL 0 W (.agg #[.int .i64 o.said,.slice Ao no co,.slice At nt ct,.slice Af nf cf]) o,fun _ _ _ _ _ h hT k=>by
 obtain⟨g,Ao,no,co,At,nt,ct,Af,nf,cf,h1,h2,h3,h4⟩:=k;exact⟨g,Ao,no,co,At,nt,ct,Af,nf,cf,h1,h2,hT.blk h3 (h _ (by simp)),h4.ty hT fun t ht=>h t (List.mem_cons_of_mem _ ht)⟩⟩
def QM(o:Say):Wq:=⟨fun v W=>vT W v o,fun _ _ _ h hb=>h.below hb⟩
set_option maxRecDepth 100000 in
theorem tY(A:Option Addr)(c:Nat)(H:List Txn)(level x y:Int)(Al:Option Addr)(cl:Nat)(L:List Fct)(w:World)(h:aF w (Old w) (.slice A H.length c) H)(hn:H.length≤maxLen)(hns:∀t∈H,t.writes.length≤maxLen∧t.reads.length≤maxLen)(hL:bF w (Old w) (.slice Al L.length cl) L)(hL1:L.length≤maxLen)(hTB:iE w):
 Calls Tryz.prog 3 #[.agg #[.slice A H.length c,.int .i64 level,.int .i64 x,.int .i64 y,.slice Al L.length cl]] w fun e w'=>e= .returned (.bool true)∧Below w.heap.size w w':=by
 obtain⟨W0,hW0⟩:∃W0,w.alloc (.cells #[.slice A H.length c,.int .i64 level,.int .i64 x,.int .i64 y,.slice Al L.length cl] 29)=W0:=⟨_,rfl⟩;have hA:=ah (Below.refl w.heap.size w) hW0 (Nat.le_refl _);have kh:=Blk.newEq hW0;have hT0:=h.below hA;have hL0:=hL.below hA;replace hn:=hide hn;replace hns:=hide hns;replace h:=hide h;replace hL:=hide hL;replace hL1:=hide hL1;go_enter Tryz.func3,Tryz.ntmps3;go_wp2_with fail;clear hW0;refine(Dp W0 (hTB.below hA)).mono ?_;rintro e w1 ⟨rfl,hb1⟩;have hb:=hA.trans (hb1.mono hA.size);have hT1:=hT0.below hb1;have hL1':=hL0.below hb1;replace kh:=kh.below hb1 kh.lt;have q0:=Blk.n0 kh;have q1:=Blk.n1 kh;have q2:=Blk.n2 kh;have q3:=Blk.n3 kh;have q4:=Blk.n4 kh;clear hT0 hL0 hA hb1;go_wp2_with fail;refine(Ji A c H level x y Al cl L 6 w1 hT1 hn.out hns.out hL1' hL1.out).mono ?_;rintro e w2 ⟨rfl,hb2⟩;replace hb:=hb.trans (hb2.mono hb.size);have hT2:=hide (hT1.below hb2);have hL2:=hide (hL1'.below hb2);replace kh:=kh.below hb2 kh.lt;clear hT1 hL1' hb2 q0 q1 q2 q3 q4 hn hns hL1;cases hf:uI H L 6 with
 |false=>
  go_wp2;go_ret;exact⟨rfl,hb⟩
 |true=>
  have hfw:=uJ.1 hf;have hsm:=hide (Fx (by omega) hfw.hist);have hLl:=hfw.facts;have hFF:=hide (show uw L from⟨by omega,fun f hf=>by have:=hfw.O1 f hf;omega⟩);clear hf hfw;have hbw2:=hb;obtain⟨Wr,hWr⟩:∃Wr,w2.alloc (.cells #[.int .i64 x,.int .i64 y] 32)=Wr:=⟨_,rfl⟩;have hbr:=ah (Below.refl w2.heap.size w2) hWr (Nat.le_refl _);have kr:=Blk.newEq hWr;have hb3:=hb.trans (hbr.mono hb.size);have hTr:=hide (hT2.out.below hbr);have hLr:=hide (hL2.out.below hbr);have q0:=Blk.n0 kh;have q1:=Blk.n1 kh;have q2:=Blk.n2 kh;have q3:=Blk.n3 kh;have q4:=Blk.n4 kh;replace kh:=kh.below hbr kh.lt;replace hWr:=hide hWr;go_upto_region 8 with fail;try rw[hWr.out]
  clear hWr q0 q1 q2 q3 q4;generalize w2.heap.size=gr at*;have hst:=hide (nD A c H level x y Al cl L Wr hTr.out hsm.out hLr.out hFF.out (hTB.below hb3));have hrs:=hide (fun W (hW:Below w.heap.size w W) A' c' (hF':bF W (Old W) (.slice A' L.length c') L)=>D5 A c H level x y A' c' L W (h.out.below hW) hsm.out hF' hFF.out (by omega) 0 (Nat.zero_le _));have hfT:=hide (FM (H:=H) (level:=level) (a:=x) (i:=y) (L:=L));have hfF:=hide (zS (H:=H) (level:=level) (a:=x) (i:=y) (L:=L));have hLm:Hid (L.length≤1000000):=hide (by omega);have q0:=Blk.n0 kh;have q1:=Blk.n1 kh;have q2:=Blk.n2 kh;have q3:=Blk.n3 kh;have q4:=Blk.n4 kh;generalize dR H level x y L=r at*;obtain⟨⟨x2,y2⟩,o⟩:=r;obtain⟨said,order,T,F⟩:=o;dsimp only at*;go_wp2_with fail;clear q0 q1 q2 q3 q4;refine Calls.mono hst.out ?_;rintro e w3 ⟨v3,rfl,hv,b3⟩;obtain⟨vo,vt,vf,hq,g1,g2,g3⟩:=hv;dsimp only at hq g1 g2 g3;subst hq;obtain⟨QN,hfO⟩:=hfT.out;have hfit:Hid (O5 ⟨said,order,T,F⟩):=hide ⟨by rw[aN]at hfO;exact hfO,QN,⟨by show F.length≤1000000;have:=hfF.out.1;omega,fun f hf=>hfF.out.2 f hf⟩⟩;obtain⟨O,hOO⟩:∃O,au order=O:=⟨_,rfl⟩;rw[hOO]at g1;replace hOO:=hide hOO;obtain⟨Ao,co,rfl⟩:=aS.form g1;obtain⟨At,ct,rfl⟩:=aW.form g2;obtain⟨Af,cf,rfl⟩:=aW.form g3;have wO:=hide (aS.sl g1 (K:=Old w3) (fun g _ h=>h));have wN:=hide (dn.s g2);have wF:=hide (iw.s g3);clear g1 g2 g3 hst hfT QN hfF hfO;go_upto_region 9 with fail;obtain⟨X,hX⟩:∃X,(w3.alloc (.cells #[.int .i64 x2,.int .i64 y2] 26)).alloc (.cells #[.int .i64 said,.slice Ao O.length co,.slice At T.length ct,.slice Af F.length cf] 36)=X:=⟨_,rfl⟩;rw[hX];have hba:=aG hX;have k5:=Blk.fC hX;have k6:=Blk.dQ hX;have hbx:=b3.trans (hba.mono b3.size);have hO:=hide (aI.below wO.out hba);have hN:=hide (dH.below wN.out hba);have hF:=hide (bF.below wF.out hba);replace kh:=kh.below hbx kh.lt;replace kr:=kr.below hbx kr.lt;have hbX:=hb3.trans (hbx.mono hb3.size);clear hX hba hbx b3 hb3 hb hbw2 hbr wO wN wF hT2 hL2 hTr hLr;generalize w3.heap.size=p5 at*;have hq0:=hide (fun W (hW:Below X.heap.size X W)=>(hW.cell (p:=⟨w.heap.size,0,none⟩) kh.lt).trans (kh.cell 0));have hq1:=hide (fun W (hW:Below X.heap.size X W)=>(hW.cell (p:=⟨w.heap.size,1,none⟩) kh.lt).trans (kh.cell 1));have hq2:=hide (fun W (hW:Below X.heap.size X W)=>(hW.cell (p:=⟨w.heap.size,2,none⟩) kh.lt).trans (kh.cell 2));have hq3:=hide (fun W (hW:Below X.heap.size X W)=>(hW.cell (p:=⟨w.heap.size,3,none⟩) kh.lt).trans (kh.cell 3));have hq4:=hide (fun W (hW:Below X.heap.size X W)=>(hW.cell (p:=⟨w.heap.size,4,none⟩) kh.lt).trans (kh.cell 4));have ht0:=hide (fun W (hW:Below X.heap.size X W)=>(hW.cell (p:=⟨p5,0,none⟩) k5.lt).trans (k5.cell 0));have ht1:=hide (fun W (hW:Below X.heap.size X W)=>(hW.cell (p:=⟨p5,1,none⟩) k5.lt).trans (k5.cell 1));have hr0:=hide (fun W (hW:Below X.heap.size X W)=>(hW.cell (p:=⟨gr,0,none⟩) kr.lt).trans (kr.cell 0));have hr1:=hide (fun W (hW:Below X.heap.size X W)=>(hW.cell (p:=⟨gr,1,none⟩) kr.lt).trans (kr.cell 1));have hc0:=hide (fun W (hW:Below X.heap.size X W)=>(hW.cell (p:=⟨p5+1,0,none⟩) k6.lt).trans (k6.cell 0));have hc1:=hide (fun W (hW:Below X.heap.size X W)=>(hW.cell (p:=⟨p5+1,1,none⟩) k6.lt).trans (k6.cell 1));have hc2:=hide (fun W (hW:Below X.heap.size X W)=>(hW.cell (p:=⟨p5+1,2,none⟩) k6.lt).trans (k6.cell 2));have hc3:=hide (fun W (hW:Below X.heap.size X W)=>(hW.cell (p:=⟨p5+1,3,none⟩) k6.lt).trans (k6.cell 3));simp only[gA,gZ,gS]at hq0 hq1 hq2 hq3 hq4 ht0 ht1 hr0 hr1 hc0 hc1 hc2 hc3;go_upto_region 9 with fail;refine bJ X.heap.size [wV (.pointer (some ⟨w.heap.size,0,none⟩)),wV (.agg #[.slice A H.length c]),wV (.pointer (some ⟨w.heap.size,1,none⟩)),wV (.int .i64 level),wV (.agg #[.int .i64 x,.int .i64 y]),wV (.pointer (some ⟨w.heap.size,4,none⟩)),wV (.slice Al L.length cl),wCF X.heap.size w L,wRS x2 y2 ⟨said,order,T,F⟩,wRS x2 y2 ⟨said,order,T,F⟩,wV (.agg #[.int .i64 x2,.int .i64 y2]),wSX ⟨said,order,T,F⟩,wB X.heap.size 32 #[.int .i64 0,.int .i64 0],wB X.heap.size 42 #[.int .i64 0,.slice none 0 0,.slice none 0 0,.slice none 0 0],wB X.heap.size 32 #[.int .i64 x2,.int .i64 y2],wSO X.heap.size ⟨said,order,T,F⟩] [[],[0],[],[2],[],[],[5],[6],[1,3,4,7],[8],[9],[9],[],[],[10,12],[11,13]] [[],[],[],[],[],[],[],[],[],[],[],[],[],[],[32],[42]] [[],[],[],[],[],[],[],[120],[3,126,120],[3,126,120],[],[3,126,120],[32],[42],[32],[42,3,126,120]] [0,1,2,3,4,5,6,7,8,9,10,11,12,13,12,13] [32,42] (Nat.le_refl _) (by kernel_rfl) (by kernel_rfl) (by kernel_rfl) (by kernel_rfl) (by kernel_rfl) (by kernel_rfl) rfl trivial (by kernel_rfl) (by kernel_rfl) ?hstep ?hend;case hstep=>
   simp only[gP,fM,RsT,acV,wV,wO,wS,wB,wU,wX,wK,wA,wB,wCF,wRS,wSX,wSO,dh,gA,gZ,gS,List.getD_cons_zero,List.getD_cons_succ,List.getD_nil,Act.put,sA,sZ,sS,Nat.zero_add,Nat.reduceAdd,if_true,and_true];refine⟨?_,?o1,?_,?o3,?o4,?_,?o6,?o7,?o8,?o9,?o10,?o11,?o12,?o13,?o14,?o15⟩;all_goals intro vs W R hR hT hd
   all_goals have hsz:X.heap.size≤W.heap.size:=hT.size
   all_goals have hbW:=hbX.trans (hT.below.mono hbX.size)
   case o1=>
    have v0:=hq0.out W hT.below;go_wp2;exact⟨rfl,_,rfl,hR _ _ rfl (TyW.refl _ _ _)⟩
   case o3=>
    have v0:=hq1.out W hT.below;go_wp2;exact⟨rfl,_,rfl,hR _ _ rfl (TyW.refl _ _ _)⟩
   case o4=>
    have v0:=hr0.out W hT.below;have v1:=hr1.out W hT.below;go_wp2;exact⟨rfl,_,rfl,hR _ _ rfl (TyW.refl _ _ _)⟩
   case o6=>
    have v0:=hq4.out W hT.below;go_wp2;exact⟨rfl,_,rfl,hR _ _ rfl (TyW.refl _ _ _)⟩
   case o7=>
    rw[hd];go_wp2_with fail;refine(qu7q (Old w) Al cl L W (fun b h=>Nat.lt_of_lt_of_le h hbW.size) (bF.keep hL.out (Agree.below hbW fun b h=>h) (fun b h=>h)) hLm.out).mono ?_;rintro e W2 ⟨A',c',M,rfl,ho,hc,hb2⟩;replace ho:=hide ho;replace hc:=hide hc;go_wp2;exact⟨rfl,_,rfl,hR _ _ ⟨A',c',M,rfl,cO ho.out hsz,hc.out.keep (fun b hb=>(hbW.block b hb).symm)⟩ (TyW.calm hb2 hsz)⟩
   case o8=>
    obtain⟨e1,e3,e4,A',c',M,e7,ho,hc⟩:=hd;rw[e1,e3,e4,e7];have hFS:=hide (iB.s (K':=Old W) hc ho (Agree.below hbW fun b h=>h) (fun b h=>Nat.lt_of_lt_of_le h hbW.size) fun g h=>(ho.lt g h).2);clear ho hc;go_wp2_with fail;refine(hrs.out W hbW A' c' hFS.out).mono ?_;rintro e W2 ⟨v,rfl,hv,hb2⟩;replace hv:=hide hv;go_wp2;exact⟨rfl,_,rfl,hR _ _ ⟨v,rfl,hv.out⟩ (TyW.calm hb2 hsz)⟩
   case o9=>
    obtain⟨v,e8,hv⟩:=hd;replace hv:=hide hv;rw[e8];go_wp2;exact⟨rfl,_,rfl,hR _ _ ⟨v,rfl,hv.out⟩ (TyW.refl _ _ _)⟩
   case o10=>
    obtain⟨v,e8,hv⟩:=hd;clear hv;rw[e8];go_wp2;exact⟨rfl,_,rfl,hR _ _ rfl (TyW.refl _ _ _)⟩
   case o11=>
    obtain⟨v,e8,hv⟩:=hd;replace hv:=hide hv;rw[e8];go_wp2;exact⟨rfl,_,rfl,hR _ _ hv.out (TyW.refl _ _ _)⟩
   case o12=>
    go_wp2;exact⟨rfl,_,rfl,hR _ _ ⟨W.heap.size,hsz,rfl,Blk.new _ _ _⟩ (TyW.calm ((Below.refl _ _).alloc (Nat.le_refl _) _) hsz)⟩
   case o13=>
    go_wp2;exact⟨rfl,_,rfl,hR _ _ ⟨W.heap.size,hsz,rfl,Blk.new _ _ _⟩ (TyW.calm ((Below.refl _ _).alloc (Nat.le_refl _) _) hsz)⟩
   case o14=>
    obtain⟨e10,g,hg,e12,kg⟩:=hd;have z0:=Blk.n0 kg;have z1:=Blk.n1 kg;have f0:=kg.frozen 0;have f1:=kg.frozen 1;have hP:=hide ((TyW.put kg (σ:=[32]) (n0:=X.heap.size) hg (by simp) (i:=0) (.int .i64 x2)).trans (TyW.put (kg.aD 0 _) hg (by simp) (i:=1) (.int .i64 y2)));have kP:=hide ((kg.aD 0 (.int .i64 x2)).aD 1 (.int .i64 y2));clear kg;rw[e10];have e9:=e12;rw[e12];go_wp2;exact⟨rfl,undef,rfl,hR undef _ ⟨g,hg,e9,kP.out⟩ hP.out⟩
   case o15=>
    obtain⟨hv,g,hg,e13,kg⟩:=hd;obtain⟨Bo,no,do',Bt,nt,dt,Bf,df,e11⟩:=dL.form hv;rw[e11]at hv;have hv2:=hide (dL.bR (a:= .int .i64 said) (b:= .slice Bo no do') (c:= .slice Bt nt dt) (d:= .slice Bf F.length df) hv kg (Nat.zero_le _));have z0:=Blk.n0 kg;have z1:=Blk.n1 kg;have z2:=Blk.n2 kg;have z3:=Blk.n3 kg;have f0:=kg.frozen 0;have f1:=kg.frozen 1;have f2:=kg.frozen 2;have f3:=kg.frozen 3;have hP:=hide (yx (n0:=X.heap.size) (a:= .int .i64 said) (b:= .slice Bo no do') (c:= .slice Bt nt dt) (d:= .slice Bf F.length df) kg hg);have kP:=hide (bD (a:= .int .i64 said) (b:= .slice Bo no do') (c:= .slice Bt nt dt) (d:= .slice Bf F.length df) kg);clear kg hv;rw[e11];have e9:=e13;rw[e13];go_wp2;exact⟨rfl,undef,rfl,hR undef _ ⟨g,Bo,no,do',Bt,nt,dt,Bf,F.length,df,hg,e9,kP.out,hv2.out⟩ hP.out⟩
   all_goals (go_wp2;exact⟨rfl,_,rfl,hR _ _ (by first|rfl|trivial) (TyW.refl _ _ _)⟩)
  case hend=>
   intro vs W hT hd;obtain⟨g8,-,e12,k8⟩:∃g,X.heap.size≤g∧vs 12= .pointer (some ⟨g,0,none⟩)∧Blk W g 32 #[.int .i64 x2,.int .i64 y2]:=hd 14 (by simp) (by kernel_rfl);obtain⟨g9,Bo,no,do',Bt,nt,dt,Bf,nf,df,-,e13,k9,hSX⟩:∃g Ao no co At nt ct Af nf cf,X.heap.size≤g∧vs 13= .pointer (some ⟨g,0,none⟩)∧Blk W g 42 #[.int .i64 said,.slice Ao no co,.slice At nt ct,.slice Af nf cf]∧dL 0 W (.agg #[.int .i64 said,.slice Ao no co,.slice At nt ct,.slice Af nf cf]) ⟨said,order,T,F⟩:=hd 15 (by simp) (by kernel_rfl);have BK:=hT.below;clear hd hT hq0 hq1 hq2 hq3 hq4 ht0 ht1 hc0 hc1 hc2 hc3 hr0 hr1 hrs;have hbY:=hbX.trans (BK.mono hbX.size);replace kh:=kh.below BK kh.lt;replace kr:=kr.below BK kr.lt;replace k5:=k5.below BK k5.lt;replace k6:=k6.below BK k6.lt;have hSA:Hid (vT W (.agg #[.int .i64 said,.slice Ao O.length co,.slice At T.length ct,.slice Af F.length cf]) ⟨said,order,T,F⟩):=hide ⟨Ao,co,At,ct,Af,cf,by show _=Value.agg #[.int .i64 said,.slice Ao (au order).length co,.slice At T.length ct,.slice Af F.length cf];rw[hOO.out],by show aI W (Old W) (.slice Ao (au order).length co) (au order);rw[hOO.out];exact aI.below hO.out BK,dH.below hN.out BK,bF.below hF.out BK⟩;have hSB:=hide (dL.s hSX);simp only[acV,gA,gZ,gS,Act.put,sA,sZ,sS,List.length_cons,List.length_nil,Nat.reduceAdd];rw[e12,e13];clear e12 e13 hSX BK hO hN hF hbX;obtain⟨Y,rfl⟩:∃Y,Y=W:=⟨_,rfl⟩;have hq0:=hide (fun W (hW:Below Y.heap.size Y W)=>(hW.cell (p:=⟨w.heap.size,0,none⟩) kh.lt).trans (kh.cell 0));have hq1:=hide (fun W (hW:Below Y.heap.size Y W)=>(hW.cell (p:=⟨w.heap.size,1,none⟩) kh.lt).trans (kh.cell 1));have hq2:=hide (fun W (hW:Below Y.heap.size Y W)=>(hW.cell (p:=⟨w.heap.size,2,none⟩) kh.lt).trans (kh.cell 2));have hq3:=hide (fun W (hW:Below Y.heap.size Y W)=>(hW.cell (p:=⟨w.heap.size,3,none⟩) kh.lt).trans (kh.cell 3));have hq4:=hide (fun W (hW:Below Y.heap.size Y W)=>(hW.cell (p:=⟨w.heap.size,4,none⟩) kh.lt).trans (kh.cell 4));have ht0:=hide (fun W (hW:Below Y.heap.size Y W)=>(hW.cell (p:=⟨p5,0,none⟩) k5.lt).trans (k5.cell 0));have ht1:=hide (fun W (hW:Below Y.heap.size Y W)=>(hW.cell (p:=⟨p5,1,none⟩) k5.lt).trans (k5.cell 1));have hr0:=hide (fun W (hW:Below Y.heap.size Y W)=>(hW.cell (p:=⟨gr,0,none⟩) kr.lt).trans (kr.cell 0));have hr1:=hide (fun W (hW:Below Y.heap.size Y W)=>(hW.cell (p:=⟨gr,1,none⟩) kr.lt).trans (kr.cell 1));have hc0:=hide (fun W (hW:Below Y.heap.size Y W)=>(hW.cell (p:=⟨p5+1,0,none⟩) k6.lt).trans (k6.cell 0));have hc1:=hide (fun W (hW:Below Y.heap.size Y W)=>(hW.cell (p:=⟨p5+1,1,none⟩) k6.lt).trans (k6.cell 1));have hc2:=hide (fun W (hW:Below Y.heap.size Y W)=>(hW.cell (p:=⟨p5+1,2,none⟩) k6.lt).trans (k6.cell 2));have hc3:=hide (fun W (hW:Below Y.heap.size Y W)=>(hW.cell (p:=⟨p5+1,3,none⟩) k6.lt).trans (k6.cell 3));simp only[gA,gZ,gS]at hq0 hq1 hq2 hq3 hq4 ht0 ht1 hr0 hr1 hc0 hc1 hc2 hc3;have hu0:=hide (fun W (hW:Below Y.heap.size Y W)=>(hW.cell (p:=⟨g8,0,none⟩) k8.lt).trans (k8.cell 0));have hu1:=hide (fun W (hW:Below Y.heap.size Y W)=>(hW.cell (p:=⟨g8,1,none⟩) k8.lt).trans (k8.cell 1));have hd0:=hide (fun W (hW:Below Y.heap.size Y W)=>(hW.cell (p:=⟨g9,0,none⟩) k9.lt).trans (k9.cell 0));have hd1:=hide (fun W (hW:Below Y.heap.size Y W)=>(hW.cell (p:=⟨g9,1,none⟩) k9.lt).trans (k9.cell 1));have hd2:=hide (fun W (hW:Below Y.heap.size Y W)=>(hW.cell (p:=⟨g9,2,none⟩) k9.lt).trans (k9.cell 2));have hd3:=hide (fun W (hW:Below Y.heap.size Y W)=>(hW.cell (p:=⟨g9,3,none⟩) k9.lt).trans (k9.cell 3));simp only[gA,gZ,gS]at hu0 hu1 hd0 hd1 hd2 hd3;clear kh kr k5 k6 k8 k9;have hsr:=hide (fun W (hW:Below Y.heap.size Y W)=>nC A c H x y W (h.out.below (hbY.trans (hW.mono hbY.size))) hsm.out);have Sc:=hide (fun W (hW:Below Y.heap.size Y W)=>tV A c H x y W (h.out.below (hbY.trans (hW.mono hbY.size))) hsm.out);generalize jR H x y=sr at*;go_upto_region 10 with fail;refine D6 (W0:=Y) [qV (.pointer (some ⟨p5,0,none⟩)),qV (.int .i64 x2),qV (.pointer (some ⟨g8,0,none⟩)),qV (.int .i64 x2),qV (.bool true),qV (.bool true),qV (.pointer (some ⟨p5,1,none⟩)),qV (.int .i64 y2),qV (.pointer (some ⟨g8,1,none⟩)),qV (.int .i64 y2),qV (.bool true),qV (.bool true),qV (.bool true),qV (.agg #[.int .i64 said,.slice Ao O.length co,.slice At T.length ct,.slice Af F.length cf]),QM ⟨said,order,T,F⟩,qV (.agg #[.int .i64 said,.slice Bo no do',.slice Bt nt dt,.slice Bf nf df]),qV (.bool true),qV (.bool true),qV (.bool true),qV (.pointer (some ⟨w.heap.size,0,none⟩)),qV (.agg #[.slice A H.length c]),qV (.pointer (some ⟨w.heap.size,2,none⟩)),qV (.agg #[.int .i64 x,.int .i64 y]),qV (.bool sr),qV (.pointer (some ⟨w.heap.size,0,none⟩)),qV (.agg #[.slice A H.length c]),qV (.agg #[.int .i64 x,.int .i64 y]),qV (.bool sr),qV (.bool true),qV (.bool true),qV (.bool true)] [0,1,0,4,15,31,63,127,63,319,1023,2047,4095,8191,16383,8191,65535,131071,262143,524287,1048575,524287,2621439,8388607,524287,17301503,524287,134217727,268435455,536870911,1073741823] [[],[0],[],[2],[1,3],[4],[5],[5,6],[5],[5,8],[5,7,9],[5,10],[11],[12],[12,13],[12],[12,14,15],[12,16],[17],[18],[18,19],[18],[18,21],[18,20,22],[18],[18,24],[18],[18,25,26],[18,23,27],[18,28],[29]] (by kernel_rfl) (by kernel_rfl) (by kernel_rfl) (by simp) (Below.refl _ _) ?hstep ?hend;case hstep=>
    intro i o ho vs W hB hd
    match i,ho with
    |0,ho=>
     clear hd;simp only[gZ,gS,Option.some.injEq]at ho;subst ho;simp only[acV,gA,gZ,gS,Act.put,sA,sZ,sS];go_wp2;exact⟨rfl,_,rfl,rfl,hB,Below.refl _ _⟩
    |1,ho=>
     have e0:vs 0= .pointer (some ⟨p5,0,none⟩):=hd 0 (by simp);clear hd;simp only[gZ,gS,Option.some.injEq]at ho;subst ho;simp only[acV,gA,gZ,gS,Act.put,sA,sZ,sS];rw[e0];have v0:=ht0.out W hB;go_wp2;exact⟨rfl,_,rfl,rfl,hB,Below.refl _ _⟩
    |2,ho=>
     clear hd;simp only[gZ,gS,Option.some.injEq]at ho;subst ho;simp only[acV,gA,gZ,gS,Act.put,sA,sZ,sS];go_wp2;exact⟨rfl,_,rfl,rfl,hB,Below.refl _ _⟩
    |3,ho=>
     have e2:vs 2= .pointer (some ⟨g8,0,none⟩):=hd 2 (by simp);clear hd;simp only[gZ,gS,Option.some.injEq]at ho;subst ho;simp only[acV,gA,gZ,gS,Act.put,sA,sZ,sS];rw[e2];have v0:=hu0.out W hB;go_wp2;exact⟨rfl,_,rfl,rfl,hB,Below.refl _ _⟩
    |4,ho=>
     have e1:vs 1= .int .i64 x2:=hd 1 (by simp);have e3:vs 3= .int .i64 x2:=hd 3 (by simp);clear hd;simp only[gZ,gS,Option.some.injEq]at ho;subst ho;simp only[acV,gA,gZ,gS,Act.put,sA,sZ,sS];rw[e1,e3];go_wp2;exact⟨rfl,_,rfl,rfl,hB,Below.refl _ _⟩
    |5,ho=>
     have e4:vs 4= .bool true:=hd 4 (by simp);clear hd;simp only[gZ,gS,Option.some.injEq]at ho;subst ho;simp only[acV,gA,gZ,gS,Act.put,sA,sZ,sS];rw[e4];go_wp2;exact⟨rfl,_,rfl,rfl,hB,Below.refl _ _⟩
    |6,ho=>
     have e5:vs 5= .bool true:=hd 5 (by simp);clear hd;simp only[gZ,gS,Option.some.injEq]at ho;subst ho;simp only[acV,gA,gZ,gS,Act.put,sA,sZ,sS];rw[e5];go_wp2;exact⟨rfl,_,rfl,rfl,hB,Below.refl _ _⟩
    |7,ho=>
     have e5:vs 5= .bool true:=hd 5 (by simp);have e6:vs 6= .pointer (some ⟨p5,1,none⟩):=hd 6 (by simp);clear hd;simp only[gZ,gS,Option.some.injEq]at ho;subst ho;simp only[acV,gA,gZ,gS,Act.put,sA,sZ,sS];rw[e5,e6];have v0:=ht1.out W hB;go_wp2;exact⟨rfl,_,rfl,rfl,hB,Below.refl _ _⟩
    |8,ho=>
     have e5:vs 5= .bool true:=hd 5 (by simp);clear hd;simp only[gZ,gS,Option.some.injEq]at ho;subst ho;simp only[acV,gA,gZ,gS,Act.put,sA,sZ,sS];rw[e5];go_wp2;exact⟨rfl,_,rfl,rfl,hB,Below.refl _ _⟩
    |9,ho=>
     have e5:vs 5= .bool true:=hd 5 (by simp);have e8:vs 8= .pointer (some ⟨g8,1,none⟩):=hd 8 (by simp);clear hd;simp only[gZ,gS,Option.some.injEq]at ho;subst ho;simp only[acV,gA,gZ,gS,Act.put,sA,sZ,sS];rw[e5,e8];have v0:=hu1.out W hB;go_wp2;exact⟨rfl,_,rfl,rfl,hB,Below.refl _ _⟩
    |10,ho=>
     have e5:vs 5= .bool true:=hd 5 (by simp);have e7:vs 7= .int .i64 y2:=hd 7 (by simp);have e9:vs 9= .int .i64 y2:=hd 9 (by simp);clear hd;simp only[gZ,gS,Option.some.injEq]at ho;subst ho;simp only[acV,gA,gZ,gS,Act.put,sA,sZ,sS];rw[e5,e7,e9];go_wp2;exact⟨rfl,_,rfl,rfl,hB,Below.refl _ _⟩
    |11,ho=>
     have e5:vs 5= .bool true:=hd 5 (by simp);have e10:vs 10= .bool true:=hd 10 (by simp);clear hd;simp only[gZ,gS,Option.some.injEq]at ho;subst ho;simp only[acV,gA,gZ,gS,Act.put,sA,sZ,sS];rw[e5,e10];go_wp2;exact⟨rfl,_,rfl,rfl,hB,Below.refl _ _⟩
    |12,ho=>
     have e11:vs 11= .bool true:=hd 11 (by simp);clear hd;simp only[gZ,gS,Option.some.injEq]at ho;subst ho;simp only[acV,gA,gZ,gS,Act.put,sA,sZ,sS];rw[e11];go_wp2;exact⟨rfl,_,rfl,rfl,hB,Below.refl _ _⟩
    |13,ho=>
     have e12:vs 12= .bool true:=hd 12 (by simp);clear hd;simp only[gZ,gS,Option.some.injEq]at ho;subst ho;simp only[acV,gA,gZ,gS,Act.put,sA,sZ,sS];rw[e12];have v0:=hc0.out W hB;have v1:=hc1.out W hB;have v2:=hc2.out W hB;have v3:=hc3.out W hB;go_wp2;exact⟨rfl,_,rfl,rfl,hB,Below.refl _ _⟩
    |14,ho=>
     have e12:vs 12= .bool true:=hd 12 (by simp);have e13:vs 13= .agg #[.int .i64 said,.slice Ao O.length co,.slice At T.length ct,.slice Af F.length cf]:=hd 13 (by simp);clear hd;simp only[gZ,gS,Option.some.injEq]at ho;subst ho;simp only[acV,gA,gZ,gS,Act.put,sA,sZ,sS];rw[e12,e13];go_wp2_with fail;refine(Dw ⟨said,order,T,F⟩ _ W (vT.below hSA.out hB) hfit.out).mono ?_;rintro e W2 ⟨v,rfl,hv,b3⟩;replace hv:=hide hv;go_wp2;exact⟨rfl,_,rfl,hv.out,hB.trans (b3.mono hB.size),b3⟩
    |15,ho=>
     have e12:vs 12= .bool true:=hd 12 (by simp);clear hd;simp only[gZ,gS,Option.some.injEq]at ho;subst ho;simp only[acV,gA,gZ,gS,Act.put,sA,sZ,sS];rw[e12];have v0:=hd0.out W hB;have v1:=hd1.out W hB;have v2:=hd2.out W hB;have v3:=hd3.out W hB;go_wp2;exact⟨rfl,_,rfl,rfl,hB,Below.refl _ _⟩
    |16,ho=>
     have e12:vs 12= .bool true:=hd 12 (by simp);have h14:(QM ⟨said,order,T,F⟩).p (vs 14) W:=hd 14 (by simp);have e15:vs 15= .agg #[.int .i64 said,.slice Bo no do',.slice Bt nt dt,.slice Bf nf df]:=hd 15 (by simp);clear hd;simp only[gZ,gS,Option.some.injEq]at ho;subst ho;simp only[acV,gA,gZ,gS,Act.put,sA,sZ,sS];rw[e12,e15];replace h14:=hide h14;go_wp2_with fail;refine(Dv _ _ ⟨said,order,T,F⟩ W h14.out (vT.below hSB.out hB) hfit.out).mono ?_;rintro e W2 ⟨rfl,b3⟩;go_wp2;exact⟨rfl,_,rfl,rfl,hB.trans (b3.mono hB.size),b3⟩
    |17,ho=>
     have e12:vs 12= .bool true:=hd 12 (by simp);have e16:vs 16= .bool true:=hd 16 (by simp);clear hd;simp only[gZ,gS,Option.some.injEq]at ho;subst ho;simp only[acV,gA,gZ,gS,Act.put,sA,sZ,sS];rw[e12,e16];go_wp2;exact⟨rfl,_,rfl,rfl,hB,Below.refl _ _⟩
    |18,ho=>
     have e17:vs 17= .bool true:=hd 17 (by simp);clear hd;simp only[gZ,gS,Option.some.injEq]at ho;subst ho;simp only[acV,gA,gZ,gS,Act.put,sA,sZ,sS];rw[e17];go_wp2;exact⟨rfl,_,rfl,rfl,hB,Below.refl _ _⟩
    |19,ho=>
     have e18:vs 18= .bool true:=hd 18 (by simp);clear hd;simp only[gZ,gS,Option.some.injEq]at ho;subst ho;simp only[acV,gA,gZ,gS,Act.put,sA,sZ,sS];rw[e18];go_wp2;exact⟨rfl,_,rfl,rfl,hB,Below.refl _ _⟩
    |20,ho=>
     have e18:vs 18= .bool true:=hd 18 (by simp);have e19:vs 19= .pointer (some ⟨w.heap.size,0,none⟩):=hd 19 (by simp);clear hd;simp only[gZ,gS,Option.some.injEq]at ho;subst ho;simp only[acV,gA,gZ,gS,Act.put,sA,sZ,sS];rw[e18,e19];have v0:=hq0.out W hB;go_wp2;exact⟨rfl,_,rfl,rfl,hB,Below.refl _ _⟩
    |21,ho=>
     have e18:vs 18= .bool true:=hd 18 (by simp);clear hd;simp only[gZ,gS,Option.some.injEq]at ho;subst ho;simp only[acV,gA,gZ,gS,Act.put,sA,sZ,sS];rw[e18];go_wp2;exact⟨rfl,_,rfl,rfl,hB,Below.refl _ _⟩
    |22,ho=>
     have e18:vs 18= .bool true:=hd 18 (by simp);have e21:vs 21= .pointer (some ⟨w.heap.size,2,none⟩):=hd 21 (by simp);clear hd;simp only[gZ,gS,Option.some.injEq]at ho;subst ho;simp only[acV,gA,gZ,gS,Act.put,sA,sZ,sS];rw[e18,e21];have v0:=hq2.out W hB;have v1:=hq3.out W hB;go_wp2;exact⟨rfl,_,rfl,rfl,hB,Below.refl _ _⟩
    |23,ho=>
     have e18:vs 18= .bool true:=hd 18 (by simp);have e20:vs 20= .agg #[.slice A H.length c]:=hd 20 (by simp);have e22:vs 22= .agg #[.int .i64 x,.int .i64 y]:=hd 22 (by simp);clear hd;simp only[gZ,gS,Option.some.injEq]at ho;subst ho;simp only[acV,gA,gZ,gS,Act.put,sA,sZ,sS];rw[e18,e20,e22];go_wp2_with fail;refine(hsr.out W hB).mono ?_;rintro e W2 ⟨rfl,b3⟩;go_wp2;exact⟨rfl,_,rfl,rfl,hB.trans (b3.mono hB.size),b3⟩
    |24,ho=>
     have e18:vs 18= .bool true:=hd 18 (by simp);clear hd;simp only[gZ,gS,Option.some.injEq]at ho;subst ho;simp only[acV,gA,gZ,gS,Act.put,sA,sZ,sS];rw[e18];go_wp2;exact⟨rfl,_,rfl,rfl,hB,Below.refl _ _⟩
    |25,ho=>
     have e18:vs 18= .bool true:=hd 18 (by simp);have e24:vs 24= .pointer (some ⟨w.heap.size,0,none⟩):=hd 24 (by simp);clear hd;simp only[gZ,gS,Option.some.injEq]at ho;subst ho;simp only[acV,gA,gZ,gS,Act.put,sA,sZ,sS];rw[e18,e24];have v0:=hq0.out W hB;go_wp2;exact⟨rfl,_,rfl,rfl,hB,Below.refl _ _⟩
    |26,ho=>
     have e18:vs 18= .bool true:=hd 18 (by simp);clear hd;simp only[gZ,gS,Option.some.injEq]at ho;subst ho;simp only[acV,gA,gZ,gS,Act.put,sA,sZ,sS];rw[e18];have v0:=hr0.out W hB;have v1:=hr1.out W hB;go_wp2;exact⟨rfl,_,rfl,rfl,hB,Below.refl _ _⟩
    |27,ho=>
     have e18:vs 18= .bool true:=hd 18 (by simp);have e25:vs 25= .agg #[.slice A H.length c]:=hd 25 (by simp);have e26:vs 26= .agg #[.int .i64 x,.int .i64 y]:=hd 26 (by simp);clear hd;simp only[gZ,gS,Option.some.injEq]at ho;subst ho;simp only[acV,gA,gZ,gS,Act.put,sA,sZ,sS];rw[e18,e25,e26];go_wp2_with fail;refine(Sc.out W hB).mono ?_;rintro e W2 ⟨rfl,b3⟩;go_wp2;exact⟨rfl,_,rfl,rfl,hB.trans (b3.mono hB.size),b3⟩
    |28,ho=>
     have e18:vs 18= .bool true:=hd 18 (by simp);have e23:vs 23= .bool sr:=hd 23 (by simp);have e27:vs 27= .bool sr:=hd 27 (by simp);clear hd;simp only[gZ,gS,Option.some.injEq]at ho;subst ho;simp only[acV,gA,gZ,gS,Act.put,sA,sZ,sS];rw[e18,e23,e27];go_wp2;exact⟨rfl,_,rfl,rfl,hB,Below.refl _ _⟩
    |29,ho=>
     have e18:vs 18= .bool true:=hd 18 (by simp);have e28:vs 28= .bool true:=hd 28 (by simp);clear hd;simp only[gZ,gS,Option.some.injEq]at ho;subst ho;simp only[acV,gA,gZ,gS,Act.put,sA,sZ,sS];rw[e18,e28];go_wp2;exact⟨rfl,_,rfl,rfl,hB,Below.refl _ _⟩
    |30,ho=>
     have e29:vs 29= .bool true:=hd 29 (by simp);clear hd;simp only[gZ,gS,Option.some.injEq]at ho;subst ho;simp only[acV,gA,gZ,gS,Act.put,sA,sZ,sS];rw[e29];go_wp2;exact⟨rfl,_,rfl,rfl,hB,Below.refl _ _⟩
    |i+31,ho=>simp at ho
   case hend=>
    intro vs W hB hd;have eN:vs 30= .bool true:=hd 30 (by simp);have hbF:=hbY.trans (hB.mono hbY.size);clear hd;simp only[acV,gA,gZ,gS,Act.put,sA,sZ,sS,List.length_cons,List.length_nil,Nat.reduceAdd];rw[eN];go_wp2;go_ret;exact⟨rfl,hbF⟩
end Go.Proofs.YtfhnamomiaekdaaGreatDoor
