/-
  Walks: SearchProves.
-/
import Derived.Test.YtfhnamomiaekdaaGreatDoorV28
import Derived.Test.YtfhnamomiaekdaaGreatDoorV29
import Derived.Test.YtfhnamomiaekdaaGreatDoorV30
import Derived.Test.YtfhnamomiaekdaaGreatDoorV38
import Derived.Test.YtfhnamomiaekdaaGreatDoorV39
set_option linter.unusedVariables false
set_option linter.unusedSimpArgs false
namespace Go.Proofs.YtfhnamomiaekdaaGreatDoor
open Go.RowKit Go.Inq
set_option maxHeartbeats 16000000
attribute [local go_sem↓] Go.wp_at_zero Go.wp_at_succ
def qMk(P:List Mk):Wq:=⟨fun v W=>∃A c,v= .slice A P.length c∧MkS W (Old W) (.slice A P.length c) P,fun v W W' h hb=>by
 obtain⟨A,c,h1,h2⟩:=h;exact⟨A,c,h1,h2.below hb⟩⟩
set_option maxRecDepth 100000 in
theorem wu(A:Option Addr)(c:Nat)(H:List Txn)(level:Int)(Al:Option Addr)(cl:Nat)(L:List Fct)(Ap:Option Addr)(cp:Nat)(path:List Mk)(w:World)(h:aD w (Old w) (.slice A H.length c) H)(hn:H.length≤maxLen)(hns:∀t∈H,t.writes.length≤maxLen∧t.reads.length≤maxLen)(hL:eY w (Old w) (.slice Al L.length cl) L)(hL1:L.length≤maxLen)(hP:MkS w (Old w) (.slice Ap path.length cp) path)(hP1:path.length≤maxLen)(hTB:iV w):
 Calls Tryz.prog 9 #[.agg #[.slice A H.length c,.int .i64 level,.slice Al L.length cl,.slice Ap path.length cp]] w fun e w'=>e= .returned (.bool true)∧Below w.heap.size w w':=by
 obtain⟨W0,hW0⟩:∃W0,w.alloc (.cells #[.slice A H.length c,.int .i64 level,.slice Al L.length cl,.slice Ap path.length cp] 53)=W0:=⟨_,rfl⟩;have hA:=ah (Below.refl w.heap.size w) hW0 (Nat.le_refl _);have kh:=Blk.newEq hW0;have hT0:=h.below hA;have hL0:=hL.below hA;have hP0:=hP.below hA;replace hn:=hide hn;replace hns:=hide hns;replace h:=hide h;replace hL:=hide hL;replace hL1:=hide hL1;replace hP:=hide hP;replace hP1:=hide hP1;go_enter Tryz.func9,Tryz.ntmps9;go_wp2_with fail;clear hW0;refine(FB W0 (hTB.below hA)).mono ?_;rintro e w1 ⟨rfl,hb1⟩;have hb:=hA.trans (hb1.mono hA.size);have hT1:=hT0.below hb1;have hL1':=hL0.below hb1;have Sy:=hP0.below hb1;replace kh:=kh.below hb1 kh.lt;have q0:=Blk.n0 kh;have q1:=Blk.n1 kh;have q2:=Blk.n2 kh;have q3:=Blk.n3 kh;clear hT0 hL0 hP0 hA hb1;go_wp2_with fail;refine(LK A c H level Al cl L Ap cp path 8 w1 hT1 hn.out hns.out hL1' hL1.out Sy hP1.out).mono ?_;rintro e w2 ⟨rfl,hb2⟩;replace hb:=hb.trans (hb2.mono hb.size);have hT2:=hide (hT1.below hb2);have hL2:=hide (hL1'.below hb2);have hP2:=hide (Sy.below hb2);replace kh:=kh.below hb2 kh.lt;clear hT1 hL1' Sy hb2 q0 q1 q2 q3 hn hns hL1 hP1;cases hf:vV H L path 8 with
 |false=>
  go_wp2;go_ret;exact⟨rfl,hb⟩
 |true=>
  have hfw:=vW.1 hf;have hsm:=hide (IB (by omega) hfw.hist);have hLl:=hfw.facts;have hPl:=hfw.len;have hdn:=hide hfw.done;have hFF:=hide hfw.Vm;have hFM:=hide hfw.Vl;have hfn:=hide (show∀m∈path,u7 m.done from fun m hm=>hFM.out.done hm);clear hf hfw;have hst:=hide (nR A c H level Al cl L Ap cp path w2 hT2.out hsm.out hL2.out hFF.out hP2.out hFM.out (hTB.below hb));have hno:Hid (eO H level L path=false→dJ H level L path=(path,oN)):=hide fun e=>(by unfold dJ;rw[e];rfl);have hpv:=hide (fun e=>DF (H:=H) (level:=level) (L:=L) (path:=path) (eP.1 e) (by omega));have hfT:=hide (IJ (H:=H) (level:=level) (L:=L) (path:=path) hFM.out.2 hFM.out.1);have hfP:=hide (BK (H:=H) (level:=level) (L:=L) (path:=path) hFM.out.2);have hsz:bY path≤40000000:=(by have:=Cj hdn.out;omega);have q0:=Blk.n0 kh;have q1:=Blk.n1 kh;have q2:=Blk.n2 kh;have q3:=Blk.n3 kh;generalize dJ H level L path=r at*;obtain⟨a,o⟩:=r;obtain⟨said,order,T,F⟩:=o;dsimp only at*;have hFa:Hid (pG a):=hide ⟨by have:=hfP.out.1;omega,hfP.out.2⟩;go_wp2_with fail;clear q0 q1 q2 q3;refine Calls.mono hst.out ?_;rintro e w3 ⟨vp,v3,rfl,hva,hv,b3⟩;obtain⟨vo,vt,vf,hq,g1,g2,g3⟩:=hv;dsimp only at hva hq g1 g2 g3;subst hq;obtain⟨Ul,hfO⟩:=hfT.out;have hFN:=hide Ul;replace hfO:=hide hfO;have Um:Hid (jC order=aC order):=hide rfl;generalize hOO:aC order=O at*;replace hOO:=hide hOO;obtain⟨Aa,ca,rfl⟩:=aG.form hva;obtain⟨Ao,co,rfl⟩:=aY.form g1;obtain⟨At,ct,rfl⟩:=aG.form g2;obtain⟨Af,cf,rfl⟩:=aG.form g3;have wA:=hide (MkO.s hva);have wO:=hide (aY.sl g1 (K:=Old w3) (fun g _ h=>h));have wN:=hide (bX.s g2);clear hva g1 g2 g3 hst hfT Ul hfP;go_upto_region 8 with fail;obtain⟨X,hX⟩:∃X,w3.alloc (.cells #[.int .i64 said,.slice Ao O.length co,.slice At T.length ct,.slice Af F.length cf] 36)=X:=⟨_,rfl⟩;rw[hX];have hba:=ah (Below.refl w3.heap.size w3) hX (Nat.le_refl _);have k6:=Blk.newEq hX;have hbx:=b3.trans (hba.mono b3.size);have hT:=hide (hT2.out.below hbx);have hL3:=hide (hL2.out.below hbx);have hP3:=hide (hP2.out.below hbx);have hPa:=hide (MkS.below wA.out hba);have hO:=hide (aP.below wO.out hba);have hN:=hide (bJ.below wN.out hba);replace kh:=kh.below hbx kh.lt;have hbX:=hb.trans (hbx.mono hb.size);clear hX hba hbx b3 hb wO wN wA hT2 hL2 hP2;generalize w3.heap.size=p6 at*;have hq0:=hide (fun W (hW:Below X.heap.size X W)=>(hW.cell (p:=⟨w.heap.size,0,none⟩) kh.lt).trans (kh.cell 0));have hq1:=hide (fun W (hW:Below X.heap.size X W)=>(hW.cell (p:=⟨w.heap.size,1,none⟩) kh.lt).trans (kh.cell 1));have hq2:=hide (fun W (hW:Below X.heap.size X W)=>(hW.cell (p:=⟨w.heap.size,2,none⟩) kh.lt).trans (kh.cell 2));have hq3:=hide (fun W (hW:Below X.heap.size X W)=>(hW.cell (p:=⟨w.heap.size,3,none⟩) kh.lt).trans (kh.cell 3));have hc0:=hide (fun W (hW:Below X.heap.size X W)=>(hW.cell (p:=⟨p6,0,none⟩) k6.lt).trans (k6.cell 0));have hc1:=hide (fun W (hW:Below X.heap.size X W)=>(hW.cell (p:=⟨p6,1,none⟩) k6.lt).trans (k6.cell 1));have hc2:=hide (fun W (hW:Below X.heap.size X W)=>(hW.cell (p:=⟨p6,2,none⟩) k6.lt).trans (k6.cell 2));have hc3:=hide (fun W (hW:Below X.heap.size X W)=>(hW.cell (p:=⟨p6,3,none⟩) k6.lt).trans (k6.cell 3));simp only[gA,gZ,gS]at hq0 hq1 hq2 hq3 hc0 hc1 hc2 hc3;clear kh k6;have q0:=hq0.out X (Below.refl _ _);have q1:=hq1.out X (Below.refl _ _);have q2:=hq2.out X (Below.refl _ _);have q3:=hq3.out X (Below.refl _ _);go_wp2_with fail;clear q0 q1 q2 q3;refine(jB A c H level Al cl L Ap cp path X hT.out hsm.out hL3.out hFF.out hP3.out hFM.out).mono ?_;rintro e X1 ⟨rfl,hb6⟩;cases hr:eO H level L path with
  |false=>
   have hq:=hno.out hr;simp only[Prod.mk.injEq,oN,Say.mk.injEq]at hq;obtain⟨rfl,rfl,rfl,rfl,rfl⟩:=hq;clear hno hpv hr;have hb8:=hb6;go_upto_region 9 with fail;refine qz (W0:=X) [qV (.pointer (some ⟨p6,0,none⟩)),qV (.int .i64 3),qV (.bool true),qV (.bool true),qV (.slice Aa a.length ca),qMk a,qV (.pointer (some ⟨w.heap.size,3,none⟩)),qV (.slice Ap a.length cp),qMk a,qV (.bool true),qV (.bool true),qV (.bool true)] [0,1,3,7,15,31,15,79,255,511,1023,2047] [[],[0],[1],[2],[3],[3,4],[3],[3,6],[3,7],[3,5,8],[3,9],[10]] (by kernel_rfl) (by kernel_rfl) (by kernel_rfl) (by simp) hb8 ?hstep ?hend;case hstep=>
    intro i o ho vs W hB hd
    match i,ho with
    |0,ho=>
     clear hd;simp only[gZ,gS,Option.some.injEq]at ho;subst ho;simp only[acV,gA,gZ,gS,Act.put,sA,sZ,sS];go_wp2;exact⟨rfl,_,rfl,rfl,hB,Below.refl _ _⟩
    |1,ho=>
     have e0:vs 0= .pointer (some ⟨p6,0,none⟩):=hd 0 (by simp);clear hd;simp only[gZ,gS,Option.some.injEq]at ho;subst ho;simp only[acV,gA,gZ,gS,Act.put,sA,sZ,sS];rw[e0];have v0:=hc0.out W hB;go_wp2;exact⟨rfl,_,rfl,rfl,hB,Below.refl _ _⟩
    |2,ho=>
     have e1:vs 1= .int .i64 3:=hd 1 (by simp);clear hd;simp only[gZ,gS,Option.some.injEq]at ho;subst ho;simp only[acV,gA,gZ,gS,Act.put,sA,sZ,sS];rw[e1];go_wp2;exact⟨rfl,_,rfl,rfl,hB,Below.refl _ _⟩
    |3,ho=>
     have e2:vs 2= .bool true:=hd 2 (by simp);clear hd;simp only[gZ,gS,Option.some.injEq]at ho;subst ho;simp only[acV,gA,gZ,gS,Act.put,sA,sZ,sS];rw[e2];go_wp2;exact⟨rfl,_,rfl,rfl,hB,Below.refl _ _⟩
    |4,ho=>
     have e3:vs 3= .bool true:=hd 3 (by simp);clear hd;simp only[gZ,gS,Option.some.injEq]at ho;subst ho;simp only[acV,gA,gZ,gS,Act.put,sA,sZ,sS];rw[e3];go_wp2;exact⟨rfl,_,rfl,rfl,hB,Below.refl _ _⟩
    |5,ho=>
     have e3:vs 3= .bool true:=hd 3 (by simp);have e4:vs 4= .slice Aa a.length ca:=hd 4 (by simp);clear hd;simp only[gZ,gS,Option.some.injEq]at ho;subst ho;simp only[acV,gA,gZ,gS,Act.put,sA,sZ,sS];rw[e3,e4];go_wp2_with fail;refine Calls.mono (xH Aa ca a W (MkS.below hPa.out hB) (by omega) (fun m hm=>by have:=hdn.out m hm;omega)) ?_;rintro e W2 ⟨Ax,cx,rfl,g1,b3⟩;replace g1:=hide g1;go_wp2;exact⟨rfl,_,rfl,⟨Ax,cx,rfl,g1.out⟩,hB.trans (b3.mono hB.size),b3⟩
    |6,ho=>
     have e3:vs 3= .bool true:=hd 3 (by simp);clear hd;simp only[gZ,gS,Option.some.injEq]at ho;subst ho;simp only[acV,gA,gZ,gS,Act.put,sA,sZ,sS];rw[e3];go_wp2;exact⟨rfl,_,rfl,rfl,hB,Below.refl _ _⟩
    |7,ho=>
     have e3:vs 3= .bool true:=hd 3 (by simp);have e6:vs 6= .pointer (some ⟨w.heap.size,3,none⟩):=hd 6 (by simp);clear hd;simp only[gZ,gS,Option.some.injEq]at ho;subst ho;simp only[acV,gA,gZ,gS,Act.put,sA,sZ,sS];rw[e3,e6];have v0:=hq3.out W hB;go_wp2;exact⟨rfl,_,rfl,rfl,hB,Below.refl _ _⟩
    |8,ho=>
     have e3:vs 3= .bool true:=hd 3 (by simp);have e7:vs 7= .slice Ap a.length cp:=hd 7 (by simp);clear hd;simp only[gZ,gS,Option.some.injEq]at ho;subst ho;simp only[acV,gA,gZ,gS,Act.put,sA,sZ,sS];rw[e3,e7];go_wp2_with fail;refine Calls.mono (xH Ap cp a W (MkS.below hP3.out hB) (by omega) (fun m hm=>by have:=hdn.out m hm;omega)) ?_;rintro e W2 ⟨Ax,cx,rfl,g1,b3⟩;replace g1:=hide g1;go_wp2;exact⟨rfl,_,rfl,⟨Ax,cx,rfl,g1.out⟩,hB.trans (b3.mono hB.size),b3⟩
    |9,ho=>
     have e3:vs 3= .bool true:=hd 3 (by simp);have h5:(qMk a).p (vs 5) W:=hd 5 (by simp);have h8:(qMk a).p (vs 8) W:=hd 8 (by simp);clear hd;simp only[gZ,gS,Option.some.injEq]at ho;subst ho;simp only[acV,gA,gZ,gS,Act.put,sA,sZ,sS];rw[e3];obtain⟨A1,c1,e5,m1⟩:=h5;obtain⟨A2,c2,e8,m2⟩:=h8;rw[e5,e8];replace m1:=hide m1;replace m2:=hide m2;go_wp2_with fail;refine Calls.mono (Jh A1 A2 c1 c2 a W m1.out m2.out (by omega) hfn.out) ?_;rintro e W2 ⟨rfl,b3⟩;go_wp2;exact⟨rfl,_,rfl,rfl,hB.trans (b3.mono hB.size),b3⟩
    |10,ho=>
     have e3:vs 3= .bool true:=hd 3 (by simp);have e9:vs 9= .bool true:=hd 9 (by simp);clear hd;simp only[gZ,gS,Option.some.injEq]at ho;subst ho;simp only[acV,gA,gZ,gS,Act.put,sA,sZ,sS];rw[e3,e9];go_wp2;exact⟨rfl,_,rfl,rfl,hB,Below.refl _ _⟩
    |11,ho=>
     have e10:vs 10= .bool true:=hd 10 (by simp);clear hd;simp only[gZ,gS,Option.some.injEq]at ho;subst ho;simp only[acV,gA,gZ,gS,Act.put,sA,sZ,sS];rw[e10];go_wp2;exact⟨rfl,_,rfl,rfl,hB,Below.refl _ _⟩
    |i+12,ho=>simp at ho
   case hend=>
    intro vs W hB hd;have eN:vs 11= .bool true:=hd 11 (by simp);have hbF:=hbX.trans (hB.mono hbX.size);clear hd;simp only[acV,gA,gZ,gS,Act.put,sA,sZ,sS,List.length_cons,List.length_nil,Nat.reduceAdd];rw[eN];go_wp2;go_ret;exact⟨rfl,hbF⟩
  |true=>
   have hp:=hpv.out hr;have hrp:=eP.1 hr;obtain⟨hrH,hlv⟩:=fT.1 (dF hrp.xQ);clear hno hpv hr hrp hlv;have hok:=eP.2 hp.ok;have hF0:F=[]:=hp.facts;have hsaid:=hide hp.said;dsimp only at hok hsaid;clear hp;subst hF0;simp only[List.length_nil]at hc3;have Sz:=hbX.trans (hb6.mono hbX.size);have hsr:=hide (jB A c H level Al cl L Aa ca a X1 (hT.out.below hb6) hsm.out (hL3.out.below hb6) hFF.out (MkS.below hPa.out hb6) hFa.out);rw[hok]at hsr;have q0:=hq0.out X1 hb6;have q1:=hq1.out X1 hb6;have q2:=hq2.out X1 hb6;go_wp2_with fail;clear q0 q1 q2;refine hsr.out.mono ?_;rintro e X2 ⟨rfl,hb7⟩;have hb8:=hb6.trans (hb7.mono hb6.size);have VF:=Sz.trans (hb7.mono Sz.size);clear hsr Sz hb7 hb6 hok;have c3:=hc3.out X2 hb8;have c0:=hc0.out X2 hb8;rcases hsaid.out with⟨hs1,hO0,hT0⟩|⟨hs1,hT0,hy⟩|⟨hs1,hO0,ha0,hy⟩
   ·subst hs1 hT0;obtain rfl:O=[]:=(by rw[←hOO.out,hO0];rfl);have c1:=hc1.out X2 hb8;have c2:=hc2.out X2 hb8;simp only[List.length_nil]at c1 c2;clear hsaid hO0 hOO Um hN hO hFN hfO hT hL3 hP3 hPa hq0 hq1 hq2 hq3 hc0 hc1 hc2 hc3;go_wp2;go_ret;exact⟨rfl,VF⟩
   ·subst hs1 hT0;rw[Um.out]at hy;have hcy:=hide (Mx hrH hy);simp only[List.length_nil]at hc2;clear hsaid hy hFN hN;go_upto_region 14 with fail;clear c0 c3;have VG:=hide (fun W (hW:Below X.heap.size X W)=>Mv A c H level Ao co O W (hT.out.below hW) hsm.out (aP.below hO.out hW) hfO.out);have hOl:Hid ((if level=0 then O else[]).length≤1000000):=hide (by split;exact hfO.out;exact Nat.zero_le _);have hRl:Hid (Po (if level=0 then[]else gJ H O)):=hide (by split;exact⟨Nat.zero_le _,by simp⟩;exact Pz hfO.out);generalize(if level=0 then O else[])=O1 at*;generalize(if level=0 then[]else gJ H O)=R1 at*;have SA:=hide (fun W (hW:Below X.heap.size X W) Ax cx Aq cq Ay cy g1 g2 g3=>(by
     have:=Cz A c H level true Ax cx O1 Aq cq R1 Ay cy [] W (hT.out.below hW) hsm.out g1 hOl.out g2 hRl.out g3 (Nat.zero_le _) (by intro n hn;cases hn);rw[hcy.out]at this;exact this:
     Calls Tryz.prog 45 #[.agg #[.slice A H.length c],.agg #[.int .i64 level,.bool true,.slice Ax O1.length cx,.slice Aq R1.length cq,.slice Ay 0 cy]] W fun e w'=>e= .returned (.bool true)∧Below W.heap.size W w'))
    clear hcy;refine qz (W0:=X) [qV (.pointer (some ⟨w.heap.size,0,none⟩)),qV (.agg #[.slice A H.length c]),qV (.pointer (some ⟨w.heap.size,0,none⟩)),qV (.agg #[.slice A H.length c]),qV (.pointer (some ⟨w.heap.size,1,none⟩)),qV (.int .i64 level),qV (.pointer (some ⟨p6,1,none⟩)),qV (.slice Ao O.length co),JQ level true O1 R1 [],qV (.bool true),qV (.bool true),qV (.pointer (some ⟨p6,2,none⟩)),qV (.slice At 0 ct),qV (.int .i64 0),qV (.bool true),qV (.bool true),qV (.bool true)] [0,1,0,4,0,16,0,64,252,511,1023,2047,4095,8191,16383,32767,65535] [[],[0],[],[2],[],[4],[],[6],[3,5,7],[1,8],[9],[10],[10,11],[10,12],[10,13],[10,14],[15]] (by kernel_rfl) (by kernel_rfl) (by kernel_rfl) (by simp) hb8 ?hstep ?hend;case hstep=>
     intro i o ho vs W hB hd
     match i,ho with
     |0,ho=>
      clear hd;simp only[gZ,gS,Option.some.injEq]at ho;subst ho;simp only[acV,gA,gZ,gS,Act.put,sA,sZ,sS];go_wp2;exact⟨rfl,_,rfl,rfl,hB,Below.refl _ _⟩
     |1,ho=>
      have e0:vs 0= .pointer (some ⟨w.heap.size,0,none⟩):=hd 0 (by simp);clear hd;simp only[gZ,gS,Option.some.injEq]at ho;subst ho;simp only[acV,gA,gZ,gS,Act.put,sA,sZ,sS];rw[e0];have v0:=hq0.out W hB;go_wp2;exact⟨rfl,_,rfl,rfl,hB,Below.refl _ _⟩
     |2,ho=>
      clear hd;simp only[gZ,gS,Option.some.injEq]at ho;subst ho;simp only[acV,gA,gZ,gS,Act.put,sA,sZ,sS];go_wp2;exact⟨rfl,_,rfl,rfl,hB,Below.refl _ _⟩
     |3,ho=>
      have e2:vs 2= .pointer (some ⟨w.heap.size,0,none⟩):=hd 2 (by simp);clear hd;simp only[gZ,gS,Option.some.injEq]at ho;subst ho;simp only[acV,gA,gZ,gS,Act.put,sA,sZ,sS];rw[e2];have v0:=hq0.out W hB;go_wp2;exact⟨rfl,_,rfl,rfl,hB,Below.refl _ _⟩
     |4,ho=>
      clear hd;simp only[gZ,gS,Option.some.injEq]at ho;subst ho;simp only[acV,gA,gZ,gS,Act.put,sA,sZ,sS];go_wp2;exact⟨rfl,_,rfl,rfl,hB,Below.refl _ _⟩
     |5,ho=>
      have e4:vs 4= .pointer (some ⟨w.heap.size,1,none⟩):=hd 4 (by simp);clear hd;simp only[gZ,gS,Option.some.injEq]at ho;subst ho;simp only[acV,gA,gZ,gS,Act.put,sA,sZ,sS];rw[e4];have v0:=hq1.out W hB;go_wp2;exact⟨rfl,_,rfl,rfl,hB,Below.refl _ _⟩
     |6,ho=>
      clear hd;simp only[gZ,gS,Option.some.injEq]at ho;subst ho;simp only[acV,gA,gZ,gS,Act.put,sA,sZ,sS];go_wp2;exact⟨rfl,_,rfl,rfl,hB,Below.refl _ _⟩
     |7,ho=>
      have e6:vs 6= .pointer (some ⟨p6,1,none⟩):=hd 6 (by simp);clear hd;simp only[gZ,gS,Option.some.injEq]at ho;subst ho;simp only[acV,gA,gZ,gS,Act.put,sA,sZ,sS];rw[e6];have v0:=hc1.out W hB;go_wp2;exact⟨rfl,_,rfl,rfl,hB,Below.refl _ _⟩
     |8,ho=>
      have e3:vs 3= .agg #[.slice A H.length c]:=hd 3 (by simp);have e5:vs 5= .int .i64 level:=hd 5 (by simp);have e7:vs 7= .slice Ao O.length co:=hd 7 (by simp);clear hd;simp only[gZ,gS,Option.some.injEq]at ho;subst ho;simp only[acV,gA,gZ,gS,Act.put,sA,sZ,sS];rw[e3,e5,e7];go_wp2_with fail;refine(VG.out W hB).mono ?_;rintro e W2 ⟨Ax,cx,Aq,cq,Ay,cy,rfl,g1,g2,g3,b3⟩;replace g1:=hide g1;replace g2:=hide g2;replace g3:=hide g3;go_wp2;exact⟨rfl,_,rfl,⟨Ax,cx,Aq,cq,Ay,cy,rfl,g1.out,g2.out,g3.out⟩,hB.trans (b3.mono hB.size),b3⟩
     |9,ho=>
      have e1:vs 1= .agg #[.slice A H.length c]:=hd 1 (by simp);have h8:(JQ level true O1 R1 []).p (vs 8) W:=hd 8 (by simp);clear hd;simp only[gZ,gS,Option.some.injEq]at ho;subst ho;simp only[acV,gA,gZ,gS,Act.put,sA,sZ,sS];rw[e1];obtain⟨Ax,cx,Aq,cq,Ay,cy,e8,g1,g2,g3⟩:=h8;rw[e8];have hck:=hide (SA.out W hB Ax cx Aq cq Ay cy g1 g2 g3);clear g1 g2 g3;go_wp2_with fail;refine hck.out.mono ?_;rintro e W2 ⟨rfl,b3⟩;go_wp2;exact⟨rfl,_,rfl,rfl,hB.trans (b3.mono hB.size),b3⟩
     |10,ho=>
      have e9:vs 9= .bool true:=hd 9 (by simp);clear hd;simp only[gZ,gS,Option.some.injEq]at ho;subst ho;simp only[acV,gA,gZ,gS,Act.put,sA,sZ,sS];rw[e9];go_wp2;exact⟨rfl,_,rfl,rfl,hB,Below.refl _ _⟩
     |11,ho=>
      have e10:vs 10= .bool true:=hd 10 (by simp);clear hd;simp only[gZ,gS,Option.some.injEq]at ho;subst ho;simp only[acV,gA,gZ,gS,Act.put,sA,sZ,sS];rw[e10];go_wp2;exact⟨rfl,_,rfl,rfl,hB,Below.refl _ _⟩
     |12,ho=>
      have e10:vs 10= .bool true:=hd 10 (by simp);have e11:vs 11= .pointer (some ⟨p6,2,none⟩):=hd 11 (by simp);clear hd;simp only[gZ,gS,Option.some.injEq]at ho;subst ho;simp only[acV,gA,gZ,gS,Act.put,sA,sZ,sS];rw[e10,e11];have v0:=hc2.out W hB;go_wp2;exact⟨rfl,_,rfl,rfl,hB,Below.refl _ _⟩
     |13,ho=>
      have e10:vs 10= .bool true:=hd 10 (by simp);have e12:vs 12= .slice At 0 ct:=hd 12 (by simp);clear hd;simp only[gZ,gS,Option.some.injEq]at ho;subst ho;simp only[acV,gA,gZ,gS,Act.put,sA,sZ,sS];rw[e10,e12];go_wp2;exact⟨rfl,_,rfl,rfl,hB,Below.refl _ _⟩
     |14,ho=>
      have e10:vs 10= .bool true:=hd 10 (by simp);have e13:vs 13= .int .i64 0:=hd 13 (by simp);clear hd;simp only[gZ,gS,Option.some.injEq]at ho;subst ho;simp only[acV,gA,gZ,gS,Act.put,sA,sZ,sS];rw[e10,e13];go_wp2;exact⟨rfl,_,rfl,rfl,hB,Below.refl _ _⟩
     |15,ho=>
      have e10:vs 10= .bool true:=hd 10 (by simp);have e14:vs 14= .bool true:=hd 14 (by simp);clear hd;simp only[gZ,gS,Option.some.injEq]at ho;subst ho;simp only[acV,gA,gZ,gS,Act.put,sA,sZ,sS];rw[e10,e14];go_wp2;exact⟨rfl,_,rfl,rfl,hB,Below.refl _ _⟩
     |16,ho=>
      have e15:vs 15= .bool true:=hd 15 (by simp);clear hd;simp only[gZ,gS,Option.some.injEq]at ho;subst ho;simp only[acV,gA,gZ,gS,Act.put,sA,sZ,sS];rw[e15];go_wp2;exact⟨rfl,_,rfl,rfl,hB,Below.refl _ _⟩
     |i+17,ho=>simp at ho
    case hend=>
     intro vs W hB hd;have eN:vs 16= .bool true:=hd 16 (by simp);have hbF:=hbX.trans (hB.mono hbX.size);clear hd;simp only[acV,gA,gZ,gS,Act.put,sA,sZ,sS,List.length_cons,List.length_nil,Nat.reduceAdd];rw[eN];go_wp2;go_ret;exact⟨rfl,hbF⟩
   ·subst hs1 ha0;obtain rfl:O=[]:=(by rw[←hOO.out,hO0];rfl);have hcy:Hid (zV H level false [] [] T=true):=hide (by unfold zV;rw[if_neg (by decide),hy];rfl);simp only[List.length_nil]at hc1;clear hsaid hy hO;go_upto_region 16 with fail;clear c0 c3;have SA:=hide (fun W (hW:Below X.heap.size X W) Ax cx Aq cq Ay cy g1 g2 g3=>(by
     have:=Cz A c H level false Ax cx [] Aq cq [] Ay cy T W (hT.out.below hW) hsm.out g1 (Nat.zero_le _) g2 ⟨Nat.zero_le _,by simp⟩ g3 hFN.out.1 hFN.out.2;rw[hcy.out]at this;exact this:
     Calls Tryz.prog 45 #[.agg #[.slice A H.length c],.agg #[.int .i64 level,.bool false,.slice Ax 0 cx,.slice Aq 0 cq,.slice Ay T.length cy]] W fun e w'=>e= .returned (.bool true)∧Below W.heap.size W w'))
    clear hcy;refine qz (W0:=X) [qV (.pointer (some ⟨w.heap.size,0,none⟩)),qV (.agg #[.slice A H.length c]),qV (.pointer (some ⟨w.heap.size,1,none⟩)),qV (.int .i64 level),qV (.pointer (some ⟨p6,2,none⟩)),qV (.slice At T.length ct),JQ level false [] [] T,qV (.bool true),qV (.bool true),qV (.pointer (some ⟨p6,1,none⟩)),qV (.slice Ao 0 co),qV (.int .i64 0),qV (.slice Aa 0 ca),qV (.int .i64 0),qV (.int .i64 0),qV (.bool true),qV (.bool true),qV (.bool true)] [0,1,0,4,0,16,60,127,255,511,1023,2047,511,4607,16383,32767,65535,131071] [[],[0],[],[2],[],[4],[3,5],[1,6],[7],[8],[8,9],[8,10],[8],[8,12],[8,11,13],[8,14],[8,15],[16]] (by kernel_rfl) (by kernel_rfl) (by kernel_rfl) (by simp) hb8 ?hstep ?hend;case hstep=>
     intro i o ho vs W hB hd
     match i,ho with
     |0,ho=>
      clear hd;simp only[gZ,gS,Option.some.injEq]at ho;subst ho;simp only[acV,gA,gZ,gS,Act.put,sA,sZ,sS];go_wp2;exact⟨rfl,_,rfl,rfl,hB,Below.refl _ _⟩
     |1,ho=>
      have e0:vs 0= .pointer (some ⟨w.heap.size,0,none⟩):=hd 0 (by simp);clear hd;simp only[gZ,gS,Option.some.injEq]at ho;subst ho;simp only[acV,gA,gZ,gS,Act.put,sA,sZ,sS];rw[e0];have v0:=hq0.out W hB;go_wp2;exact⟨rfl,_,rfl,rfl,hB,Below.refl _ _⟩
     |2,ho=>
      clear hd;simp only[gZ,gS,Option.some.injEq]at ho;subst ho;simp only[acV,gA,gZ,gS,Act.put,sA,sZ,sS];go_wp2;exact⟨rfl,_,rfl,rfl,hB,Below.refl _ _⟩
     |3,ho=>
      have e2:vs 2= .pointer (some ⟨w.heap.size,1,none⟩):=hd 2 (by simp);clear hd;simp only[gZ,gS,Option.some.injEq]at ho;subst ho;simp only[acV,gA,gZ,gS,Act.put,sA,sZ,sS];rw[e2];have v0:=hq1.out W hB;go_wp2;exact⟨rfl,_,rfl,rfl,hB,Below.refl _ _⟩
     |4,ho=>
      clear hd;simp only[gZ,gS,Option.some.injEq]at ho;subst ho;simp only[acV,gA,gZ,gS,Act.put,sA,sZ,sS];go_wp2;exact⟨rfl,_,rfl,rfl,hB,Below.refl _ _⟩
     |5,ho=>
      have e4:vs 4= .pointer (some ⟨p6,2,none⟩):=hd 4 (by simp);clear hd;simp only[gZ,gS,Option.some.injEq]at ho;subst ho;simp only[acV,gA,gZ,gS,Act.put,sA,sZ,sS];rw[e4];have v0:=hc2.out W hB;go_wp2;exact⟨rfl,_,rfl,rfl,hB,Below.refl _ _⟩
     |6,ho=>
      have e3:vs 3= .int .i64 level:=hd 3 (by simp);have e5:vs 5= .slice At T.length ct:=hd 5 (by simp);clear hd;simp only[gZ,gS,Option.some.injEq]at ho;subst ho;simp only[acV,gA,gZ,gS,Act.put,sA,sZ,sS];rw[e3,e5];go_wp2_with fail;refine(Mw level At ct T W (bJ.below hN.out hB) hFN.out).mono ?_;rintro e W2 ⟨Ax,cx,Aq,cq,Ay,cy,rfl,g1,g2,g3,b3⟩;replace g1:=hide g1;replace g2:=hide g2;replace g3:=hide g3;go_wp2;exact⟨rfl,_,rfl,⟨Ax,cx,Aq,cq,Ay,cy,rfl,g1.out,g2.out,g3.out⟩,hB.trans (b3.mono hB.size),b3⟩
     |7,ho=>
      have e1:vs 1= .agg #[.slice A H.length c]:=hd 1 (by simp);have h6:(JQ level false [] [] T).p (vs 6) W:=hd 6 (by simp);clear hd;simp only[gZ,gS,Option.some.injEq]at ho;subst ho;simp only[acV,gA,gZ,gS,Act.put,sA,sZ,sS];rw[e1];obtain⟨Ax,cx,Aq,cq,Ay,cy,e6,g1,g2,g3⟩:=h6;rw[e6];have hck:=hide (SA.out W hB Ax cx Aq cq Ay cy g1 g2 g3);clear g1 g2 g3;go_wp2_with fail;refine hck.out.mono ?_;rintro e W2 ⟨rfl,b3⟩;go_wp2;exact⟨rfl,_,rfl,rfl,hB.trans (b3.mono hB.size),b3⟩
     |8,ho=>
      have e7:vs 7= .bool true:=hd 7 (by simp);clear hd;simp only[gZ,gS,Option.some.injEq]at ho;subst ho;simp only[acV,gA,gZ,gS,Act.put,sA,sZ,sS];rw[e7];go_wp2;exact⟨rfl,_,rfl,rfl,hB,Below.refl _ _⟩
     |9,ho=>
      have e8:vs 8= .bool true:=hd 8 (by simp);clear hd;simp only[gZ,gS,Option.some.injEq]at ho;subst ho;simp only[acV,gA,gZ,gS,Act.put,sA,sZ,sS];rw[e8];go_wp2;exact⟨rfl,_,rfl,rfl,hB,Below.refl _ _⟩
     |10,ho=>
      have e8:vs 8= .bool true:=hd 8 (by simp);have e9:vs 9= .pointer (some ⟨p6,1,none⟩):=hd 9 (by simp);clear hd;simp only[gZ,gS,Option.some.injEq]at ho;subst ho;simp only[acV,gA,gZ,gS,Act.put,sA,sZ,sS];rw[e8,e9];have v0:=hc1.out W hB;go_wp2;exact⟨rfl,_,rfl,rfl,hB,Below.refl _ _⟩
     |11,ho=>
      have e8:vs 8= .bool true:=hd 8 (by simp);have e10:vs 10= .slice Ao 0 co:=hd 10 (by simp);clear hd;simp only[gZ,gS,Option.some.injEq]at ho;subst ho;simp only[acV,gA,gZ,gS,Act.put,sA,sZ,sS];rw[e8,e10];go_wp2;exact⟨rfl,_,rfl,rfl,hB,Below.refl _ _⟩
     |12,ho=>
      have e8:vs 8= .bool true:=hd 8 (by simp);clear hd;simp only[gZ,gS,Option.some.injEq]at ho;subst ho;simp only[acV,gA,gZ,gS,Act.put,sA,sZ,sS];rw[e8];go_wp2;exact⟨rfl,_,rfl,rfl,hB,Below.refl _ _⟩
     |13,ho=>
      have e8:vs 8= .bool true:=hd 8 (by simp);have e12:vs 12= .slice Aa 0 ca:=hd 12 (by simp);clear hd;simp only[gZ,gS,Option.some.injEq]at ho;subst ho;simp only[acV,gA,gZ,gS,Act.put,sA,sZ,sS];rw[e8,e12];go_wp2;exact⟨rfl,_,rfl,rfl,hB,Below.refl _ _⟩
     |14,ho=>
      have e8:vs 8= .bool true:=hd 8 (by simp);have e11:vs 11= .int .i64 0:=hd 11 (by simp);have e13:vs 13= .int .i64 0:=hd 13 (by simp);clear hd;simp only[gZ,gS,Option.some.injEq]at ho;subst ho;simp only[acV,gA,gZ,gS,Act.put,sA,sZ,sS];rw[e8,e11,e13];go_wp2;exact⟨rfl,_,rfl,rfl,hB,Below.refl _ _⟩
     |15,ho=>
      have e8:vs 8= .bool true:=hd 8 (by simp);have e14:vs 14= .int .i64 0:=hd 14 (by simp);clear hd;simp only[gZ,gS,Option.some.injEq]at ho;subst ho;simp only[acV,gA,gZ,gS,Act.put,sA,sZ,sS];rw[e8,e14];go_wp2;exact⟨rfl,_,rfl,rfl,hB,Below.refl _ _⟩
     |16,ho=>
      have e8:vs 8= .bool true:=hd 8 (by simp);have e15:vs 15= .bool true:=hd 15 (by simp);clear hd;simp only[gZ,gS,Option.some.injEq]at ho;subst ho;simp only[acV,gA,gZ,gS,Act.put,sA,sZ,sS];rw[e8,e15];go_wp2;exact⟨rfl,_,rfl,rfl,hB,Below.refl _ _⟩
     |17,ho=>
      have e16:vs 16= .bool true:=hd 16 (by simp);clear hd;simp only[gZ,gS,Option.some.injEq]at ho;subst ho;simp only[acV,gA,gZ,gS,Act.put,sA,sZ,sS];rw[e16];go_wp2;exact⟨rfl,_,rfl,rfl,hB,Below.refl _ _⟩
     |i+18,ho=>simp at ho
    case hend=>
     intro vs W hB hd;have eN:vs 17= .bool true:=hd 17 (by simp);have hbF:=hbX.trans (hB.mono hbX.size);clear hd;simp only[acV,gA,gZ,gS,Act.put,sA,sZ,sS,List.length_cons,List.length_nil,Nat.reduceAdd];rw[eN];go_wp2;go_ret;exact⟨rfl,hbF⟩
end Go.Proofs.YtfhnamomiaekdaaGreatDoor
