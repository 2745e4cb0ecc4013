/-
  Walks: SaturateProves.
-/
import Derived.Test.YtfhnamomiaekdaaGreatDoorU22
import Derived.Test.YtfhnamomiaekdaaGreatDoorU23
import Derived.Test.YtfhnamomiaekdaaGreatDoorU24
import Derived.Test.YtfhnamomiaekdaaGreatDoorU37
import Derived.Test.YtfhnamomiaekdaaGreatDoorU38
set_option linter.unusedVariables false
set_option linter.unusedSimpArgs false
namespace Go.Proofs.YtfhnamomiaekdaaGreatDoor
open Go.RowKit Go.Inq
set_option maxHeartbeats 16000000
attribute [local go_sem↓] Go.wp_at_zero Go.wp_at_succ
set_option maxRecDepth 100000 in
theorem rZ(A:Option Addr)(c:Nat)(H:List Txn)(level x y:Int)(Al:Option Addr)(cl:Nat)(L:List Fct)(w:World)(h:aC w (Old w) (.slice A H.length c) H)(hn:H.length≤maxLen)(hns:∀t∈H,t.writes.length≤maxLen∧t.reads.length≤maxLen)(hL:eU w (Old w) (.slice Al L.length cl) L)(hL1:L.length≤maxLen)(hTB:iH w):
 Calls Tryz.prog 8 #[.agg #[.slice A H.length c,.int .i64 level,.int .i64 x,.int .i64 y,.slice Al L.length cl]] w fun e w'=>e= .returned (.bool true)∧Below w.heap.size w w':=by
 obtain⟨W0,hW0⟩:∃W0,w.alloc (.cells #[.slice A H.length c,.int .i64 level,.int .i64 x,.int .i64 y,.slice Al L.length cl] 29)=W0:=⟨_,rfl⟩;have hA:=ah (Below.refl w.heap.size w) hW0 (Nat.le_refl _);have kh:=Blk.newEq hW0;have hT0:=h.below hA;have hL0:=hL.below hA;replace hn:=hide hn;replace hns:=hide hns;replace h:=hide h;replace hL:=hide hL;replace hL1:=hide hL1;go_enter Tryz.func8,Tryz.ntmps8;go_wp2_with fail;clear hW0;refine(D9 W0 (hTB.below hA)).mono ?_;rintro e w1 ⟨rfl,hb1⟩;have hb:=hA.trans (hb1.mono hA.size);have hT1:=hT0.below hb1;have hL1':=hL0.below hb1;replace kh:=kh.below hb1 kh.lt;have q0:=Blk.n0 kh;have q1:=Blk.n1 kh;have q2:=Blk.n2 kh;have q3:=Blk.n3 kh;have q4:=Blk.n4 kh;clear hT0 hL0 hA hb1;go_wp2_with fail;refine(Km A c H level x y Al cl L 12 w1 hT1 hn.out hns.out hL1' hL1.out).mono ?_;rintro e w2 ⟨rfl,hb2⟩;replace hb:=hb.trans (hb2.mono hb.size);have hT2:=hide (hT1.below hb2);have hL2:=hide (hL1'.below hb2);replace kh:=kh.below hb2 kh.lt;clear hT1 hL1' hb2 q0 q1 q2 q3 q4 hn hns hL1;cases hf:uP H L 12 with
 |false=>
  go_wp2;go_ret;exact⟨rfl,hb⟩
 |true=>
  have hfw:=uQ.1 hf;have hsm:=hide (Gi (by omega) hfw.hist);have hLl:=hfw.facts;have hFF:=hide (show Jl L from⟨by omega,fun f hf=>by have:=hfw.QI f hf;omega⟩);clear hf hfw;have hst:=hide (nL A c H level x y Al cl L w2 hT2.out hsm.out hL2.out hFF.out (hTB.below hb));have hno:=hide (fun e=>NJ (H:=H) (level:=level) (at':=x) (idle:=y) (L:=L) e);have hpv:=hide (fun e=>Cq (H:=H) (level:=level) (at':=x) (idle:=y) (L:=L) e);have hfT:=hide (Gv (H:=H) (level:=level) (a:=x) (i:=y) (L:=L));have hfF:=hide (AV (H:=H) (level:=level) (a:=x) (i:=y) (L:=L));have q0:=Blk.n0 kh;have q1:=Blk.n1 kh;have q2:=Blk.n2 kh;have q3:=Blk.n3 kh;have q4:=Blk.n4 kh;generalize dG H level x y L=r at*;obtain⟨⟨x2,y2⟩,o⟩:=r;obtain⟨said,order,T,F⟩:=o;dsimp only at*;go_wp2_with fail;clear q0 q1 q2 q3 q4;refine Calls.mono hst.out ?_;rintro e w3 ⟨v3,rfl,hv,b3⟩;obtain⟨vo,vt,vf,hq,g1,g2,g3⟩:=hv;dsimp only at hq g1 g2 g3;subst hq;have Sl:Hid (iV order=ay order):=hide rfl;obtain⟨Sm,hfO⟩:=hfT.out;have hFN:=hide Sm;replace hfO:=hide hfO;generalize hOO:ay order=O at*;replace hOO:=hide hOO;obtain⟨Ao,co,rfl⟩:=aU.form g1;obtain⟨At,ct,rfl⟩:=aN.form g2;obtain⟨Af,cf,rfl⟩:=aN.form g3;have wO:=hide (aU.sl g1 (K:=Old w3) (fun g _ h=>h));have wN:=hide (bJ.s g2);have wF:=hide (gW.s g3);clear g1 g2 g3 hst hfT Sm;go_upto_region 8 with fail;obtain⟨X,hX⟩:∃X,(w3.alloc (.cells #[.int .i64 x2,.int .i64 y2] 26)).alloc (.cells #[.int .i64 said,.slice Ao O.length co,.slice At T.length ct,.slice Af F.length cf] 36)=X:=⟨_,rfl⟩;rw[hX];have hba:=aM hX;have k5:=Blk.jr hX;have k6:=Blk.iE hX;have hbx:=b3.trans (hba.mono b3.size);have hT:=hide (hT2.out.below hbx);have hL3:=hide (hL2.out.below hbx);have hO:=hide (aO.below wO.out hba);have hN:=hide (eX.below wN.out hba);have hF:=hide (eU.below wF.out hba);replace kh:=kh.below hbx kh.lt;have hbX:=hb.trans (hbx.mono hb.size);clear hX hba hbx b3 hb wO wN wF hT2 hL2;generalize w3.heap.size=p5 at*;have hq0:=hide (fun W (hW:Below X.heap.size X W)=>(hW.cell (p:=⟨w.heap.size,0,none⟩) kh.lt).trans (kh.cell 0));have hq1:=hide (fun W (hW:Below X.heap.size X W)=>(hW.cell (p:=⟨w.heap.size,1,none⟩) kh.lt).trans (kh.cell 1));have hq2:=hide (fun W (hW:Below X.heap.size X W)=>(hW.cell (p:=⟨w.heap.size,2,none⟩) kh.lt).trans (kh.cell 2));have hq3:=hide (fun W (hW:Below X.heap.size X W)=>(hW.cell (p:=⟨w.heap.size,3,none⟩) kh.lt).trans (kh.cell 3));have hq4:=hide (fun W (hW:Below X.heap.size X W)=>(hW.cell (p:=⟨w.heap.size,4,none⟩) kh.lt).trans (kh.cell 4));have ht0:=hide (fun W (hW:Below X.heap.size X W)=>(hW.cell (p:=⟨p5,0,none⟩) k5.lt).trans (k5.cell 0));have ht1:=hide (fun W (hW:Below X.heap.size X W)=>(hW.cell (p:=⟨p5,1,none⟩) k5.lt).trans (k5.cell 1));have hc0:=hide (fun W (hW:Below X.heap.size X W)=>(hW.cell (p:=⟨p5+1,0,none⟩) k6.lt).trans (k6.cell 0));have hc1:=hide (fun W (hW:Below X.heap.size X W)=>(hW.cell (p:=⟨p5+1,1,none⟩) k6.lt).trans (k6.cell 1));have hc2:=hide (fun W (hW:Below X.heap.size X W)=>(hW.cell (p:=⟨p5+1,2,none⟩) k6.lt).trans (k6.cell 2));have hc3:=hide (fun W (hW:Below X.heap.size X W)=>(hW.cell (p:=⟨p5+1,3,none⟩) k6.lt).trans (k6.cell 3));simp only[gA,gZ,gS]at hq0 hq1 hq2 hq3 hq4 ht0 ht1 hc0 hc1 hc2 hc3;clear kh k5 k6;have q0:=hq0.out X (Below.refl _ _);have q2:=hq2.out X (Below.refl _ _);have q3:=hq3.out X (Below.refl _ _);go_wp2_with fail;clear q0 q2 q3;refine(j6 A c H x y X hT.out hsm.out).mono ?_;rintro e X1 ⟨rfl,hb6⟩;cases hr:jw H x y with
  |false=>
   have hq:=hno.out hr;simp only[Prod.mk.injEq,jv,Say.mk.injEq]at hq;obtain⟨⟨rfl,rfl⟩,rfl,rfl,rfl,rfl⟩:=hq;clear hno hpv hr;have q2:=hq2.out X1 hb6;have q3:=hq3.out X1 hb6;have t0:=ht0.out X1 hb6;have t1:=ht1.out X1 hb6;have c0:=hc0.out X1 hb6;have hbF:=hbX.trans (hb6.mono hbX.size);clear hq0 hq1 hq2 hq3 hq4 ht0 ht1 hc0 hc1 hc2 hc3 hbX;go_wp2;go_ret;exact⟨rfl,hbF⟩
  |true=>
   have hp:=hpv.out hr;have hrH:aA H=true:=by
    unfold jw at hr;simp only[Bool.and_eq_true]at hr;exact hr.1.1.1.1
   clear hno hpv hr;have hok:=hp.ok;have hone:=hp.one;have hgoes:=hide hp.goes;have hsaid:=hide hp.said;dsimp only at hok hone hgoes hsaid;clear hp;have Q5:=hbX.trans (hb6.mono hbX.size);have hsr:=hide (j6 A c H x2 y2 X1 (hT.out.below hb6) hsm.out);rw[hok]at hsr;have q0:=hq0.out X1 hb6;have t0:=ht0.out X1 hb6;have t1:=ht1.out X1 hb6;have hz1:decide ((F.length:Int)>1)=false:=decide_eq_false (by omega);have hz2:decide (1<F.length)=false:=decide_eq_false (by omega);go_wp2_with fail;clear q0 t0 t1;refine hsr.out.mono ?_;rintro e X2 ⟨rfl,hb7⟩;have hb8:=hb6.trans (hb7.mono hb6.size);have Sn:=Q5.trans (hb7.mono Q5.size);clear hsr Q5 hb7 hb6 hok;have c3:=hc3.out X2 hb8;by_cases hF1:F.length=1
   ·obtain⟨f,rfl⟩:=List.length_eq_one_iff.1 hF1;obtain⟨hs1,hs2,hs3⟩:=hgoes.out hF1;subst hs1 hs2;have Sq:=hs3 f (by simp);simp only[List.length_singleton,List.length_cons,List.length_nil,Nat.zero_add]at hc3 c3 hF;obtain⟨bf,off,Ay,cy,rfl,hbK,hd⟩:=eU.at_ hF.out (i:=0) (by simp);simp only[List.getElem_cons_zero,Nat.zero_mul,Nat.add_zero]at hd;have hyl:=hfF.out.2 f (by simp);have hbf:bf<X.heap.size:=hbK;have hw0:=hide (fun W (hW:Below X.heap.size X W)=>(hW.cell (p:=⟨bf,off,none⟩) hbf).trans hd.d0);have hw1:=hide (fun W (hW:Below X.heap.size X W)=>(hW.cell (p:=⟨bf,off+1,none⟩) hbf).trans hd.d1);have hw2:=hide (fun W (hW:Below X.heap.size X W)=>(hW.cell (p:=⟨bf,off+2,none⟩) hbf).trans hd.d2);have hw3:=hide (fun W (hW:Below X.heap.size X W)=>(hW.cell (p:=⟨bf,off+3,none⟩) hbf).trans hd.d3);have hw4:=hide (fun W (hW:Below X.heap.size X W)=>(hW.cell (p:=⟨bf,off+4,none⟩) hbf).trans hd.d4);have hw5:=hide (fun W (hW:Below X.heap.size X W)=>(hW.cell (p:=⟨bf,off+5,none⟩) hbf).trans hd.d5);have hw6:=hide (fun W (hW:Below X.heap.size X W)=>(hW.cell (p:=⟨bf,off+6,none⟩) hbf).trans hd.d6);have hyS:=hide hd.cyc;have hho:=hide (fun W (hW:Below X.heap.size X W)=>(by
     have:=oN A c H level Al cl L f Ay cy W (hT.out.below hW) hsm.out (hL3.out.below hW) (by omega) (aO.below hyS.out hW) hyl;rw[Sq]at this;exact this:
     Calls Tryz.prog 51 #[.agg #[.slice A H.length c],.int .i64 level,.slice Al L.length cl,.agg #[.int .i64 f.c.key,.int .i64 f.c.a,.int .i64 f.c.b,.int .i64 f.kind,.int .i64 f.i,.int .i64 f.j,.slice Ay f.cyc.length cy]] W fun e w'=>e= .returned (.bool true)∧Below W.heap.size W w'))
    clear hd Sq hgoes hsaid hfF hs3 hN hO hF hFN hfO hF1;go_upto_region 13 with fail;clear c3;refine pQ (W0:=X) [qV (.pointer (some ⟨p5+1,0,none⟩)),qV (.int .i64 0),qV (.bool true),qV (.bool true),qV (.pointer (some ⟨p5,1,none⟩)),qV (.int .i64 0),qV (.bool true),qV (.bool true),qV (.bool true),qV (.pointer (some ⟨w.heap.size,0,none⟩)),qV (.agg #[.slice A H.length c]),qV (.pointer (some ⟨w.heap.size,1,none⟩)),qV (.int .i64 level),qV (.pointer (some ⟨w.heap.size,4,none⟩)),qV (.slice Al L.length cl),qV (.pointer (some ⟨p5+1,3,none⟩)),qV (.slice (some ⟨bf,off,none⟩) 1 cf),qV (.pointer (some ⟨bf,off,none⟩)),qV (.agg #[.int .i64 f.c.key,.int .i64 f.c.a,.int .i64 f.c.b,.int .i64 f.kind,.int .i64 f.i,.int .i64 f.j,.slice Ay f.cyc.length cy]),qV (.bool true),qV (.bool true),qV (.bool true)] [0,1,3,7,15,31,63,127,255,511,1023,511,2559,511,8703,511,33279,98815,229887,524287,1048575,2097151] [[],[0],[1],[2],[3],[3,4],[3,5],[3,6],[7],[8],[8,9],[8],[8,11],[8],[8,13],[8],[8,15],[8,16],[8,17],[8,10,12,14,18],[8,19],[20]] (by kernel_rfl) (by kernel_rfl) (by kernel_rfl) (by simp) hb8 ?hstep ?hend;case hstep=>
     intro i o ho vs W hB hd
     match i,ho with
     |0,ho=>
      clear hd;simp only[gZ,gS,Option.some.injEq]at ho;subst ho;simp only[acV,gA,gZ,gS,Act.put,sA,sZ,sS];go_wp2;exact⟨rfl,_,rfl,rfl,hB,Below.refl _ _⟩
     |1,ho=>
      have e0:vs 0= .pointer (some ⟨p5+1,0,none⟩):=hd 0 (by simp);clear hd;simp only[gZ,gS,Option.some.injEq]at ho;subst ho;simp only[acV,gA,gZ,gS,Act.put,sA,sZ,sS];rw[e0];have v0:=hc0.out W hB;go_wp2;exact⟨rfl,_,rfl,rfl,hB,Below.refl _ _⟩
     |2,ho=>
      have e1:vs 1= .int .i64 0:=hd 1 (by simp);clear hd;simp only[gZ,gS,Option.some.injEq]at ho;subst ho;simp only[acV,gA,gZ,gS,Act.put,sA,sZ,sS];rw[e1];go_wp2;exact⟨rfl,_,rfl,rfl,hB,Below.refl _ _⟩
     |3,ho=>
      have e2:vs 2= .bool true:=hd 2 (by simp);clear hd;simp only[gZ,gS,Option.some.injEq]at ho;subst ho;simp only[acV,gA,gZ,gS,Act.put,sA,sZ,sS];rw[e2];go_wp2;exact⟨rfl,_,rfl,rfl,hB,Below.refl _ _⟩
     |4,ho=>
      have e3:vs 3= .bool true:=hd 3 (by simp);clear hd;simp only[gZ,gS,Option.some.injEq]at ho;subst ho;simp only[acV,gA,gZ,gS,Act.put,sA,sZ,sS];rw[e3];go_wp2;exact⟨rfl,_,rfl,rfl,hB,Below.refl _ _⟩
     |5,ho=>
      have e3:vs 3= .bool true:=hd 3 (by simp);have e4:vs 4= .pointer (some ⟨p5,1,none⟩):=hd 4 (by simp);clear hd;simp only[gZ,gS,Option.some.injEq]at ho;subst ho;simp only[acV,gA,gZ,gS,Act.put,sA,sZ,sS];rw[e3,e4];have v0:=ht1.out W hB;go_wp2;exact⟨rfl,_,rfl,rfl,hB,Below.refl _ _⟩
     |6,ho=>
      have e3:vs 3= .bool true:=hd 3 (by simp);have e5:vs 5= .int .i64 0:=hd 5 (by simp);clear hd;simp only[gZ,gS,Option.some.injEq]at ho;subst ho;simp only[acV,gA,gZ,gS,Act.put,sA,sZ,sS];rw[e3,e5];go_wp2;exact⟨rfl,_,rfl,rfl,hB,Below.refl _ _⟩
     |7,ho=>
      have e3:vs 3= .bool true:=hd 3 (by simp);have e6:vs 6= .bool true:=hd 6 (by simp);clear hd;simp only[gZ,gS,Option.some.injEq]at ho;subst ho;simp only[acV,gA,gZ,gS,Act.put,sA,sZ,sS];rw[e3,e6];go_wp2;exact⟨rfl,_,rfl,rfl,hB,Below.refl _ _⟩
     |8,ho=>
      have e7:vs 7= .bool true:=hd 7 (by simp);clear hd;simp only[gZ,gS,Option.some.injEq]at ho;subst ho;simp only[acV,gA,gZ,gS,Act.put,sA,sZ,sS];rw[e7];go_wp2;exact⟨rfl,_,rfl,rfl,hB,Below.refl _ _⟩
     |9,ho=>
      have e8:vs 8= .bool true:=hd 8 (by simp);clear hd;simp only[gZ,gS,Option.some.injEq]at ho;subst ho;simp only[acV,gA,gZ,gS,Act.put,sA,sZ,sS];rw[e8];go_wp2;exact⟨rfl,_,rfl,rfl,hB,Below.refl _ _⟩
     |10,ho=>
      have e8:vs 8= .bool true:=hd 8 (by simp);have e9:vs 9= .pointer (some ⟨w.heap.size,0,none⟩):=hd 9 (by simp);clear hd;simp only[gZ,gS,Option.some.injEq]at ho;subst ho;simp only[acV,gA,gZ,gS,Act.put,sA,sZ,sS];rw[e8,e9];have v0:=hq0.out W hB;go_wp2;exact⟨rfl,_,rfl,rfl,hB,Below.refl _ _⟩
     |11,ho=>
      have e8:vs 8= .bool true:=hd 8 (by simp);clear hd;simp only[gZ,gS,Option.some.injEq]at ho;subst ho;simp only[acV,gA,gZ,gS,Act.put,sA,sZ,sS];rw[e8];go_wp2;exact⟨rfl,_,rfl,rfl,hB,Below.refl _ _⟩
     |12,ho=>
      have e8:vs 8= .bool true:=hd 8 (by simp);have e11:vs 11= .pointer (some ⟨w.heap.size,1,none⟩):=hd 11 (by simp);clear hd;simp only[gZ,gS,Option.some.injEq]at ho;subst ho;simp only[acV,gA,gZ,gS,Act.put,sA,sZ,sS];rw[e8,e11];have v0:=hq1.out W hB;go_wp2;exact⟨rfl,_,rfl,rfl,hB,Below.refl _ _⟩
     |13,ho=>
      have e8:vs 8= .bool true:=hd 8 (by simp);clear hd;simp only[gZ,gS,Option.some.injEq]at ho;subst ho;simp only[acV,gA,gZ,gS,Act.put,sA,sZ,sS];rw[e8];go_wp2;exact⟨rfl,_,rfl,rfl,hB,Below.refl _ _⟩
     |14,ho=>
      have e8:vs 8= .bool true:=hd 8 (by simp);have e13:vs 13= .pointer (some ⟨w.heap.size,4,none⟩):=hd 13 (by simp);clear hd;simp only[gZ,gS,Option.some.injEq]at ho;subst ho;simp only[acV,gA,gZ,gS,Act.put,sA,sZ,sS];rw[e8,e13];have v0:=hq4.out W hB;go_wp2;exact⟨rfl,_,rfl,rfl,hB,Below.refl _ _⟩
     |15,ho=>
      have e8:vs 8= .bool true:=hd 8 (by simp);clear hd;simp only[gZ,gS,Option.some.injEq]at ho;subst ho;simp only[acV,gA,gZ,gS,Act.put,sA,sZ,sS];rw[e8];go_wp2;exact⟨rfl,_,rfl,rfl,hB,Below.refl _ _⟩
     |16,ho=>
      have e8:vs 8= .bool true:=hd 8 (by simp);have e15:vs 15= .pointer (some ⟨p5+1,3,none⟩):=hd 15 (by simp);clear hd;simp only[gZ,gS,Option.some.injEq]at ho;subst ho;simp only[acV,gA,gZ,gS,Act.put,sA,sZ,sS];rw[e8,e15];have v0:=hc3.out W hB;go_wp2;exact⟨rfl,_,rfl,rfl,hB,Below.refl _ _⟩
     |17,ho=>
      have e8:vs 8= .bool true:=hd 8 (by simp);have e16:vs 16= .slice (some ⟨bf,off,none⟩) 1 cf:=hd 16 (by simp);clear hd;simp only[gZ,gS,Option.some.injEq]at ho;subst ho;simp only[acV,gA,gZ,gS,Act.put,sA,sZ,sS];rw[e8,e16];go_wp2;exact⟨rfl,_,rfl,rfl,hB,Below.refl _ _⟩
     |18,ho=>
      have e8:vs 8= .bool true:=hd 8 (by simp);have e17:vs 17= .pointer (some ⟨bf,off,none⟩):=hd 17 (by simp);clear hd;simp only[gZ,gS,Option.some.injEq]at ho;subst ho;simp only[acV,gA,gZ,gS,Act.put,sA,sZ,sS];rw[e8,e17];have w0:=hw0.out W hB;have w1:=hw1.out W hB;have w2:=hw2.out W hB;have w3:=hw3.out W hB;have w4:=hw4.out W hB;have w5:=hw5.out W hB;have w6:=hw6.out W hB;go_wp2;exact⟨rfl,_,rfl,rfl,hB,Below.refl _ _⟩
     |19,ho=>
      have e8:vs 8= .bool true:=hd 8 (by simp);have e10:vs 10= .agg #[.slice A H.length c]:=hd 10 (by simp);have e12:vs 12= .int .i64 level:=hd 12 (by simp);have e14:vs 14= .slice Al L.length cl:=hd 14 (by simp);have e18:vs 18= .agg #[.int .i64 f.c.key,.int .i64 f.c.a,.int .i64 f.c.b,.int .i64 f.kind,.int .i64 f.i,.int .i64 f.j,.slice Ay f.cyc.length cy]:=hd 18 (by simp);clear hd;simp only[gZ,gS,Option.some.injEq]at ho;subst ho;simp only[acV,gA,gZ,gS,Act.put,sA,sZ,sS];rw[e8,e10,e12,e14,e18];go_wp2_with fail;refine(hho.out W hB).mono ?_;rintro e W2 ⟨rfl,b3⟩;go_wp2;exact⟨rfl,_,rfl,rfl,hB.trans (b3.mono hB.size),b3⟩
     |20,ho=>
      have e8:vs 8= .bool true:=hd 8 (by simp);have e19:vs 19= .bool true:=hd 19 (by simp);clear hd;simp only[gZ,gS,Option.some.injEq]at ho;subst ho;simp only[acV,gA,gZ,gS,Act.put,sA,sZ,sS];rw[e8,e19];go_wp2;exact⟨rfl,_,rfl,rfl,hB,Below.refl _ _⟩
     |21,ho=>
      have e20:vs 20= .bool true:=hd 20 (by simp);clear hd;simp only[gZ,gS,Option.some.injEq]at ho;subst ho;simp only[acV,gA,gZ,gS,Act.put,sA,sZ,sS];rw[e20];go_wp2;exact⟨rfl,_,rfl,rfl,hB,Below.refl _ _⟩
     |i+22,ho=>simp at ho
    case hend=>
     intro vs W hB hd;have eN:vs 21= .bool true:=hd 21 (by simp);have hbF:=hbX.trans (hB.mono hbX.size);clear hd;simp only[acV,gA,gZ,gS,Act.put,sA,sZ,sS,List.length_cons,List.length_nil,Nat.reduceAdd];rw[eN];go_wp2;go_ret;exact⟨rfl,hbF⟩
   ·have hF0:F=[]:=List.eq_nil_of_length_eq_zero (by omega);subst hF0;have hz3:((0:Int)==1)=false:=rfl;simp only[List.length_nil]at c3 hc3;have c0:=hc0.out X2 hb8;clear hgoes hfF hF1;rcases hsaid.out with⟨hs1,hy⟩|⟨hs1,hy⟩|⟨hs1,hO0,hT0⟩
    ·subst hs1;rw[Sl.out]at hy;have hcy:=hide (KZ hrH hy);clear hsaid hy hFN hF hN;go_upto_region 16 with fail;clear c0 c3;have Uf:=hide (fun W (hW:Below X.heap.size X W)=>KX A c H level Ao co O W (hT.out.below hW) hsm.out (aO.below hO.out hW) hfO.out);have hOl:Hid ((if level=0 then O else[]).length≤1000000):=hide (by split;exact hfO.out;exact Nat.zero_le _);have hRl:Hid (NV (if level=0 then[]else gJ H O)):=hide (by split;exact⟨Nat.zero_le _,by simp⟩;exact Ob hfO.out);generalize(if level=0 then O else[])=O1 at*;generalize(if level=0 then[]else gJ H O)=R1 at*;have Q6:=hide (fun W (hW:Below X.heap.size X W) Ax cx Aq cq Ay cy g1 g2 g3=>(by
      have:=BA A c H level true Ax cx O1 Aq cq R1 Ay cy [] W (hT.out.below hW) hsm.out g1 hOl.out g2 hRl.out g3 (Nat.zero_le _) (by intro n hn;cases hn);rw[hcy.out]at this;exact this:
      Calls Tryz.prog 45 #[.agg #[.slice A H.length c],.agg #[.int .i64 level,.bool true,.slice Ax O1.length cx,.slice Aq R1.length cq,.slice Ay 0 cy]] W fun e w'=>e= .returned (.bool true)∧Below W.heap.size W w'))
     clear hcy;refine pQ (W0:=X) [qV (.pointer (some ⟨w.heap.size,0,none⟩)),qV (.agg #[.slice A H.length c]),qV (.pointer (some ⟨w.heap.size,0,none⟩)),qV (.agg #[.slice A H.length c]),qV (.pointer (some ⟨w.heap.size,1,none⟩)),qV (.int .i64 level),qV (.pointer (some ⟨p5+1,1,none⟩)),qV (.slice Ao O.length co),Io level true O1 R1 [],qV (.bool true),qV (.bool true)] [0,1,0,4,0,16,0,64,252,511,1023] [[],[0],[],[2],[],[4],[],[6],[3,5,7],[1,8],[9]] (by kernel_rfl) (by kernel_rfl) (by kernel_rfl) (by simp) hb8 ?hstep ?hend;case hstep=>
      intro i o ho vs W hB hd
      match i,ho with
      |0,ho=>
       clear hd;simp only[gZ,gS,Option.some.injEq]at ho;subst ho;simp only[acV,gA,gZ,gS,Act.put,sA,sZ,sS];go_wp2;exact⟨rfl,_,rfl,rfl,hB,Below.refl _ _⟩
      |1,ho=>
       have e0:vs 0= .pointer (some ⟨w.heap.size,0,none⟩):=hd 0 (by simp);clear hd;simp only[gZ,gS,Option.some.injEq]at ho;subst ho;simp only[acV,gA,gZ,gS,Act.put,sA,sZ,sS];rw[e0];have v0:=hq0.out W hB;go_wp2;exact⟨rfl,_,rfl,rfl,hB,Below.refl _ _⟩
      |2,ho=>
       clear hd;simp only[gZ,gS,Option.some.injEq]at ho;subst ho;simp only[acV,gA,gZ,gS,Act.put,sA,sZ,sS];go_wp2;exact⟨rfl,_,rfl,rfl,hB,Below.refl _ _⟩
      |3,ho=>
       have e2:vs 2= .pointer (some ⟨w.heap.size,0,none⟩):=hd 2 (by simp);clear hd;simp only[gZ,gS,Option.some.injEq]at ho;subst ho;simp only[acV,gA,gZ,gS,Act.put,sA,sZ,sS];rw[e2];have v0:=hq0.out W hB;go_wp2;exact⟨rfl,_,rfl,rfl,hB,Below.refl _ _⟩
      |4,ho=>
       clear hd;simp only[gZ,gS,Option.some.injEq]at ho;subst ho;simp only[acV,gA,gZ,gS,Act.put,sA,sZ,sS];go_wp2;exact⟨rfl,_,rfl,rfl,hB,Below.refl _ _⟩
      |5,ho=>
       have e4:vs 4= .pointer (some ⟨w.heap.size,1,none⟩):=hd 4 (by simp);clear hd;simp only[gZ,gS,Option.some.injEq]at ho;subst ho;simp only[acV,gA,gZ,gS,Act.put,sA,sZ,sS];rw[e4];have v0:=hq1.out W hB;go_wp2;exact⟨rfl,_,rfl,rfl,hB,Below.refl _ _⟩
      |6,ho=>
       clear hd;simp only[gZ,gS,Option.some.injEq]at ho;subst ho;simp only[acV,gA,gZ,gS,Act.put,sA,sZ,sS];go_wp2;exact⟨rfl,_,rfl,rfl,hB,Below.refl _ _⟩
      |7,ho=>
       have e6:vs 6= .pointer (some ⟨p5+1,1,none⟩):=hd 6 (by simp);clear hd;simp only[gZ,gS,Option.some.injEq]at ho;subst ho;simp only[acV,gA,gZ,gS,Act.put,sA,sZ,sS];rw[e6];have v0:=hc1.out W hB;go_wp2;exact⟨rfl,_,rfl,rfl,hB,Below.refl _ _⟩
      |8,ho=>
       have e3:vs 3= .agg #[.slice A H.length c]:=hd 3 (by simp);have e5:vs 5= .int .i64 level:=hd 5 (by simp);have e7:vs 7= .slice Ao O.length co:=hd 7 (by simp);clear hd;simp only[gZ,gS,Option.some.injEq]at ho;subst ho;simp only[acV,gA,gZ,gS,Act.put,sA,sZ,sS];rw[e3,e5,e7];go_wp2_with fail;refine(Uf.out W hB).mono ?_;rintro e W2 ⟨Ax,cx,Aq,cq,Ay,cy,rfl,g1,g2,g3,b3⟩;replace g1:=hide g1;replace g2:=hide g2;replace g3:=hide g3;go_wp2;exact⟨rfl,_,rfl,⟨Ax,cx,Aq,cq,Ay,cy,rfl,g1.out,g2.out,g3.out⟩,hB.trans (b3.mono hB.size),b3⟩
      |9,ho=>
       have e1:vs 1= .agg #[.slice A H.length c]:=hd 1 (by simp);have h8:(Io level true O1 R1 []).p (vs 8) W:=hd 8 (by simp);clear hd;simp only[gZ,gS,Option.some.injEq]at ho;subst ho;simp only[acV,gA,gZ,gS,Act.put,sA,sZ,sS];rw[e1];obtain⟨Ax,cx,Aq,cq,Ay,cy,e8,g1,g2,g3⟩:=h8;rw[e8];have hck:=hide (Q6.out W hB Ax cx Aq cq Ay cy g1 g2 g3);clear g1 g2 g3;go_wp2_with fail;refine hck.out.mono ?_;rintro e W2 ⟨rfl,b3⟩;go_wp2;exact⟨rfl,_,rfl,rfl,hB.trans (b3.mono hB.size),b3⟩
      |10,ho=>
       have e9:vs 9= .bool true:=hd 9 (by simp);clear hd;simp only[gZ,gS,Option.some.injEq]at ho;subst ho;simp only[acV,gA,gZ,gS,Act.put,sA,sZ,sS];rw[e9];go_wp2;exact⟨rfl,_,rfl,rfl,hB,Below.refl _ _⟩
      |i+11,ho=>simp at ho
     case hend=>
      intro vs W hB hd;have eN:vs 10= .bool true:=hd 10 (by simp);have hbF:=hbX.trans (hB.mono hbX.size);clear hd;simp only[acV,gA,gZ,gS,Act.put,sA,sZ,sS,List.length_cons,List.length_nil,Nat.reduceAdd];rw[eN];go_wp2;go_ret;exact⟨rfl,hbF⟩
    ·subst hs1;have hcy:Hid (zf H level false [] [] T=true):=hide (by unfold zf;rw[if_neg (by decide),hy];rfl);clear hsaid hy hF hO;go_upto_region 18 with fail;clear c0 c3;have Q6:=hide (fun W (hW:Below X.heap.size X W) Ax cx Aq cq Ay cy g1 g2 g3=>(by
      have:=BA A c H level false Ax cx [] Aq cq [] Ay cy T W (hT.out.below hW) hsm.out g1 (Nat.zero_le _) g2 ⟨Nat.zero_le _,by simp⟩ g3 hFN.out.1 hFN.out.2;rw[hcy.out]at this;exact this:
      Calls Tryz.prog 45 #[.agg #[.slice A H.length c],.agg #[.int .i64 level,.bool false,.slice Ax 0 cx,.slice Aq 0 cq,.slice Ay T.length cy]] W fun e w'=>e= .returned (.bool true)∧Below W.heap.size W w'))
     clear hcy;refine pQ (W0:=X) [qV (.pointer (some ⟨w.heap.size,0,none⟩)),qV (.agg #[.slice A H.length c]),qV (.pointer (some ⟨w.heap.size,1,none⟩)),qV (.int .i64 level),qV (.pointer (some ⟨p5+1,2,none⟩)),qV (.slice At T.length ct),Io level false [] [] T,qV (.bool true),qV (.bool true)] [0,1,0,4,0,16,60,127,255] [[],[0],[],[2],[],[4],[3,5],[1,6],[7]] (by kernel_rfl) (by kernel_rfl) (by kernel_rfl) (by simp) hb8 ?hstep ?hend;case hstep=>
      intro i o ho vs W hB hd
      match i,ho with
      |0,ho=>
       clear hd;simp only[gZ,gS,Option.some.injEq]at ho;subst ho;simp only[acV,gA,gZ,gS,Act.put,sA,sZ,sS];go_wp2;exact⟨rfl,_,rfl,rfl,hB,Below.refl _ _⟩
      |1,ho=>
       have e0:vs 0= .pointer (some ⟨w.heap.size,0,none⟩):=hd 0 (by simp);clear hd;simp only[gZ,gS,Option.some.injEq]at ho;subst ho;simp only[acV,gA,gZ,gS,Act.put,sA,sZ,sS];rw[e0];have v0:=hq0.out W hB;go_wp2;exact⟨rfl,_,rfl,rfl,hB,Below.refl _ _⟩
      |2,ho=>
       clear hd;simp only[gZ,gS,Option.some.injEq]at ho;subst ho;simp only[acV,gA,gZ,gS,Act.put,sA,sZ,sS];go_wp2;exact⟨rfl,_,rfl,rfl,hB,Below.refl _ _⟩
      |3,ho=>
       have e2:vs 2= .pointer (some ⟨w.heap.size,1,none⟩):=hd 2 (by simp);clear hd;simp only[gZ,gS,Option.some.injEq]at ho;subst ho;simp only[acV,gA,gZ,gS,Act.put,sA,sZ,sS];rw[e2];have v0:=hq1.out W hB;go_wp2;exact⟨rfl,_,rfl,rfl,hB,Below.refl _ _⟩
      |4,ho=>
       clear hd;simp only[gZ,gS,Option.some.injEq]at ho;subst ho;simp only[acV,gA,gZ,gS,Act.put,sA,sZ,sS];go_wp2;exact⟨rfl,_,rfl,rfl,hB,Below.refl _ _⟩
      |5,ho=>
       have e4:vs 4= .pointer (some ⟨p5+1,2,none⟩):=hd 4 (by simp);clear hd;simp only[gZ,gS,Option.some.injEq]at ho;subst ho;simp only[acV,gA,gZ,gS,Act.put,sA,sZ,sS];rw[e4];have v0:=hc2.out W hB;go_wp2;exact⟨rfl,_,rfl,rfl,hB,Below.refl _ _⟩
      |6,ho=>
       have e3:vs 3= .int .i64 level:=hd 3 (by simp);have e5:vs 5= .slice At T.length ct:=hd 5 (by simp);clear hd;simp only[gZ,gS,Option.some.injEq]at ho;subst ho;simp only[acV,gA,gZ,gS,Act.put,sA,sZ,sS];rw[e3,e5];go_wp2_with fail;refine(KY level At ct T W (eX.below hN.out hB) hFN.out).mono ?_;rintro e W2 ⟨Ax,cx,Aq,cq,Ay,cy,rfl,g1,g2,g3,b3⟩;replace g1:=hide g1;replace g2:=hide g2;replace g3:=hide g3;go_wp2;exact⟨rfl,_,rfl,⟨Ax,cx,Aq,cq,Ay,cy,rfl,g1.out,g2.out,g3.out⟩,hB.trans (b3.mono hB.size),b3⟩
      |7,ho=>
       have e1:vs 1= .agg #[.slice A H.length c]:=hd 1 (by simp);have h6:(Io level false [] [] T).p (vs 6) W:=hd 6 (by simp);clear hd;simp only[gZ,gS,Option.some.injEq]at ho;subst ho;simp only[acV,gA,gZ,gS,Act.put,sA,sZ,sS];rw[e1];obtain⟨Ax,cx,Aq,cq,Ay,cy,e6,g1,g2,g3⟩:=h6;rw[e6];have hck:=hide (Q6.out W hB Ax cx Aq cq Ay cy g1 g2 g3);clear g1 g2 g3;go_wp2_with fail;refine hck.out.mono ?_;rintro e W2 ⟨rfl,b3⟩;go_wp2;exact⟨rfl,_,rfl,rfl,hB.trans (b3.mono hB.size),b3⟩
      |8,ho=>
       have e7:vs 7= .bool true:=hd 7 (by simp);clear hd;simp only[gZ,gS,Option.some.injEq]at ho;subst ho;simp only[acV,gA,gZ,gS,Act.put,sA,sZ,sS];rw[e7];go_wp2;exact⟨rfl,_,rfl,rfl,hB,Below.refl _ _⟩
      |i+9,ho=>simp at ho
     case hend=>
      intro vs W hB hd;have eN:vs 8= .bool true:=hd 8 (by simp);have hbF:=hbX.trans (hB.mono hbX.size);clear hd;simp only[acV,gA,gZ,gS,Act.put,sA,sZ,sS,List.length_cons,List.length_nil,Nat.reduceAdd];rw[eN];go_wp2;go_ret;exact⟨rfl,hbF⟩
    ·subst hT0;obtain rfl:O=[]:=(by rw[←hOO.out,hO0];rfl);have c1:=hc1.out X2 hb8;have c2:=hc2.out X2 hb8;simp only[List.length_nil]at c1 c2;clear hsaid hO0 hOO Sl hF hN hO hFN hfO hT hL3 hq0 hq1 hq2 hq3 hq4 ht0 ht1 hc0 hc1 hc2 hc3;rcases hs1 with rfl|rfl
     ·go_wp2;go_ret;exact⟨rfl,Sn⟩
     ·go_wp2;go_ret;exact⟨rfl,Sn⟩
end Go.Proofs.YtfhnamomiaekdaaGreatDoor
