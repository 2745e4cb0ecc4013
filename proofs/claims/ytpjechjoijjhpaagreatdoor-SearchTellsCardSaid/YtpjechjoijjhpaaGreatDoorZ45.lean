/-
  Walks: SearchTells.
-/
import Derived.Test.YtpjechjoijjhpaaGreatDoorZ25
import Derived.Test.YtpjechjoijjhpaaGreatDoorZ26
import Derived.Test.YtpjechjoijjhpaaGreatDoorZ29
import Derived.Test.YtpjechjoijjhpaaGreatDoorZ43
import Derived.Test.YtpjechjoijjhpaaGreatDoorZ44
import Derived.Test.YtpjechjoijjhpaaGreatDoorZ31
import Derived.Test.YtpjechjoijjhpaaGreatDoorZ39
set_option linter.unusedVariables false
set_option linter.unusedSimpArgs false
namespace Go.Proofs.YtpjechjoijjhpaaGreatDoor
open Go.RowKit Go.Inq
set_option maxHeartbeats 16000000
attribute [local go_sem↓] Go.wp_at_zero Go.wp_at_succ
def Vb(o:Say):Wq:=⟨fun v W=>uT W v o,fun _ _ _ h hb=>h.below hb⟩
def qCh(Q:List Cho):Wq:=⟨fun v W=>∃A c,v= .slice A Q.length c∧aV W (Old W) (.slice A Q.length c) Q,fun v W W' h hb=>by
 obtain⟨A,c,h1,h2⟩:=h;exact⟨A,c,h1,aV.below h2 hb⟩⟩
theorem C8{H:List Txn}(hr:aG H=true){level:Int}{L:List Fct}:∀(r:List Mk) (tree:List Nod),jU tree→(∀m∈r,jU m.done)→
 (dG H level L r tree).2.tree.length≤2*L.length+(bJ r+tree.length)∧(dG H level L r tree).2.facts=[]
 |[],tree,h,_=>by
  obtain⟨g1,g2⟩:=J8 hr (level:=level) (L:=L) h;exact⟨by show(fU _ _ _ _).length≤_;rw[g2];omega,rfl⟩
 |m::r,tree,h,hm=>by
  rw[kK];unfold dG;split
  ·have:=C8 hr (level:=level) (L:=L) r (⟨m.c,[]⟩::(m.done++tree)) (by
    intro n hn;simp only[List.mem_cons,List.mem_append]at hn;rcases hn with rfl|hn|hn
    ·exact Nat.zero_le _
    ·exact hm m (List.mem_cons_self ..) n hn
    ·exact h n hn) (fun x hx=>hm x (List.mem_cons_of_mem _ hx))
   exact⟨Nat.le_trans this.1 (by simp;omega),this.2⟩
  ·exact⟨Nat.zero_le _,rfl⟩
theorem Gp{H:List Txn}{level:Int}{L:List Fct}{path:List Mk}(h:∀m∈path,jU m.done):
 (dO H level L path).2.tree.length≤2*L.length+(bJ path+1)∧(dO H level L path).2.facts=[]:=by
 unfold dO;split
 ·rename_i hg;have hr:=(gQ.1 (dP (iB.1 hg).uf)).1;dsimp only;split
  ·have:=C8 hr (level:=level) (L:=L) path.reverse [⟨dA,iL H level (ay L++aK path)⟩] (by
    intro n hn;rw[List.mem_singleton]at hn;subst hn;exact mH hr _ _) (fun m hm=>h m (List.mem_reverse.1 hm))
   rw[qM,List.length_singleton]at this;exact this
  ·split<;>exact⟨Nat.zero_le _,rfl⟩
 ·exact⟨Nat.zero_le _,rfl⟩
def qMk(P:List Mk):Wq:=⟨fun v W=>∃A c,v= .slice A P.length c∧MkS W (Old W) (.slice A P.length c) P,fun v W W' h hb=>by
 obtain⟨A,c,h1,h2⟩:=h;exact⟨A,c,h1,h2.below hb⟩⟩
set_option maxRecDepth 100000 in
theorem yt(A:Option Addr)(c:Nat)(H:List Txn)(level:Int)(Al:Option Addr)(cl:Nat)(L:List Fct)(Ap:Option Addr)(cp:Nat)(path:List Mk)(w:World)(h:aC w (Old w) (.slice A H.length c) H)(hn:H.length≤maxLen)(hns:∀t∈H,t.writes.length≤maxLen∧t.reads.length≤maxLen)(hL:bM w (Old w) (.slice Al L.length cl) L)(hL1:L.length≤maxLen)(hP:MkS w (Old w) (.slice Ap path.length cp) path)(hP1:path.length≤maxLen)(hTB:jl w):
 Calls Tryz.prog 3 #[.agg #[.slice A H.length c,.int .i64 level,.slice Al L.length cl,.slice Ap path.length cp]] w fun e w'=>e= .returned (.bool true)∧Below w.heap.size w w':=by
 obtain⟨W0,hW0⟩:∃W0,w.alloc (.cells #[.slice A H.length c,.int .i64 level,.slice Al L.length cl,.slice Ap path.length cp] 28)=W0:=⟨_,rfl⟩;have hA:=ah (Below.refl w.heap.size w) hW0 (Nat.le_refl _);have kh:=Blk.newEq hW0;have hT0:=h.below hA;have hL0:=hL.below hA;have hP0:=hP.below hA;replace hn:=hide hn;replace hns:=hide hns;replace h:=hide h;replace hL:=hide hL;replace hL1:=hide hL1;replace hP:=hide hP;replace hP1:=hide hP1;go_enter Tryz.func3,Tryz.ntmps3;go_wp2_with fail;clear hW0;refine(FT W0 (hTB.below hA)).mono ?_;rintro e w1 ⟨rfl,hb1⟩;have hb:=hA.trans (hb1.mono hA.size);have hT1:=hT0.below hb1;have hL1':=hL0.below hb1;have TD:=hP0.below hb1;replace kh:=kh.below hb1 kh.lt;have q0:=Blk.n0 kh;have q1:=Blk.n1 kh;have q2:=Blk.n2 kh;have q3:=Blk.n3 kh;clear hT0 hL0 hP0 hA hb1;go_wp2_with fail;refine(LU A c H level Al cl L Ap cp path 6 w1 hT1 hn.out hns.out hL1' hL1.out TD hP1.out).mono ?_;rintro e w2 ⟨rfl,hb2⟩;replace hb:=hb.trans (hb2.mono hb.size);have hT2:=hide (hT1.below hb2);have hL2:=hide (hL1'.below hb2);have hP2:=hide (TD.below hb2);replace kh:=kh.below hb2 kh.lt;clear hT1 hL1' TD hb2 q0 q1 q2 q3 hn hns hL1 hP1;cases hf:wE H L path 6 with
 |false=>
  go_wp2;go_ret;exact⟨rfl,hb⟩
 |true=>
  have hfw:=wG.1 hf;have hsm:=hide (IQ (by omega) hfw.hist);have hLl:=hfw.facts;have hPl:=hfw.len;have hdn:=hide hfw.done;have hFF:=hide hfw.WE;have hFM:=hide hfw.WC;have hfn:=hide (show∀m∈path,tJ m.done from fun m hm=>hFM.out.done hm);clear hf hfw;have Vd:=hide (fun W (hW:Below w2.heap.size w2 W)=>nZ A c H level Al cl L Ap cp path W (hT2.out.below hW) hsm.out (hL2.out.below hW) hFF.out (hP2.out.below hW) hFM.out (hTB.below (hb.trans (hW.mono hb.size))));have P5:=hide (fun W (hW:Below w2.heap.size w2 W) A' c' A'' c'' (hF':bM W (Old W) (.slice A' L.length c') L) (hP':MkS W (Old W) (.slice A'' path.length c'') path) (hM':MQ path)=>Gn A c H level A' c' L A'' c'' path W.heap.size W (hT2.out.below hW) hsm.out hF' hFF.out (by omega) (Nat.le_refl _) hP' hM');have hsz:=CQ hdn.out;have hFw:Hid (MQ path):=hide ⟨by omega,by omega,fun m hm n hn=>hFM.out.2 m hm n hn⟩;have hfT:=hide (IY (H:=H) (level:=level) (L:=L) (path:=path) hFM.out.2 hFM.out.1);have hfP:=hide (Ch (H:=H) (level:=level) (L:=L) (path:=path) hFM.out.2);have hfS:=hide (Gp (H:=H) (level:=level) (L:=L) (path:=path) hFM.out.2);have q0:=Blk.n0 kh;have q1:=Blk.n1 kh;have q2:=Blk.n2 kh;have q3:=Blk.n3 kh;clear h hL hP;go_wp2_with fail;clear q0 q1 q2 q3;refine Calls.mono (xP Ap cp path w2 hP2.out (by omega) (fun m hm=>by have:=hdn.out m hm;omega)) ?_;rintro e w3 ⟨Ar,cr,rfl,hr3,b3⟩;have hb3:=hb.trans (b3.mono hb.size);replace kh:=kh.below b3 kh.lt;have Ve:=hide hr3;clear hr3;have q0:=Blk.n0 kh;have q1:=Blk.n1 kh;have q2:=Blk.n2 kh;have q3:=Blk.n3 kh;go_wp2_with fail;clear q0 q1 q2 q3;refine Calls.mono (xE (Old w3) Al cl L w3 (fun _ h=>h) (hL2.out.below b3) (by omega)) ?_;rintro e w4 ⟨Af,cf,M,rfl,ho4,hc4,b4⟩;have hl4:=hide (iI.s (K':=Old w4) hc4 ho4 (Agree.below b4 fun b h=>h) (fun b h=>Nat.lt_of_lt_of_le h b4.size) fun g hg=>(World.ownsRow.lt ho4 g hg).2);have hr4:=hide (MkS.below Ve.out b4);have b24:=b3.trans (b4.mono b3.size);have hb4:=hb3.trans (b4.mono hb3.size);replace kh:=kh.below b4 kh.lt;clear ho4 hc4 b4 b3 hb3 Ve;have hst:=hide (Vd.out w4 b24);clear Vd;have q0:=Blk.n0 kh;have q1:=Blk.n1 kh;have q2:=Blk.n2 kh;have q3:=Blk.n3 kh;obtain⟨r,hrq⟩:∃r,dO H level L path=r:=⟨_,rfl⟩;rw[hrq]at hst P5 hfT hfP hfS;clear hrq;obtain⟨a,o⟩:=r;obtain⟨said,order,T,F⟩:=o;dsimp only at hst P5 hfT hfP hfS;have hal:Hid (a.length≤1000000):=hide (by have:=hfP.out.1;have:=tX (p:=a);omega);have had:Hid (∀m∈a,m.done.length≤1000000):=hide (fun m hm=>by have:=hfP.out.1;have:=vL hm;omega);have hfa:Hid (∀m∈a,tJ m.done):=hide (fun m hm=>⟨by have:=had.out m hm;omega,hfP.out.2 m hm⟩);have hTl:Hid (T.length≤1000000):=hide (by have:=hfS.out.1;omega);obtain rfl:=hfS.out.2;have hFl:Hid (([]:List Fct).length≤1000000):=hide (by simp);have hfit:Hid (UC ⟨said,order,T,[]⟩):=hide ⟨by have:=hfT.out.2;rwa[aR]at this,hfT.out.1,⟨Nat.zero_le _,by simp⟩⟩;clear hfT hfP hfS;go_wp2_with fail;clear q0 q1 q2 q3;refine Calls.mono hst.out ?_;rintro e w5 ⟨vp,v5,rfl,hva,hv,b5⟩;obtain⟨vo,vt,vf,hq,g1,g2,g3⟩:=hv;dsimp only at hva hq g1 g2 g3;subst hq;obtain⟨O,hOO⟩:∃O,au order=O:=⟨_,rfl⟩;rw[hOO]at g1;replace hOO:=hide hOO;obtain⟨Aa,ca,rfl⟩:=aJ.form hva;obtain⟨Ao,co,rfl⟩:=bA.form g1;obtain⟨At,ct,rfl⟩:=aJ.form g2;obtain⟨Az,cz,rfl⟩:=aJ.form g3;have wA:=hide (MkO.s hva);have wO:=hide (bA.sl g1 (K:=Old w5) (fun g _ h=>h));have wN:=hide (dH.s g2);have wF:=hide (qc.s g3);clear hva g1 g2 g3 hst;obtain⟨F,hFe⟩:∃F:List Fct,[]=F:=⟨_,rfl⟩;rw[hFe]at wF hFl hfit P5⊢;clear hFe;go_upto_region 10 with fail;obtain⟨X,hX⟩:∃X,w5.alloc (.cells #[.int .i64 said,.slice Ao O.length co,.slice At T.length ct,.slice Az F.length cz] 38)=X:=⟨_,rfl⟩;rw[hX];have hba:=ah (Below.refl w5.heap.size w5) hX (Nat.le_refl _);have k6:=Blk.newEq hX;have hbx:=b5.trans (hba.mono b5.size);have b2X:=b24.trans (hbx.mono b24.size);have hbX:=hb4.trans (hbx.mono hb4.size);have hSA:Hid (uT X (.agg #[.int .i64 said,.slice Ao O.length co,.slice At T.length ct,.slice Az F.length cz]) ⟨said,order,T,F⟩):=hide ⟨Ao,co,At,ct,Az,cz,by show _=Value.agg #[.int .i64 said,.slice Ao (au order).length co,.slice At T.length ct,.slice Az F.length cz];rw[hOO.out],by show aM X (Old X) (.slice Ao (au order).length co) (au order);rw[hOO.out];exact aM.below wO.out hba,aY.below wN.out hba,bM.below wF.out hba⟩;have hPa:=hide (MkS.below wA.out hba);have hlX:=hide (bM.below hl4.out hbx);have hrX:=hide (MkS.below hr4.out hbx);replace kh:=kh.below hbx kh.lt;have hrs:=hide (P5.out X b2X Af cf Ar cr hlX.out hrX.out hFw.out);clear hX hba hbx b5 hb4 b24 wA wO wN wF hl4 hr4 P5;generalize w5.heap.size=p6 at*;have q0:=Blk.n0 kh;have q1:=Blk.n1 kh;have q2:=Blk.n2 kh;have q3:=Blk.n3 kh;go_wp2_with fail;clear q0 q1 q2 q3;refine Calls.mono hrs.out ?_;rintro e w6 ⟨Ab,cb,vo,rfl,hMb,hSb,b6⟩;dsimp only at hMb hSb;obtain⟨Bo,no,do',Bt,nt,dt,Bf,df,rfl⟩:=hSb.form;obtain⟨nf,hnf⟩:∃nf,F.length=nf:=⟨_,rfl⟩;replace hnf:=hide hnf;have hSs:=jc.s hSb;have hMs:MkS w6 (Old w6) (.slice Ab a.length cb) a:=hMb.fit fun b h=>h.1;dsimp only at hSs⊢;rw[hnf.out]at hSs⊢;obtain⟨Y,hY⟩:∃Y,w6.alloc (.cells #[.int .i64 said,.slice Bo no do',.slice Bt nt dt,.slice Bf nf df] 43)=Y:=⟨_,rfl⟩;have hby:=ah (Below.refl w6.heap.size w6) hY (Nat.le_refl _);have k8:=Blk.newEq hY;have bXY:=b6.trans (hby.mono b6.size);have b2Y:=b2X.trans (bXY.mono b2X.size);have hbY:=hbX.trans (bXY.mono hbX.size);have hSB:=hide (uT.below hSs hby);have hPb:=hide (MkS.below hMs hby);replace hPa:=hide (MkS.below hPa.out bXY);replace hSA:=hide (uT.below hSA.out bXY);have hlY:=hide (bM.below hlX.out bXY);have hrY:=hide (MkS.below hrX.out bXY);have hTY:=hide (hT2.out.below b2Y);have hLY:=hide (hL2.out.below b2Y);have hPY:=hide (hP2.out.below b2Y);replace kh:=kh.below bXY kh.lt;replace k6:=k6.below bXY k6.lt;replace hY:=hide hY;clear hMb hSb hSs hMs b6 hby hbX b2X hrs hlX hrX b2Y bXY hT2 hL2 hP2 hb;go_upto_region 11 with fail;rw[hY.out];clear hY;generalize w6.heap.size=p8 at*;have hq0:=hide (fun W (hW:Below Y.heap.size Y W)=>(hW.cell (p:=⟨w.heap.size,0,none⟩) kh.lt).trans (kh.cell 0));have hq1:=hide (fun W (hW:Below Y.heap.size Y W)=>(hW.cell (p:=⟨w.heap.size,1,none⟩) kh.lt).trans (kh.cell 1));have hq2:=hide (fun W (hW:Below Y.heap.size Y W)=>(hW.cell (p:=⟨w.heap.size,2,none⟩) kh.lt).trans (kh.cell 2));have hq3:=hide (fun W (hW:Below Y.heap.size Y W)=>(hW.cell (p:=⟨w.heap.size,3,none⟩) kh.lt).trans (kh.cell 3));have hc0:=hide (fun W (hW:Below Y.heap.size Y W)=>(hW.cell (p:=⟨p6,0,none⟩) k6.lt).trans (k6.cell 0));have hc1:=hide (fun W (hW:Below Y.heap.size Y W)=>(hW.cell (p:=⟨p6,1,none⟩) k6.lt).trans (k6.cell 1));have hc2:=hide (fun W (hW:Below Y.heap.size Y W)=>(hW.cell (p:=⟨p6,2,none⟩) k6.lt).trans (k6.cell 2));have hc3:=hide (fun W (hW:Below Y.heap.size Y W)=>(hW.cell (p:=⟨p6,3,none⟩) k6.lt).trans (k6.cell 3));have hd0:=hide (fun W (hW:Below Y.heap.size Y W)=>(hW.cell (p:=⟨p8,0,none⟩) k8.lt).trans (k8.cell 0));have hd1:=hide (fun W (hW:Below Y.heap.size Y W)=>(hW.cell (p:=⟨p8,1,none⟩) k8.lt).trans (k8.cell 1));have hd2:=hide (fun W (hW:Below Y.heap.size Y W)=>(hW.cell (p:=⟨p8,2,none⟩) k8.lt).trans (k8.cell 2));have hd3:=hide (fun W (hW:Below Y.heap.size Y W)=>(hW.cell (p:=⟨p8,3,none⟩) k8.lt).trans (k8.cell 3));simp only[gA,gZ,gS]at hq0 hq1 hq2 hq3 hc0 hc1 hc2 hc3 hd0 hd1 hd2 hd3;clear kh k6 k8;have hsr:=hide (fun W (hW:Below Y.heap.size Y W)=>l5 A c H level Al cl L Ap cp path W (hTY.out.below hW) hsm.out (hLY.out.below hW) hFF.out (hPY.out.below hW) hFM.out);have Xb:=hide (fun W (hW:Below Y.heap.size Y W)=>uW A c H level Af cf L Ar cr path W (hTY.out.below hW) hsm.out (hlY.out.below hW) hFF.out (by omega) (hrY.out.below hW) hFw.out);have mK:=hide (fun W (hW:Below Y.heap.size Y W)=>rE Ap cp path W (hPY.out.below hW) (by omega));have Xe:=hide (fun W (hW:Below Y.heap.size Y W)=>lI Ar cr path W (hrY.out.below hW) (by omega));have hQl:Hid ((aK path).length≤1000000000):=hide (by rw[fT];omega);generalize dF H level L path=rp at*;generalize aK path=Q at*;clear hTY hLY hPY hlY hrY;refine l7 (W0:=Y) [qV (.slice Aa a.length ca),qMk a,qV (.slice Ab a.length cb),qV (.bool true),qV (.bool true),qV (.agg #[.int .i64 said,.slice Ao O.length co,.slice At T.length ct,.slice Az F.length cz]),Vb ⟨said,order,T,F⟩,qV (.agg #[.int .i64 said,.slice Bo no do',.slice Bt nt dt,.slice Bf nf df]),qV (.bool true),qV (.bool true),qV (.bool true),qV (.pointer (some ⟨w.heap.size,0,none⟩)),qV (.agg #[.slice A H.length c]),qV (.pointer (some ⟨w.heap.size,1,none⟩)),qV (.int .i64 level),qV (.pointer (some ⟨w.heap.size,2,none⟩)),qV (.slice Al L.length cl),qV (.pointer (some ⟨w.heap.size,3,none⟩)),qV (.slice Ap path.length cp),qV (.bool rp),qV (.pointer (some ⟨w.heap.size,0,none⟩)),qV (.agg #[.slice A H.length c]),qV (.pointer (some ⟨w.heap.size,1,none⟩)),qV (.int .i64 level),qV (.slice Af L.length cf),qV (.slice Ar path.length cr),qV (.bool rp),qV (.bool true),qV (.bool true),qV (.bool true),qV (.pointer (some ⟨w.heap.size,3,none⟩)),qV (.slice Ap path.length cp),qCh Q,qV (.slice Ar path.length cr),qCh Q,qV (.bool true),qV (.bool true),qV (.bool true)] [0,1,0,7,15,31,63,31,255,511,1023,2047,4095,2047,10239,2047,34815,2047,133119,524287,2047,1050623,2047,4196351,2047,2047,67108863,134217727,268435455,536870911,1073741823,2147483647,4294967295,1073741823,17179869183,34359738367,68719476735,137438953471] [[],[0],[],[1,2],[3],[4],[4,5],[4],[4,6,7],[4,8],[9],[10],[10,11],[10],[10,13],[10],[10,15],[10],[10,17],[10,12,14,16,18],[10],[10,20],[10],[10,22],[10],[10],[10,21,23,24,25],[10,19,26],[10,27],[28],[29],[29,30],[29,31],[29],[29,33],[29,32,34],[29,35],[36]] (by kernel_rfl) (by kernel_rfl) (by kernel_rfl) (by simp) (Below.refl _ _) ?hstep ?hend;case hstep=>
   intro i o ho vs W hB hd
   match i,ho with
   |0,ho=>
    clear hd;simp only[gZ,gS,Option.some.injEq]at ho;subst ho;simp only[acV,gA,gZ,gS,Act.put,sA,sZ,sS];go_wp2;exact⟨rfl,_,rfl,rfl,hB,Below.refl _ _⟩
   |1,ho=>
    have e0:vs 0= .slice Aa a.length ca:=hd 0 (by simp);clear hd;simp only[gZ,gS,Option.some.injEq]at ho;subst ho;simp only[acV,gA,gZ,gS,Act.put,sA,sZ,sS];rw[e0];go_wp2_with fail;refine Calls.mono (xP Aa ca a W (MkS.below hPa.out hB) hal.out had.out) ?_;rintro e W2 ⟨Ax,cx,rfl,g1,b3⟩;replace g1:=hide g1;go_wp2;exact⟨rfl,_,rfl,⟨Ax,cx,rfl,g1.out⟩,hB.trans (b3.mono hB.size),b3⟩
   |2,ho=>
    clear hd;simp only[gZ,gS,Option.some.injEq]at ho;subst ho;simp only[acV,gA,gZ,gS,Act.put,sA,sZ,sS];go_wp2;exact⟨rfl,_,rfl,rfl,hB,Below.refl _ _⟩
   |3,ho=>
    have h1:(qMk a).p (vs 1) W:=hd 1 (by simp);have e2:vs 2= .slice Ab a.length cb:=hd 2 (by simp);clear hd;simp only[gZ,gS,Option.some.injEq]at ho;subst ho;simp only[acV,gA,gZ,gS,Act.put,sA,sZ,sS];rw[e2];obtain⟨A1,c1,e1,m1⟩:=h1;rw[e1];replace m1:=hide m1;go_wp2_with fail;refine Calls.mono (Jz A1 Ab c1 cb a W m1.out (MkS.below hPb.out hB) hal.out hfa.out) ?_;rintro e W2 ⟨rfl,b3⟩;go_wp2;exact⟨rfl,_,rfl,rfl,hB.trans (b3.mono hB.size),b3⟩
   |4,ho=>
    have e3:vs 3= .bool true:=hd 3 (by simp);clear hd;simp only[gZ,gS,Option.some.injEq]at ho;subst ho;simp only[acV,gA,gZ,gS,Act.put,sA,sZ,sS];rw[e3];go_wp2;exact⟨rfl,_,rfl,rfl,hB,Below.refl _ _⟩
   |5,ho=>
    have e4:vs 4= .bool true:=hd 4 (by simp);clear hd;simp only[gZ,gS,Option.some.injEq]at ho;subst ho;simp only[acV,gA,gZ,gS,Act.put,sA,sZ,sS];rw[e4];have v0:=hc0.out W hB;have v1:=hc1.out W hB;have v2:=hc2.out W hB;have v3:=hc3.out W hB;go_wp2;exact⟨rfl,_,rfl,rfl,hB,Below.refl _ _⟩
   |6,ho=>
    have e4:vs 4= .bool true:=hd 4 (by simp);have e5:vs 5= .agg #[.int .i64 said,.slice Ao O.length co,.slice At T.length ct,.slice Az F.length cz]:=hd 5 (by simp);clear hd;simp only[gZ,gS,Option.some.injEq]at ho;subst ho;simp only[acV,gA,gZ,gS,Act.put,sA,sZ,sS];rw[e4,e5];go_wp2_with fail;refine(Mf ⟨said,order,T,F⟩ _ W (uT.below hSA.out hB) hTl.out hFl.out).mono ?_;rintro e W2 ⟨v,rfl,hv,b3⟩;replace hv:=hide hv;go_wp2;exact⟨rfl,_,rfl,hv.out,hB.trans (b3.mono hB.size),b3⟩
   |7,ho=>
    have e4:vs 4= .bool true:=hd 4 (by simp);clear hd;simp only[gZ,gS,Option.some.injEq]at ho;subst ho;simp only[acV,gA,gZ,gS,Act.put,sA,sZ,sS];rw[e4];have v0:=hd0.out W hB;have v1:=hd1.out W hB;have v2:=hd2.out W hB;have v3:=hd3.out W hB;go_wp2;exact⟨rfl,_,rfl,rfl,hB,Below.refl _ _⟩
   |8,ho=>
    have e4:vs 4= .bool true:=hd 4 (by simp);have h6:(Vb ⟨said,order,T,F⟩).p (vs 6) W:=hd 6 (by simp);have e7:vs 7= .agg #[.int .i64 said,.slice Bo no do',.slice Bt nt dt,.slice Bf nf df]:=hd 7 (by simp);clear hd;simp only[gZ,gS,Option.some.injEq]at ho;subst ho;simp only[acV,gA,gZ,gS,Act.put,sA,sZ,sS];rw[e4,e7];replace h6:=hide h6;go_wp2_with fail;refine(FW _ _ ⟨said,order,T,F⟩ W h6.out (uT.below hSB.out hB) hfit.out).mono ?_;rintro e W2 ⟨rfl,b3⟩;go_wp2;exact⟨rfl,_,rfl,rfl,hB.trans (b3.mono hB.size),b3⟩
   |9,ho=>
    have e4:vs 4= .bool true:=hd 4 (by simp);have e8:vs 8= .bool true:=hd 8 (by simp);clear hd;simp only[gZ,gS,Option.some.injEq]at ho;subst ho;simp only[acV,gA,gZ,gS,Act.put,sA,sZ,sS];rw[e4,e8];go_wp2;exact⟨rfl,_,rfl,rfl,hB,Below.refl _ _⟩
   |10,ho=>
    have e9:vs 9= .bool true:=hd 9 (by simp);clear hd;simp only[gZ,gS,Option.some.injEq]at ho;subst ho;simp only[acV,gA,gZ,gS,Act.put,sA,sZ,sS];rw[e9];go_wp2;exact⟨rfl,_,rfl,rfl,hB,Below.refl _ _⟩
   |11,ho=>
    have e10:vs 10= .bool true:=hd 10 (by simp);clear hd;simp only[gZ,gS,Option.some.injEq]at ho;subst ho;simp only[acV,gA,gZ,gS,Act.put,sA,sZ,sS];rw[e10];go_wp2;exact⟨rfl,_,rfl,rfl,hB,Below.refl _ _⟩
   |12,ho=>
    have e10:vs 10= .bool true:=hd 10 (by simp);have e11:vs 11= .pointer (some ⟨w.heap.size,0,none⟩):=hd 11 (by simp);clear hd;simp only[gZ,gS,Option.some.injEq]at ho;subst ho;simp only[acV,gA,gZ,gS,Act.put,sA,sZ,sS];rw[e10,e11];have v0:=hq0.out W hB;go_wp2;exact⟨rfl,_,rfl,rfl,hB,Below.refl _ _⟩
   |13,ho=>
    have e10:vs 10= .bool true:=hd 10 (by simp);clear hd;simp only[gZ,gS,Option.some.injEq]at ho;subst ho;simp only[acV,gA,gZ,gS,Act.put,sA,sZ,sS];rw[e10];go_wp2;exact⟨rfl,_,rfl,rfl,hB,Below.refl _ _⟩
   |14,ho=>
    have e10:vs 10= .bool true:=hd 10 (by simp);have e13:vs 13= .pointer (some ⟨w.heap.size,1,none⟩):=hd 13 (by simp);clear hd;simp only[gZ,gS,Option.some.injEq]at ho;subst ho;simp only[acV,gA,gZ,gS,Act.put,sA,sZ,sS];rw[e10,e13];have v0:=hq1.out W hB;go_wp2;exact⟨rfl,_,rfl,rfl,hB,Below.refl _ _⟩
   |15,ho=>
    have e10:vs 10= .bool true:=hd 10 (by simp);clear hd;simp only[gZ,gS,Option.some.injEq]at ho;subst ho;simp only[acV,gA,gZ,gS,Act.put,sA,sZ,sS];rw[e10];go_wp2;exact⟨rfl,_,rfl,rfl,hB,Below.refl _ _⟩
   |16,ho=>
    have e10:vs 10= .bool true:=hd 10 (by simp);have e15:vs 15= .pointer (some ⟨w.heap.size,2,none⟩):=hd 15 (by simp);clear hd;simp only[gZ,gS,Option.some.injEq]at ho;subst ho;simp only[acV,gA,gZ,gS,Act.put,sA,sZ,sS];rw[e10,e15];have v0:=hq2.out W hB;go_wp2;exact⟨rfl,_,rfl,rfl,hB,Below.refl _ _⟩
   |17,ho=>
    have e10:vs 10= .bool true:=hd 10 (by simp);clear hd;simp only[gZ,gS,Option.some.injEq]at ho;subst ho;simp only[acV,gA,gZ,gS,Act.put,sA,sZ,sS];rw[e10];go_wp2;exact⟨rfl,_,rfl,rfl,hB,Below.refl _ _⟩
   |18,ho=>
    have e10:vs 10= .bool true:=hd 10 (by simp);have e17:vs 17= .pointer (some ⟨w.heap.size,3,none⟩):=hd 17 (by simp);clear hd;simp only[gZ,gS,Option.some.injEq]at ho;subst ho;simp only[acV,gA,gZ,gS,Act.put,sA,sZ,sS];rw[e10,e17];have v0:=hq3.out W hB;go_wp2;exact⟨rfl,_,rfl,rfl,hB,Below.refl _ _⟩
   |19,ho=>
    have e10:vs 10= .bool true:=hd 10 (by simp);have e12:vs 12= .agg #[.slice A H.length c]:=hd 12 (by simp);have e14:vs 14= .int .i64 level:=hd 14 (by simp);have e16:vs 16= .slice Al L.length cl:=hd 16 (by simp);have e18:vs 18= .slice Ap path.length cp:=hd 18 (by simp);clear hd;simp only[gZ,gS,Option.some.injEq]at ho;subst ho;simp only[acV,gA,gZ,gS,Act.put,sA,sZ,sS];rw[e10,e12,e14,e16,e18];go_wp2_with fail;refine(hsr.out W hB).mono ?_;rintro e W2 ⟨rfl,b3⟩;go_wp2;exact⟨rfl,_,rfl,rfl,hB.trans (b3.mono hB.size),b3⟩
   |20,ho=>
    have e10:vs 10= .bool true:=hd 10 (by simp);clear hd;simp only[gZ,gS,Option.some.injEq]at ho;subst ho;simp only[acV,gA,gZ,gS,Act.put,sA,sZ,sS];rw[e10];go_wp2;exact⟨rfl,_,rfl,rfl,hB,Below.refl _ _⟩
   |21,ho=>
    have e10:vs 10= .bool true:=hd 10 (by simp);have e20:vs 20= .pointer (some ⟨w.heap.size,0,none⟩):=hd 20 (by simp);clear hd;simp only[gZ,gS,Option.some.injEq]at ho;subst ho;simp only[acV,gA,gZ,gS,Act.put,sA,sZ,sS];rw[e10,e20];have v0:=hq0.out W hB;go_wp2;exact⟨rfl,_,rfl,rfl,hB,Below.refl _ _⟩
   |22,ho=>
    have e10:vs 10= .bool true:=hd 10 (by simp);clear hd;simp only[gZ,gS,Option.some.injEq]at ho;subst ho;simp only[acV,gA,gZ,gS,Act.put,sA,sZ,sS];rw[e10];go_wp2;exact⟨rfl,_,rfl,rfl,hB,Below.refl _ _⟩
   |23,ho=>
    have e10:vs 10= .bool true:=hd 10 (by simp);have e22:vs 22= .pointer (some ⟨w.heap.size,1,none⟩):=hd 22 (by simp);clear hd;simp only[gZ,gS,Option.some.injEq]at ho;subst ho;simp only[acV,gA,gZ,gS,Act.put,sA,sZ,sS];rw[e10,e22];have v0:=hq1.out W hB;go_wp2;exact⟨rfl,_,rfl,rfl,hB,Below.refl _ _⟩
   |24,ho=>
    have e10:vs 10= .bool true:=hd 10 (by simp);clear hd;simp only[gZ,gS,Option.some.injEq]at ho;subst ho;simp only[acV,gA,gZ,gS,Act.put,sA,sZ,sS];rw[e10];go_wp2;exact⟨rfl,_,rfl,rfl,hB,Below.refl _ _⟩
   |25,ho=>
    have e10:vs 10= .bool true:=hd 10 (by simp);clear hd;simp only[gZ,gS,Option.some.injEq]at ho;subst ho;simp only[acV,gA,gZ,gS,Act.put,sA,sZ,sS];rw[e10];go_wp2;exact⟨rfl,_,rfl,rfl,hB,Below.refl _ _⟩
   |26,ho=>
    have e10:vs 10= .bool true:=hd 10 (by simp);have e21:vs 21= .agg #[.slice A H.length c]:=hd 21 (by simp);have e23:vs 23= .int .i64 level:=hd 23 (by simp);have e24:vs 24= .slice Af L.length cf:=hd 24 (by simp);have e25:vs 25= .slice Ar path.length cr:=hd 25 (by simp);clear hd;simp only[gZ,gS,Option.some.injEq]at ho;subst ho;simp only[acV,gA,gZ,gS,Act.put,sA,sZ,sS];rw[e10,e21,e23,e24,e25];go_wp2_with fail;refine(Xb.out W hB).mono ?_;rintro e W2 ⟨rfl,b3⟩;go_wp2;exact⟨rfl,_,rfl,rfl,hB.trans (b3.mono hB.size),b3⟩
   |27,ho=>
    have e10:vs 10= .bool true:=hd 10 (by simp);have e19:vs 19= .bool rp:=hd 19 (by simp);have e26:vs 26= .bool rp:=hd 26 (by simp);clear hd;simp only[gZ,gS,Option.some.injEq]at ho;subst ho;simp only[acV,gA,gZ,gS,Act.put,sA,sZ,sS];rw[e10,e19,e26];go_wp2;exact⟨rfl,_,rfl,rfl,hB,Below.refl _ _⟩
   |28,ho=>
    have e10:vs 10= .bool true:=hd 10 (by simp);have e27:vs 27= .bool true:=hd 27 (by simp);clear hd;simp only[gZ,gS,Option.some.injEq]at ho;subst ho;simp only[acV,gA,gZ,gS,Act.put,sA,sZ,sS];rw[e10,e27];go_wp2;exact⟨rfl,_,rfl,rfl,hB,Below.refl _ _⟩
   |29,ho=>
    have e28:vs 28= .bool true:=hd 28 (by simp);clear hd;simp only[gZ,gS,Option.some.injEq]at ho;subst ho;simp only[acV,gA,gZ,gS,Act.put,sA,sZ,sS];rw[e28];go_wp2;exact⟨rfl,_,rfl,rfl,hB,Below.refl _ _⟩
   |30,ho=>
    have e29:vs 29= .bool true:=hd 29 (by simp);clear hd;simp only[gZ,gS,Option.some.injEq]at ho;subst ho;simp only[acV,gA,gZ,gS,Act.put,sA,sZ,sS];rw[e29];go_wp2;exact⟨rfl,_,rfl,rfl,hB,Below.refl _ _⟩
   |31,ho=>
    have e29:vs 29= .bool true:=hd 29 (by simp);have e30:vs 30= .pointer (some ⟨w.heap.size,3,none⟩):=hd 30 (by simp);clear hd;simp only[gZ,gS,Option.some.injEq]at ho;subst ho;simp only[acV,gA,gZ,gS,Act.put,sA,sZ,sS];rw[e29,e30];have v0:=hq3.out W hB;go_wp2;exact⟨rfl,_,rfl,rfl,hB,Below.refl _ _⟩
   |32,ho=>
    have e29:vs 29= .bool true:=hd 29 (by simp);have e31:vs 31= .slice Ap path.length cp:=hd 31 (by simp);clear hd;simp only[gZ,gS,Option.some.injEq]at ho;subst ho;simp only[acV,gA,gZ,gS,Act.put,sA,sZ,sS];rw[e29,e31];go_wp2_with fail;refine Calls.mono (mK.out W hB) ?_;rintro e W2 ⟨v,rfl,hv,b3⟩;obtain⟨Ax,cx,rfl⟩:=bG.form hv;have g1:=hide (bG.sl (K:=Old W2) hv (fun g _ h=>h));clear hv;go_wp2;exact⟨rfl,_,rfl,⟨Ax,cx,rfl,g1.out⟩,hB.trans (b3.mono hB.size),b3⟩
   |33,ho=>
    have e29:vs 29= .bool true:=hd 29 (by simp);clear hd;simp only[gZ,gS,Option.some.injEq]at ho;subst ho;simp only[acV,gA,gZ,gS,Act.put,sA,sZ,sS];rw[e29];go_wp2;exact⟨rfl,_,rfl,rfl,hB,Below.refl _ _⟩
   |34,ho=>
    have e29:vs 29= .bool true:=hd 29 (by simp);have e33:vs 33= .slice Ar path.length cr:=hd 33 (by simp);clear hd;simp only[gZ,gS,Option.some.injEq]at ho;subst ho;simp only[acV,gA,gZ,gS,Act.put,sA,sZ,sS];rw[e29,e33];go_wp2_with fail;refine Calls.mono (Xe.out W hB) ?_;rintro e W2 ⟨v,rfl,hv,b3⟩;obtain⟨Ax,cx,rfl⟩:=bG.form hv;have g1:=hide (bG.sl (K:=Old W2) hv (fun g _ h=>h));clear hv;go_wp2;exact⟨rfl,_,rfl,⟨Ax,cx,rfl,g1.out⟩,hB.trans (b3.mono hB.size),b3⟩
   |35,ho=>
    have e29:vs 29= .bool true:=hd 29 (by simp);have h32:(qCh Q).p (vs 32) W:=hd 32 (by simp);have h34:(qCh Q).p (vs 34) W:=hd 34 (by simp);clear hd;simp only[gZ,gS,Option.some.injEq]at ho;subst ho;simp only[acV,gA,gZ,gS,Act.put,sA,sZ,sS];rw[e29];obtain⟨A1,c1,e1,m1⟩:=h32;obtain⟨A2,c2,e2,m2⟩:=h34;rw[e1,e2];replace m1:=hide m1;replace m2:=hide m2;go_wp2_with fail;refine(Jy A1 A2 c1 c2 Q Q (Old W) (Old W) W m1.out m2.out hQl.out hQl.out).mono ?_;rintro e W2 ⟨rfl,b3⟩;rw[decide_eq_true rfl];go_wp2;exact⟨rfl,_,rfl,rfl,hB.trans (b3.mono hB.size),b3⟩
   |36,ho=>
    have e29:vs 29= .bool true:=hd 29 (by simp);have e35:vs 35= .bool true:=hd 35 (by simp);clear hd;simp only[gZ,gS,Option.some.injEq]at ho;subst ho;simp only[acV,gA,gZ,gS,Act.put,sA,sZ,sS];rw[e29,e35];go_wp2;exact⟨rfl,_,rfl,rfl,hB,Below.refl _ _⟩
   |37,ho=>
    have e36:vs 36= .bool true:=hd 36 (by simp);clear hd;simp only[gZ,gS,Option.some.injEq]at ho;subst ho;simp only[acV,gA,gZ,gS,Act.put,sA,sZ,sS];rw[e36];go_wp2;exact⟨rfl,_,rfl,rfl,hB,Below.refl _ _⟩
   |i+38,ho=>simp at ho
  case hend=>
   intro vs W hB hd;have eN:vs 37= .bool true:=hd 37 (by simp);have hbF:=hbY.trans (hB.mono hbY.size);clear hd;simp only[acV,gA,gZ,gS,Act.put,sA,sZ,sS,List.length_cons,List.length_nil,Nat.reduceAdd];rw[eN];go_wp2;go_ret;exact⟨rfl,hbF⟩
end Go.Proofs.YtpjechjoijjhpaaGreatDoor
