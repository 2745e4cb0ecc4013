/-
  Walks: ScreenProves.
-/
import Derived.Test.YtfhnamomiaekdaaGreatDoorQ16
import Derived.Test.YtfhnamomiaekdaaGreatDoorQ32
import Derived.Test.YtfhnamomiaekdaaGreatDoorQ31
import Derived.Test.YtfhnamomiaekdaaGreatDoorQ36
set_option linter.unusedVariables false
set_option linter.unusedSimpArgs false
namespace Go.Proofs.YtfhnamomiaekdaaGreatDoor
open Go.RowKit Go.Inq
set_option maxHeartbeats 16000000
attribute [local go_sem↓] Go.wp_at_zero Go.wp_at_succ
theorem Ja{H:List Txn}{level:Int}:
 ((bq H level).said=1∧aA H=true∧Ik H level (aB (bq H level).order)=true∧l8 (bq H level).tree=[]∧sP (bq H level).facts=[])∨
 ((bq H level).said=2∧aB (bq H level).order=[]∧oI H level [] (l8 (bq H level).tree)=true∧sP (bq H level).facts=[])∨
 ((bq H level).said=3∧aB (bq H level).order=[]∧l8 (bq H level).tree=[]∧(sP (bq H level).facts=[]∨l6 H level (sP (bq H level).facts)=true)):=by
 have hr:(bq H level).said=1→aA H=true:=fun e=>by
  unfold bq at e;split at e
  ·rename_i h0;rw[Bool.and_eq_true]at h0;exact bJ h0.1
  ·cases e
 rcases KW (H:=H) (level:=level)with⟨h1,h2,h3,h4⟩|⟨h1,h2,⟨l,h3,h4⟩,h5⟩|⟨h1,h2,h3⟩
 ·exact .inl ⟨h1,hr h1,h2,by rw[h3];rfl,by rw[h4];rfl⟩
 ·exact .inr (.inl ⟨h1,by rw[h2];rfl,by rw[h3];exact h4,by rw[h5];rfl⟩)
 ·refine .inr (.inr ⟨h1,by rw[h2];rfl,by rw[h3];rfl,?_⟩);by_cases hf:(bq H level).facts=[]
  ·exact .inl (by rw[hf];rfl)
  ·exact .inr (KV hf)
theorem MN{H:List Txn}{level:Int}(hn:H.length≤1000):(aB (bq H level).order).length≤1000000∧Mq (l8 (bq H level).tree)∧NV (sP (bq H level).facts):=by
 refine⟨?_,?_,KX (Nat.le_trans Lj (by omega))⟩
 ·rw[aF];unfold bq;split
  ·split
   ·split
    ·cases h:fZ H.length (bH H level [])with
     |none=>simp
     |some O=>
      have:=fM (show bL H.length _ H.length=some O from h);show O.length≤_;omega
    ·simp
   ·simp
  ·simp
 ·unfold bq;split
  ·split
   ·split
    ·exact⟨Nat.zero_le _,by simp[l8]⟩
    ·exact⟨Nat.zero_le _,by simp[l8]⟩
   ·refine⟨by simp[l8],fun n hm=> ?_⟩;simp only[l8,List.mem_singleton]at hm;subst hm;show(eZ _).length≤_;unfold eZ;rw[List.length_map];have:=Gp (n:=H.length) (E:=bH H level []);omega
  ·exact⟨Nat.zero_le _,by simp[l8]⟩
set_option maxRecDepth 100000 in
theorem tu(A:Option Addr)(c:Nat)(H:List Txn)(level:Int)(w:World)(h:av w (Old w) (.slice A H.length c) H)(hn:H.length≤maxLen)(hns:∀t∈H,t.writes.length≤maxLen∧t.reads.length≤maxLen)(hTB:gL w):
 Calls Tryz.prog 7 #[.agg #[.slice A H.length c],.int .i64 level] w fun e w'=>e= .returned (.bool true)∧Below w.heap.size w w':=by
 have hA:Below w.heap.size w (w.alloc (.cells #[.slice A H.length c] 24)):=(Below.refl _ _).alloc (Nat.le_refl _) _;have hT0:=h.below hA;have kh:Blk (w.alloc (.cells #[.slice A H.length c] 24)) w.heap.size 24 #[.slice A H.length c]:=Blk.new _ _ _;replace hn:=hide hn;replace hns:=hide hns;replace h:=hide h;go_enter Tryz.func7,Tryz.ntmps7;go_wp2_with fail;generalize w.alloc (.cells #[.slice A H.length c] 24)=W0 at*;refine(Cr W0 (hTB.below hA)).mono ?_;rintro e w1 ⟨rfl,hb1⟩;have hb:=hA.trans (hb1.mono hA.size);have hT1:=hT0.below hb1;replace kh:=kh.below hb1 kh.lt;have c0:=Blk.n0 kh;clear hT0 hA hb1;go_wp2_with fail;refine(H6 40 A c H w1 hT1 hn.out hns.out).mono ?_;rintro e w2 ⟨rfl,hb2⟩;replace hb:=hb.trans (hb2.mono hb.size);have hT2:=hide (hT1.below hb2);replace kh:=kh.below hb2 kh.lt;clear hT1 hb2 c0 hn hns;cases hf:uL 40 H with
 |false=>
  go_wp2;go_ret;exact⟨rfl,hb⟩
 |true=>
  have hsm:=hide (Er (Nat.le_refl _) hf);have R3:=Kw hf;clear hf;have hst:=hide (lT A c H level w2 hT2.out hsm.out (hTB.below hb));have hls:=hide (Ja (H:=H) (level:=level));obtain⟨hfO,hfN,hfF⟩:=MN (H:=H) (level:=level) (by omega);replace hfO:=hide hfO;replace hFN:=hide hfN;replace hFF:=hide hfF;clear hfN hfF;have eO:=aF (bq H level).order;have eT:=Iq (bq H level).tree;have eF:=rJ (bq H level).facts;have c0:=Blk.n0 kh;generalize bq H level=r at*;replace eO:=hide eO;replace eT:=hide eT;replace eF:=hide eF;go_wp2_with fail;clear c0;refine Calls.mono hst.out ?_;rintro e w3 hso;obtain⟨Ao,no,co,At,nt,ct,Af,nf,cf,hno,hnt,hnf,rfl,hv,b3⟩:=hso.v;rw[←eO.out]at hno;rw[←eT.out]at hnt;rw[←eF.out]at hnf;subst hno hnt hnf;obtain⟨vo,vt,vf,hq,q1,q2,q3⟩:=hv;simp only[Value.agg.injEq,Array.mk.injEq,List.cons.injEq,and_true,true_and]at hq;obtain⟨rfl,rfl,rfl⟩:=hq;have wO:=hide (aV.sl q1 (K:=Old w3) (fun g _ h=>h));have wN:=hide q2.QA;have wF:=hide q3.QB;clear q1 q2 q3 hso hst eO eT eF;generalize aB r.order=O at*;generalize l8 r.tree=T at*;generalize sP r.facts=F at*;generalize r.said=said at*;go_upto_region 8 with fail;obtain⟨X,hX⟩:∃X,w3.alloc (.cells #[.int .i64 said,.slice Ao O.length co,.slice At T.length ct,.slice Af F.length cf] 36)=X:=⟨_,rfl⟩;rw[hX];have hba:=ah (Below.refl w3.heap.size w3) hX (Nat.le_refl _);have k7:=Blk.newEq hX;have hbx:=b3.trans (hba.mono b3.size);have hT:=hide (hT2.out.below hbx);have hO:=hide (aN.below wO.out hba);have hN:=hide (eH.below wN.out hba);have hF:=hide (iG.below wF.out hba);replace kh:=kh.below hbx kh.lt;have hbX:=hb.trans (hbx.mono hb.size);clear hX hba hbx b3 hb wO wN wF hT2;generalize w3.heap.size=p7 at*;have hch:=hide (fun W (hW:Below X.heap.size X W)=>(hW.cell (p:=⟨w.heap.size,0,none⟩) kh.lt).trans (kh.cell 0));have hc0:=hide (fun W (hW:Below X.heap.size X W)=>(hW.cell (p:=⟨p7,0,none⟩) k7.lt).trans (k7.cell 0));have hc1:=hide (fun W (hW:Below X.heap.size X W)=>(hW.cell (p:=⟨p7,1,none⟩) k7.lt).trans (k7.cell 1));have hc2:=hide (fun W (hW:Below X.heap.size X W)=>(hW.cell (p:=⟨p7,2,none⟩) k7.lt).trans (k7.cell 2));have hc3:=hide (fun W (hW:Below X.heap.size X W)=>(hW.cell (p:=⟨p7,3,none⟩) k7.lt).trans (k7.cell 3));simp only[gA,gZ,gS]at hch hc0 hc1 hc2 hc3;have v0:=hc0.out X (Below.refl _ _);clear kh k7;rcases hls.out with⟨hs1,hr,hy,hT0,hF0⟩|⟨hs1,hO0,hy,hF0⟩|⟨hs1,hO0,hT0,hy⟩
  ·subst hs1 hT0 hF0;simp only[List.length_nil]at hc2 hc3;have hcy:=hide (I9 hr hy);clear hls hy hr hFN hFF hN hF;go_upto_region 10 with fail;clear v0 hc0;have Q5:=hide (fun W (hW:Below X.heap.size X W)=>I4 A c H level Ao co O W (hT.out.below hW) hsm.out (aN.below hO.out hW) hfO.out);have hOl:Hid ((if level=0 then O else[]).length≤1000000):=hide (by split;exact hfO.out;exact Nat.zero_le _);have hRl:Hid (Lc (if level=0 then[]else fC H O)):=hide (by split;exact⟨Nat.zero_le _,by simp⟩;exact Lr hfO.out);generalize(if level=0 then O else[])=O1 at*;generalize(if level=0 then[]else fC H O)=R1 at*;have Oq:=hide (fun W (hW:Below X.heap.size X W) Ax cx Aq cq Ay cy g1 g2 g3=>(by
    have:=zx A c H level true Ax cx O1 Aq cq R1 Ay cy [] W (hT.out.below hW) hsm.out g1 hOl.out g2 hRl.out g3 (Nat.zero_le _) (by intro n hn;cases hn);rw[hcy.out]at this;exact this:
    Calls Tryz.prog 45 #[.agg #[.slice A H.length c],.agg #[.int .i64 level,.bool true,.slice Ax O1.length cx,.slice Aq R1.length cq,.slice Ay 0 cy]] W fun e w'=>e= .returned (.bool true)∧Below W.heap.size W w'))
   clear hcy;refine uy (W0:=X) [qV (.agg #[.slice A H.length c]),qV (.agg #[.slice A H.length c]),qV (.int .i64 level),qV (.pointer (some ⟨p7,1,none⟩)),qV (.slice Ao O.length co),FU level true O1 R1 [],qV (.bool true),qV (.bool true),qV (.pointer (some ⟨p7,2,none⟩)),qV (.slice At 0 ct),qV (.int .i64 0),qV (.pointer (some ⟨p7,3,none⟩)),qV (.slice Af 0 cf),qV (.int .i64 0),qV (.int .i64 0),qV (.bool true),qV (.bool true),qV (.bool true)] [0,0,0,0,8,30,63,127,255,511,1023,255,2303,6399,16383,32767,65535,131071] [[],[],[],[],[3],[1,2,4],[0,5],[6],[7],[7,8],[7,9],[7],[7,11],[7,12],[7,10,13],[7,14],[7,15],[16]] (by kernel_rfl) (by kernel_rfl) (by kernel_rfl) (by simp) (Below.refl _ _) ?hstep ?hend;case hstep=>
    intro i o ho vs W hB hd
    match i,ho with
    |0,ho=>
     clear hd;simp only[gZ,gS,Option.some.injEq]at ho;subst ho;simp only[acV,gA,gZ,gS,Act.put,sA,sZ,sS];have v0:=hch.out W hB;go_wp2;exact⟨rfl,_,rfl,rfl,hB,Below.refl _ _⟩
    |1,ho=>
     clear hd;simp only[gZ,gS,Option.some.injEq]at ho;subst ho;simp only[acV,gA,gZ,gS,Act.put,sA,sZ,sS];have v0:=hch.out W hB;go_wp2;exact⟨rfl,_,rfl,rfl,hB,Below.refl _ _⟩
    |2,ho=>
     clear hd;simp only[gZ,gS,Option.some.injEq]at ho;subst ho;simp only[acV,gA,gZ,gS,Act.put,sA,sZ,sS];go_wp2;exact⟨rfl,_,rfl,rfl,hB,Below.refl _ _⟩
    |3,ho=>
     clear hd;simp only[gZ,gS,Option.some.injEq]at ho;subst ho;simp only[acV,gA,gZ,gS,Act.put,sA,sZ,sS];go_wp2;exact⟨rfl,_,rfl,rfl,hB,Below.refl _ _⟩
    |4,ho=>
     have e3:vs 3= .pointer (some ⟨p7,1,none⟩):=hd 3 (by simp);clear hd;simp only[gZ,gS,Option.some.injEq]at ho;subst ho;simp only[acV,gA,gZ,gS,Act.put,sA,sZ,sS];rw[e3];have v0:=hc1.out W hB;go_wp2;exact⟨rfl,_,rfl,rfl,hB,Below.refl _ _⟩
    |5,ho=>
     have e1:vs 1= .agg #[.slice A H.length c]:=hd 1 (by simp);have e2:vs 2= .int .i64 level:=hd 2 (by simp);have e4:vs 4= .slice Ao O.length co:=hd 4 (by simp);clear hd;simp only[gZ,gS,Option.some.injEq]at ho;subst ho;simp only[acV,gA,gZ,gS,Act.put,sA,sZ,sS];rw[e1,e2,e4];go_wp2_with fail;refine(Q5.out W hB).mono ?_;rintro e W2 ⟨Ax,cx,Aq,cq,Ay,cy,rfl,g1,g2,g3,b3⟩;replace g1:=hide g1;replace g2:=hide g2;replace g3:=hide g3;go_wp2;exact⟨rfl,_,rfl,⟨Ax,cx,Aq,cq,Ay,cy,rfl,g1.out,g2.out,g3.out⟩,hB.trans (b3.mono hB.size),b3⟩
    |6,ho=>
     have e0:vs 0= .agg #[.slice A H.length c]:=hd 0 (by simp);have h5:(FU level true O1 R1 []).p (vs 5) W:=hd 5 (by simp);clear hd;simp only[gZ,gS,Option.some.injEq]at ho;subst ho;simp only[acV,gA,gZ,gS,Act.put,sA,sZ,sS];rw[e0];obtain⟨Ax,cx,Aq,cq,Ay,cy,e5,g1,g2,g3⟩:=h5;rw[e5];have hck:=hide (Oq.out W hB Ax cx Aq cq Ay cy g1 g2 g3);clear g1 g2 g3;go_wp2_with fail;refine hck.out.mono ?_;rintro e W2 ⟨rfl,b3⟩;go_wp2;exact⟨rfl,_,rfl,rfl,hB.trans (b3.mono hB.size),b3⟩
    |7,ho=>
     have e6:vs 6= .bool true:=hd 6 (by simp);clear hd;simp only[gZ,gS,Option.some.injEq]at ho;subst ho;simp only[acV,gA,gZ,gS,Act.put,sA,sZ,sS];rw[e6];go_wp2;exact⟨rfl,_,rfl,rfl,hB,Below.refl _ _⟩
    |8,ho=>
     have e7:vs 7= .bool true:=hd 7 (by simp);clear hd;simp only[gZ,gS,Option.some.injEq]at ho;subst ho;simp only[acV,gA,gZ,gS,Act.put,sA,sZ,sS];rw[e7];go_wp2;exact⟨rfl,_,rfl,rfl,hB,Below.refl _ _⟩
    |9,ho=>
     have e7:vs 7= .bool true:=hd 7 (by simp);have e8:vs 8= .pointer (some ⟨p7,2,none⟩):=hd 8 (by simp);clear hd;simp only[gZ,gS,Option.some.injEq]at ho;subst ho;simp only[acV,gA,gZ,gS,Act.put,sA,sZ,sS];rw[e7,e8];have v0:=hc2.out W hB;go_wp2;exact⟨rfl,_,rfl,rfl,hB,Below.refl _ _⟩
    |10,ho=>
     have e7:vs 7= .bool true:=hd 7 (by simp);have e9:vs 9= .slice At 0 ct:=hd 9 (by simp);clear hd;simp only[gZ,gS,Option.some.injEq]at ho;subst ho;simp only[acV,gA,gZ,gS,Act.put,sA,sZ,sS];rw[e7,e9];go_wp2;exact⟨rfl,_,rfl,rfl,hB,Below.refl _ _⟩
    |11,ho=>
     have e7:vs 7= .bool true:=hd 7 (by simp);clear hd;simp only[gZ,gS,Option.some.injEq]at ho;subst ho;simp only[acV,gA,gZ,gS,Act.put,sA,sZ,sS];rw[e7];go_wp2;exact⟨rfl,_,rfl,rfl,hB,Below.refl _ _⟩
    |12,ho=>
     have e7:vs 7= .bool true:=hd 7 (by simp);have e11:vs 11= .pointer (some ⟨p7,3,none⟩):=hd 11 (by simp);clear hd;simp only[gZ,gS,Option.some.injEq]at ho;subst ho;simp only[acV,gA,gZ,gS,Act.put,sA,sZ,sS];rw[e7,e11];have v0:=hc3.out W hB;go_wp2;exact⟨rfl,_,rfl,rfl,hB,Below.refl _ _⟩
    |13,ho=>
     have e7:vs 7= .bool true:=hd 7 (by simp);have e12:vs 12= .slice Af 0 cf:=hd 12 (by simp);clear hd;simp only[gZ,gS,Option.some.injEq]at ho;subst ho;simp only[acV,gA,gZ,gS,Act.put,sA,sZ,sS];rw[e7,e12];go_wp2;exact⟨rfl,_,rfl,rfl,hB,Below.refl _ _⟩
    |14,ho=>
     have e7:vs 7= .bool true:=hd 7 (by simp);have e10:vs 10= .int .i64 0:=hd 10 (by simp);have e13:vs 13= .int .i64 0:=hd 13 (by simp);clear hd;simp only[gZ,gS,Option.some.injEq]at ho;subst ho;simp only[acV,gA,gZ,gS,Act.put,sA,sZ,sS];rw[e7,e10,e13];go_wp2;exact⟨rfl,_,rfl,rfl,hB,Below.refl _ _⟩
    |15,ho=>
     have e7:vs 7= .bool true:=hd 7 (by simp);have e14:vs 14= .int .i64 0:=hd 14 (by simp);clear hd;simp only[gZ,gS,Option.some.injEq]at ho;subst ho;simp only[acV,gA,gZ,gS,Act.put,sA,sZ,sS];rw[e7,e14];go_wp2;exact⟨rfl,_,rfl,rfl,hB,Below.refl _ _⟩
    |16,ho=>
     have e7:vs 7= .bool true:=hd 7 (by simp);have e15:vs 15= .bool true:=hd 15 (by simp);clear hd;simp only[gZ,gS,Option.some.injEq]at ho;subst ho;simp only[acV,gA,gZ,gS,Act.put,sA,sZ,sS];rw[e7,e15];go_wp2;exact⟨rfl,_,rfl,rfl,hB,Below.refl _ _⟩
    |17,ho=>
     have e16:vs 16= .bool true:=hd 16 (by simp);clear hd;simp only[gZ,gS,Option.some.injEq]at ho;subst ho;simp only[acV,gA,gZ,gS,Act.put,sA,sZ,sS];rw[e16];go_wp2;exact⟨rfl,_,rfl,rfl,hB,Below.refl _ _⟩
    |i+18,ho=>simp at ho
   case hend=>
    intro vs W hB hd;have e17:vs 17= .bool true:=hd 17 (by simp);have hbF:=hbX.trans (hB.mono hbX.size);clear hd;simp only[acV,gA,gZ,gS,Act.put,sA,sZ,sS,List.length_cons,List.length_nil,Nat.reduceAdd];rw[e17];go_wp2;go_ret;exact⟨rfl,hbF⟩
  ·subst hs1 hO0 hF0;simp only[List.length_nil]at hc1 hc3;have hcy:Hid (xD H level false [] [] T=true):=hide (by unfold xD;rw[if_neg (by decide),hy];rfl);clear hls hy hFF hO hF;go_upto_region 12 with fail;clear v0 hc0;have Oq:=hide (fun W (hW:Below X.heap.size X W) Ax cx Aq cq Ay cy g1 g2 g3=>(by
    have:=zx A c H level false Ax cx [] Aq cq [] Ay cy T W (hT.out.below hW) hsm.out g1 (Nat.zero_le _) g2 ⟨Nat.zero_le _,by simp⟩ g3 hFN.out.1 hFN.out.2;rw[hcy.out]at this;exact this:
    Calls Tryz.prog 45 #[.agg #[.slice A H.length c],.agg #[.int .i64 level,.bool false,.slice Ax 0 cx,.slice Aq 0 cq,.slice Ay T.length cy]] W fun e w'=>e= .returned (.bool true)∧Below W.heap.size W w'))
   clear hcy;refine uy (W0:=X) [qV (.agg #[.slice A H.length c]),qV (.int .i64 level),qV (.pointer (some ⟨p7,2,none⟩)),qV (.slice At T.length ct),FU level false [] [] T,qV (.bool true),qV (.bool true),qV (.pointer (some ⟨p7,1,none⟩)),qV (.slice Ao 0 co),qV (.int .i64 0),qV (.pointer (some ⟨p7,3,none⟩)),qV (.slice Af 0 cf),qV (.int .i64 0),qV (.int .i64 0),qV (.bool true),qV (.bool true),qV (.bool true)] [0,0,0,4,14,31,63,127,255,511,127,1151,3199,8191,16383,32767,65535] [[],[],[],[2],[1,3],[0,4],[5],[6],[6,7],[6,8],[6],[6,10],[6,11],[6,9,12],[6,13],[6,14],[15]] (by kernel_rfl) (by kernel_rfl) (by kernel_rfl) (by simp) (Below.refl _ _) ?hstep ?hend;case hstep=>
    intro i o ho vs W hB hd
    match i,ho with
    |0,ho=>
     clear hd;simp only[gZ,gS,Option.some.injEq]at ho;subst ho;simp only[acV,gA,gZ,gS,Act.put,sA,sZ,sS];have v0:=hch.out W hB;go_wp2;exact⟨rfl,_,rfl,rfl,hB,Below.refl _ _⟩
    |1,ho=>
     clear hd;simp only[gZ,gS,Option.some.injEq]at ho;subst ho;simp only[acV,gA,gZ,gS,Act.put,sA,sZ,sS];go_wp2;exact⟨rfl,_,rfl,rfl,hB,Below.refl _ _⟩
    |2,ho=>
     clear hd;simp only[gZ,gS,Option.some.injEq]at ho;subst ho;simp only[acV,gA,gZ,gS,Act.put,sA,sZ,sS];go_wp2;exact⟨rfl,_,rfl,rfl,hB,Below.refl _ _⟩
    |3,ho=>
     have e2:vs 2= .pointer (some ⟨p7,2,none⟩):=hd 2 (by simp);clear hd;simp only[gZ,gS,Option.some.injEq]at ho;subst ho;simp only[acV,gA,gZ,gS,Act.put,sA,sZ,sS];rw[e2];have v0:=hc2.out W hB;go_wp2;exact⟨rfl,_,rfl,rfl,hB,Below.refl _ _⟩
    |4,ho=>
     have e1:vs 1= .int .i64 level:=hd 1 (by simp);have e3:vs 3= .slice At T.length ct:=hd 3 (by simp);clear hd;simp only[gZ,gS,Option.some.injEq]at ho;subst ho;simp only[acV,gA,gZ,gS,Act.put,sA,sZ,sS];rw[e1,e3];go_wp2_with fail;refine(I5 level At ct T W (eH.below hN.out hB) hFN.out).mono ?_;rintro e W2 ⟨Ax,cx,Aq,cq,Ay,cy,rfl,g1,g2,g3,b3⟩;replace g1:=hide g1;replace g2:=hide g2;replace g3:=hide g3;go_wp2;exact⟨rfl,_,rfl,⟨Ax,cx,Aq,cq,Ay,cy,rfl,g1.out,g2.out,g3.out⟩,hB.trans (b3.mono hB.size),b3⟩
    |5,ho=>
     have e0:vs 0= .agg #[.slice A H.length c]:=hd 0 (by simp);have h4:(FU level false [] [] T).p (vs 4) W:=hd 4 (by simp);clear hd;simp only[gZ,gS,Option.some.injEq]at ho;subst ho;simp only[acV,gA,gZ,gS,Act.put,sA,sZ,sS];rw[e0];obtain⟨Ax,cx,Aq,cq,Ay,cy,e4,g1,g2,g3⟩:=h4;rw[e4];have hck:=hide (Oq.out W hB Ax cx Aq cq Ay cy g1 g2 g3);clear g1 g2 g3;go_wp2_with fail;refine hck.out.mono ?_;rintro e W2 ⟨rfl,b3⟩;go_wp2;exact⟨rfl,_,rfl,rfl,hB.trans (b3.mono hB.size),b3⟩
    |6,ho=>
     have e5:vs 5= .bool true:=hd 5 (by simp);clear hd;simp only[gZ,gS,Option.some.injEq]at ho;subst ho;simp only[acV,gA,gZ,gS,Act.put,sA,sZ,sS];rw[e5];go_wp2;exact⟨rfl,_,rfl,rfl,hB,Below.refl _ _⟩
    |7,ho=>
     have e6:vs 6= .bool true:=hd 6 (by simp);clear hd;simp only[gZ,gS,Option.some.injEq]at ho;subst ho;simp only[acV,gA,gZ,gS,Act.put,sA,sZ,sS];rw[e6];go_wp2;exact⟨rfl,_,rfl,rfl,hB,Below.refl _ _⟩
    |8,ho=>
     have e6:vs 6= .bool true:=hd 6 (by simp);have e7:vs 7= .pointer (some ⟨p7,1,none⟩):=hd 7 (by simp);clear hd;simp only[gZ,gS,Option.some.injEq]at ho;subst ho;simp only[acV,gA,gZ,gS,Act.put,sA,sZ,sS];rw[e6,e7];have v0:=hc1.out W hB;go_wp2;exact⟨rfl,_,rfl,rfl,hB,Below.refl _ _⟩
    |9,ho=>
     have e6:vs 6= .bool true:=hd 6 (by simp);have e8:vs 8= .slice Ao 0 co:=hd 8 (by simp);clear hd;simp only[gZ,gS,Option.some.injEq]at ho;subst ho;simp only[acV,gA,gZ,gS,Act.put,sA,sZ,sS];rw[e6,e8];go_wp2;exact⟨rfl,_,rfl,rfl,hB,Below.refl _ _⟩
    |10,ho=>
     have e6:vs 6= .bool true:=hd 6 (by simp);clear hd;simp only[gZ,gS,Option.some.injEq]at ho;subst ho;simp only[acV,gA,gZ,gS,Act.put,sA,sZ,sS];rw[e6];go_wp2;exact⟨rfl,_,rfl,rfl,hB,Below.refl _ _⟩
    |11,ho=>
     have e6:vs 6= .bool true:=hd 6 (by simp);have e10:vs 10= .pointer (some ⟨p7,3,none⟩):=hd 10 (by simp);clear hd;simp only[gZ,gS,Option.some.injEq]at ho;subst ho;simp only[acV,gA,gZ,gS,Act.put,sA,sZ,sS];rw[e6,e10];have v0:=hc3.out W hB;go_wp2;exact⟨rfl,_,rfl,rfl,hB,Below.refl _ _⟩
    |12,ho=>
     have e6:vs 6= .bool true:=hd 6 (by simp);have e11:vs 11= .slice Af 0 cf:=hd 11 (by simp);clear hd;simp only[gZ,gS,Option.some.injEq]at ho;subst ho;simp only[acV,gA,gZ,gS,Act.put,sA,sZ,sS];rw[e6,e11];go_wp2;exact⟨rfl,_,rfl,rfl,hB,Below.refl _ _⟩
    |13,ho=>
     have e6:vs 6= .bool true:=hd 6 (by simp);have e9:vs 9= .int .i64 0:=hd 9 (by simp);have e12:vs 12= .int .i64 0:=hd 12 (by simp);clear hd;simp only[gZ,gS,Option.some.injEq]at ho;subst ho;simp only[acV,gA,gZ,gS,Act.put,sA,sZ,sS];rw[e6,e9,e12];go_wp2;exact⟨rfl,_,rfl,rfl,hB,Below.refl _ _⟩
    |14,ho=>
     have e6:vs 6= .bool true:=hd 6 (by simp);have e13:vs 13= .int .i64 0:=hd 13 (by simp);clear hd;simp only[gZ,gS,Option.some.injEq]at ho;subst ho;simp only[acV,gA,gZ,gS,Act.put,sA,sZ,sS];rw[e6,e13];go_wp2;exact⟨rfl,_,rfl,rfl,hB,Below.refl _ _⟩
    |15,ho=>
     have e6:vs 6= .bool true:=hd 6 (by simp);have e14:vs 14= .bool true:=hd 14 (by simp);clear hd;simp only[gZ,gS,Option.some.injEq]at ho;subst ho;simp only[acV,gA,gZ,gS,Act.put,sA,sZ,sS];rw[e6,e14];go_wp2;exact⟨rfl,_,rfl,rfl,hB,Below.refl _ _⟩
    |16,ho=>
     have e15:vs 15= .bool true:=hd 15 (by simp);clear hd;simp only[gZ,gS,Option.some.injEq]at ho;subst ho;simp only[acV,gA,gZ,gS,Act.put,sA,sZ,sS];rw[e15];go_wp2;exact⟨rfl,_,rfl,rfl,hB,Below.refl _ _⟩
    |i+17,ho=>simp at ho
   case hend=>
    intro vs W hB hd;have e16:vs 16= .bool true:=hd 16 (by simp);have hbF:=hbX.trans (hB.mono hbX.size);clear hd;simp only[acV,gA,gZ,gS,Act.put,sA,sZ,sS,List.length_cons,List.length_nil,Nat.reduceAdd];rw[e16];go_wp2;go_ret;exact⟨rfl,hbF⟩
  ·subst hs1 hO0 hT0;have v1:=hc1.out X (Below.refl _ _);have v2:=hc2.out X (Below.refl _ _);have v3:=hc3.out X (Below.refl _ _);have vh:=hch.out X (Below.refl _ _);simp only[List.length_nil]at v1 v2;have hz:=uR F;have hrep:=hide (AQ A c H level Af cf F X hT.out hsm.out hF.out hFF.out);have hy2:Hid ((F.length==0)=true∨l6 H level F=true):=hide (hy.imp (fun e=>by rw[e];rfl) id);generalize l6 H level F=rb at*;generalize(F.length==0)=bz at*;clear hls hy hFN hFF hO hN hF hT hch hc0 hc1 hc2 hc3;cases bz with
   |true=>
    clear hy2;go_wp2;go_ret;exact⟨rfl,hbX⟩
   |false=>
    obtain rfl:rb=true:=(by rcases hy2.out with e|e;cases e;exact e);clear hy2;go_wp2_with fail;refine hrep.out.mono ?_;rintro e w5 ⟨rfl,hb5⟩;have hbF:=hbX.trans (hb5.mono hbX.size);go_wp2;go_ret;exact⟨rfl,hbF⟩
end Go.Proofs.YtfhnamomiaekdaaGreatDoor
