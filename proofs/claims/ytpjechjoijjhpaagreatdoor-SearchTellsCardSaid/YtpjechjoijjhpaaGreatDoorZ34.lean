/-
  Walks: layer 31's reference: whether a branch may be, behind others.
-/
import Derived.Test.YtpjechjoijjhpaaGreatDoorZ33
import Derived.Test.YtpjechjoijjhpaaGreatDoorZ30
import Derived.Test.YtpjechjoijjhpaaGreatDoorZ31
import Derived.Test.YtpjechjoijjhpaaGreatDoorZ02
import Derived.Test.YtpjechjoijjhpaaGreatDoorZ16
import Derived.Test.YtpjechjoijjhpaaGreatDoorZ05
set_option linter.unusedVariables false
set_option linter.unusedSimpArgs false
namespace Go.Proofs.YtpjechjoijjhpaaGreatDoor
open Go.RowKit Go.Inq
set_option maxHeartbeats 8000000
attribute [local go_sem↓] Go.wp_at_zero Go.wp_at_succ
def Kg(H:List Txn)(level:Int)(R:List Cho)(fr:Nat)(m:Mk):Bool:=dh H m.c&&(!(R.drop fr).contains m.c&&(!(R.drop fr).contains (bD m.c)&&if m.right then tV H level (R++[m.c]) m.done else decide (m.done.length=0)))
set_option maxRecDepth 100000 in
theorem Jk (A:Option Addr) (c:Nat) (H:List Txn) (level:Int) (Ac:Option Addr) (cc:Nat) (R:List Cho) (fr:Nat) (m:Mk) (Ad:Option Addr) (cd:Nat) (w:World) (h:aC w (Old w) (.slice A H.length c) H) (hn:aA H) (hR:aV w (Old w) (.slice Ac R.length cc) R) (hf:fr≤R.length) (hRl:R.length≤90000)
 (ht:aY w (Old w) (.slice Ad m.done.length cd) m.done) (htl:m.done.length≤800000) (hcy:∀n∈m.done,n.cyc.length≤1000000):
 Calls Tryz.prog 43 #[.agg #[.slice A H.length c],.int .i64 level,.slice Ac R.length cc,.int .i64 (fr:Int),.agg #[.int .i64 m.c.key,.int .i64 m.c.a,.int .i64 m.c.b,.bool m.right,.slice Ad m.done.length cd]] w fun e w'=>e= .returned (.bool (Kg H level R fr m))∧Below w.heap.size w w':=by
 obtain⟨ic,hic,yY,yZ,PL⟩:=info_parts gY;obtain⟨⟨xk,xa,xb⟩,xr,xd⟩:=m;have htb:bD (⟨xk,xa,xb⟩:Cho)=⟨xk,xb,xa⟩:=rfl;unfold Kg;dsimp only at*;rw[htb];have hcap:R.length≤cc:=by
  obtain⟨_,_,e,h1⟩:=SlR.len hR;simp only[Value.slice.injEq]at e;omega
 have hdr:aV w (Old w) (.slice (if cc=fr then Ac else Ac.map (·.add (fr*3))) (R.length-fr) (cc-fr)) (R.drop fr):=SlR.drop hR hf;have hdl:(R.drop fr).length=R.length-fr:=List.length_drop;rw[←hdl]at hdr;obtain⟨n1,hn1⟩:∃n1,R.length-fr=n1:=⟨_,rfl⟩;have hdn:=hdl.trans hn1;obtain⟨A1,hA1⟩:∃A1,(if cc=fr then Ac else Ac.map (·.add (fr*3)))=A1:=⟨_,rfl⟩;obtain⟨c1,hc1⟩:∃c1,cc-fr=c1:=⟨_,rfl⟩;rw[hA1,hc1]at hdr;have hf0:(0:Int)≤(fr:Int):=Int.natCast_nonneg _;have hf1:(fr:Int)≤(R.length:Int):=(by omega);have hf2:(fr:Int)≤(cc:Int):=(by omega);obtain⟨W0,hW0⟩:∃W0,(w.alloc (.cells #[.slice A H.length c] 24)).alloc (.cells #[.int .i64 xk,.int .i64 xa,.int .i64 xb,.bool xr,.slice Ad xd.length cd] 72)=W0:=⟨_,rfl⟩;have hB:=aF hW0;have k0:=Blk.fG hW0;have k1:=Blk.eP hW0;have hon:=hide (jA A c H ⟨xk,xa,xb⟩ W0 (h.below hB) hn);have hin1:=hide (fun W (hb:Below w.heap.size w W)=>qQ A1 c1 (R.drop fr) ⟨xk,xa,xb⟩ W (hdr.below hb) (by rw[hdl];omega));have hin2:=hide (fun W (hb:Below w.heap.size w W)=>qQ A1 c1 (R.drop fr) ⟨xk,xb,xa⟩ W (hdr.below hb) (by rw[hdl];omega));obtain⟨q1,hq1⟩:∃q1,(R.drop fr).contains (⟨xk,xa,xb⟩:Cho)=q1:=⟨_,rfl⟩;obtain⟨q2,hq2⟩:∃q2,(R.drop fr).contains (⟨xk,xb,xa⟩:Cho)=q2:=⟨_,rfl⟩;rw[hq1,hdn]at hin1;rw[hq2,hdn]at hin2;rw[hq1,hq2];replace hn1:=hide hn1;clear hq1 hq2;have hRs:=hide (fun W (hb:Below w.heap.size w W)=>hR.below hb);have hck:=hide (fun W (hb:Below w.heap.size w W) Am cm M (hM:aV W (Old W) (.slice Am (List.length M) cm) M) (hml:List.length M≤100000)=>Jj A c H level Am cm M Ad cd xd W (h.below hb) hn hM hml (ht.below hb) htl hcy);replace hA1:=hide hA1;replace hc1:=hide hc1;replace hdl:=hide hdl;replace hdn:=hide hdn;clear h hn hR ht hcy hdr;generalize dh H ⟨xk,xa,xb⟩=q at*;obtain⟨N,hN⟩:∃N,R++[(⟨xk,xa,xb⟩:Cho)]=N:=⟨_,rfl⟩;have hNl:=hide (show N.length≤100000 by rw[←hN];simp;omega);rw[hN];replace hN:=hide hN;have c0:=Blk.n0 k0;have m0:=Blk.n0 k1;have m1:=Blk.n1 k1;have m2:=Blk.n2 k1;have m3:=Blk.n3 k1;have m4:=Blk.n4 k1;go_enter Tryz.func43,Tryz.ntmps43;go_wp2_with fail;clear hW0;refine hon.out.mono ?_;rintro e w1 ⟨rfl,hb1⟩;have hB1:=hB.trans (hb1.mono hB.size);replace k0:=k0.below hb1 k0.lt;replace k1:=k1.below hb1 k1.lt;clear hon hb1 hB c0 m0 m1 m2 m3 m4;have hi1:=hide (fun W (hW:Below w1.heap.size w1 W)=>hin1.out W (hB1.trans (hW.mono hB1.size)));have hi2:=hide (fun W (hW:Below w1.heap.size w1 W)=>hin2.out W (hB1.trans (hW.mono hB1.size)));clear hin1 hin2;have hq0:=hide (fun W (hW:Below w1.heap.size w1 W)=>(hW.cell (p:=⟨w.heap.size+1,0,none⟩) k1.lt).trans (k1.cell 0));have hq1:=hide (fun W (hW:Below w1.heap.size w1 W)=>(hW.cell (p:=⟨w.heap.size+1,1,none⟩) k1.lt).trans (k1.cell 1));have hq2:=hide (fun W (hW:Below w1.heap.size w1 W)=>(hW.cell (p:=⟨w.heap.size+1,2,none⟩) k1.lt).trans (k1.cell 2));simp only[gA,gZ,gS]at hq0 hq1 hq2;go_upto_region 2 with fail;refine l7 (W0:=w1) [qV (.slice Ac R.length cc),qV (.int .i64 (fr:Int)),qV (.slice A1 n1 c1),qV (.pointer (some ⟨w.heap.size+1,0,none⟩)),qV (.agg #[.int .i64 xk,.int .i64 xa,.int .i64 xb]),qV (.bool q1),qV (.bool q1)] [0,0,3,0,8,31,63] [[],[],[0,1],[],[3],[2,4],[5]] (by kernel_rfl) (by kernel_rfl) (by kernel_rfl) (by simp) (Below.refl _ _) ?hstep ?hend;case hstep=>
  intro i o ho vs W hB hd
  match i,ho with
  |0,ho=>
   clear hd;simp only[gZ,gS,Option.some.injEq]at ho;subst ho;simp only[acV,gA,gZ,gS,Act.put,sA,sZ,sS];go_wp2;exact⟨rfl,_,rfl,rfl,hB,Below.refl _ _⟩
  |1,ho=>
   clear hd;simp only[gZ,gS,Option.some.injEq]at ho;subst ho;simp only[acV,gA,gZ,gS,Act.put,sA,sZ,sS];go_wp2;exact⟨rfl,_,rfl,rfl,hB,Below.refl _ _⟩
  |2,ho=>
   have e0:vs 0= .slice Ac R.length cc:=hd 0 (by simp);have e1:vs 1= .int .i64 (fr:Int):=hd 1 (by simp);clear hd;simp only[gZ,gS,Option.some.injEq]at ho;subst ho;simp only[acV,gA,gZ,gS,Act.put,sA,sZ,sS];rw[e0,e1];have WJ:=hA1.out;have WK:=hc1.out;have WL:=hn1.out;go_wp2;all_goals exact⟨rfl,_,rfl,rfl,hB,Below.refl _ _⟩
  |3,ho=>
   clear hd;simp only[gZ,gS,Option.some.injEq]at ho;subst ho;simp only[acV,gA,gZ,gS,Act.put,sA,sZ,sS];go_wp2;exact⟨rfl,_,rfl,rfl,hB,Below.refl _ _⟩
  |4,ho=>
   have e3:vs 3= .pointer (some ⟨w.heap.size+1,0,none⟩):=hd 3 (by simp);clear hd;simp only[gZ,gS,Option.some.injEq]at ho;subst ho;simp only[acV,gA,gZ,gS,Act.put,sA,sZ,sS];rw[e3];have v0:=hq0.out W hB;have v1:=hq1.out W hB;have v2:=hq2.out W hB;go_wp2;exact⟨rfl,_,rfl,rfl,hB,Below.refl _ _⟩
  |5,ho=>
   have e2:vs 2= .slice A1 n1 c1:=hd 2 (by simp);have e4:vs 4= .agg #[.int .i64 xk,.int .i64 xa,.int .i64 xb]:=hd 4 (by simp);clear hd;simp only[gZ,gS,Option.some.injEq]at ho;subst ho;simp only[acV,gA,gZ,gS,Act.put,sA,sZ,sS];rw[e2,e4];go_wp2_with fail;refine(hi1.out W hB).mono ?_;rintro e W2 ⟨rfl,b3⟩;go_wp2;exact⟨rfl,_,rfl,rfl,hB.trans (b3.mono hB.size),b3⟩
  |6,ho=>
   have e5:vs 5= .bool q1:=hd 5 (by simp);clear hd;simp only[gZ,gS,Option.some.injEq]at ho;subst ho;simp only[acV,gA,gZ,gS,Act.put,sA,sZ,sS];rw[e5];go_wp2;exact⟨rfl,_,rfl,rfl,hB,Below.refl _ _⟩
  |i+7,ho=>simp at ho
 case hend=>
  intro vs W hB hd;have e6:vs 6= .bool q1:=hd 6 (by simp);have Gg:=hB;have hB2:=hB1.trans (hB.mono hB1.size);replace k0:=k0.below hB k0.lt;replace k1:=k1.below hB k1.lt;obtain⟨w2,hw2⟩:∃w2,w2=W:=⟨_,rfl⟩;rw[←hw2]at Gg hB2 k0 k1⊢;clear hd hB hw2 hi1 hq0 hq1 hq2;simp only[acV,gA,gZ,gS,Act.put,sA,sZ,sS,List.length_cons,List.length_nil,Nat.reduceAdd];rw[e6];clear e6;have hq0:=hide (fun W (hW:Below w2.heap.size w2 W)=>(hW.cell (p:=⟨w.heap.size+1,0,none⟩) k1.lt).trans (k1.cell 0));have hq1:=hide (fun W (hW:Below w2.heap.size w2 W)=>(hW.cell (p:=⟨w.heap.size+1,1,none⟩) k1.lt).trans (k1.cell 1));have hq2:=hide (fun W (hW:Below w2.heap.size w2 W)=>(hW.cell (p:=⟨w.heap.size+1,2,none⟩) k1.lt).trans (k1.cell 2));simp only[gA,gZ,gS]at hq0 hq1 hq2;go_upto_region 3 with fail;refine l7 (W0:=w2) [qV (.slice Ac R.length cc),qV (.int .i64 (fr:Int)),qV (.slice A1 n1 c1),qV (.pointer (some ⟨w.heap.size+1,0,none⟩)),qV (.agg #[.int .i64 xk,.int .i64 xa,.int .i64 xb]),qV (.agg #[.int .i64 xk,.int .i64 xb,.int .i64 xa]),qV (.bool q2),qV (.bool q2)] [0,0,3,0,8,24,63,127] [[],[],[0,1],[],[3],[4],[2,5],[6]] (by kernel_rfl) (by kernel_rfl) (by kernel_rfl) (by simp) (Below.refl _ _) ?hstep ?hend;case hstep=>
   intro i o ho vs W hB hd
   match i,ho with
   |0,ho=>
    clear hd;simp only[gZ,gS,Option.some.injEq]at ho;subst ho;simp only[acV,gA,gZ,gS,Act.put,sA,sZ,sS];go_wp2;exact⟨rfl,_,rfl,rfl,hB,Below.refl _ _⟩
   |1,ho=>
    clear hd;simp only[gZ,gS,Option.some.injEq]at ho;subst ho;simp only[acV,gA,gZ,gS,Act.put,sA,sZ,sS];go_wp2;exact⟨rfl,_,rfl,rfl,hB,Below.refl _ _⟩
   |2,ho=>
    have e0:vs 0= .slice Ac R.length cc:=hd 0 (by simp);have e1:vs 1= .int .i64 (fr:Int):=hd 1 (by simp);clear hd;simp only[gZ,gS,Option.some.injEq]at ho;subst ho;simp only[acV,gA,gZ,gS,Act.put,sA,sZ,sS];rw[e0,e1];have WJ:=hA1.out;have WK:=hc1.out;have WL:=hn1.out;go_wp2;all_goals exact⟨rfl,_,rfl,rfl,hB,Below.refl _ _⟩
   |3,ho=>
    clear hd;simp only[gZ,gS,Option.some.injEq]at ho;subst ho;simp only[acV,gA,gZ,gS,Act.put,sA,sZ,sS];go_wp2;exact⟨rfl,_,rfl,rfl,hB,Below.refl _ _⟩
   |4,ho=>
    have e3:vs 3= .pointer (some ⟨w.heap.size+1,0,none⟩):=hd 3 (by simp);clear hd;simp only[gZ,gS,Option.some.injEq]at ho;subst ho;simp only[acV,gA,gZ,gS,Act.put,sA,sZ,sS];rw[e3];have v0:=hq0.out W hB;have v1:=hq1.out W hB;have v2:=hq2.out W hB;go_wp2;exact⟨rfl,_,rfl,rfl,hB,Below.refl _ _⟩
   |5,ho=>
    have e4:vs 4= .agg #[.int .i64 xk,.int .i64 xa,.int .i64 xb]:=hd 4 (by simp);clear hd;simp only[gZ,gS,Option.some.injEq]at ho;subst ho;simp only[acV,gA,gZ,gS,Act.put,sA,sZ,sS];rw[e4];go_wp2_with fail;refine(iJ xk xa xb W).mono ?_;rintro e W2 ⟨rfl,b3⟩;go_wp2;exact⟨rfl,_,rfl,rfl,hB.trans (b3.mono hB.size),b3⟩
   |6,ho=>
    have e2:vs 2= .slice A1 n1 c1:=hd 2 (by simp);have e5:vs 5= .agg #[.int .i64 xk,.int .i64 xb,.int .i64 xa]:=hd 5 (by simp);clear hd;simp only[gZ,gS,Option.some.injEq]at ho;subst ho;simp only[acV,gA,gZ,gS,Act.put,sA,sZ,sS];rw[e2,e5];go_wp2_with fail;refine(hi2.out W (Gg.trans (hB.mono Gg.size))).mono ?_;rintro e W2 ⟨rfl,b3⟩;go_wp2;exact⟨rfl,_,rfl,rfl,hB.trans (b3.mono hB.size),b3⟩
   |7,ho=>
    have e6:vs 6= .bool q2:=hd 6 (by simp);clear hd;simp only[gZ,gS,Option.some.injEq]at ho;subst ho;simp only[acV,gA,gZ,gS,Act.put,sA,sZ,sS];rw[e6];go_wp2;exact⟨rfl,_,rfl,rfl,hB,Below.refl _ _⟩
   |i+8,ho=>simp at ho
  case hend=>
   intro vs2 W hB hd;have e7:vs2 7= .bool q2:=hd 7 (by simp);have hB3:=hB2.trans (hB.mono hB2.size);replace k0:=k0.below hB k0.lt;replace k1:=k1.below hB k1.lt;clear hd hB hi2 hq0 hq1 hq2 Gg hB2;simp only[acV,gA,gZ,gS,Act.put,sA,sZ,sS,List.length_cons,List.length_nil,Nat.reduceAdd];rw[e7];clear e7 hA1 hc1;cases q with
   |false=>
    clear k0 k1 hck hRs;go_wp2;all_goals go_ret
    all_goals exact⟨by simp,hB3⟩
   |true=>
   cases q1 with
   |true=>
    clear k0 k1 hck hRs;go_wp2;all_goals go_ret
    all_goals exact⟨by simp,hB3⟩
   |false=>
   cases q2 with
   |true=>
    clear k0 k1 hck hRs;go_wp2;all_goals go_ret
    all_goals exact⟨by simp,hB3⟩
   |false=>
   cases xr with
   |false=>
    have c0:=Blk.n0 k0;have m0:=Blk.n0 k1;have m1:=Blk.n1 k1;have m2:=Blk.n2 k1;have m3:=Blk.n3 k1;have m4:=Blk.n4 k1;clear k0 k1 hck hRs;have hz:((xd.length:Int)==0)=decide (xd.length=0):=by
     by_cases e:xd.length=0
     ·rw[e];rfl
     ·rw[decide_eq_false e,beq_eq_false_iff_ne];omega
    go_wp2;all_goals go_ret
    all_goals exact⟨by simp[hz],hB3⟩
   |true=>
    have c0:=Blk.n0 k0;have m0:=Blk.n0 k1;have m1:=Blk.n1 k1;have m2:=Blk.n2 k1;have m3:=Blk.n3 k1;have m4:=Blk.n4 k1;have hls:=hRs.out W hB3;have k0w:=hide k0;have k1w:=hide k1;go_upto_region 10 with(at_builtin;go_loud (refine bg (w:=W) (enc:=dX) rfl (.tmp 48) (.tmp 49) 52 rfl W.heap.size 62 ic _ 3 24 Tryz.underlying52 hic yY yZ PL rfl (by decide) (.slice none 0 0) (Old W) ([]:List Cho) rfl (World.ownsRow_nil _ _ _ _) (fun _=>rfl) _ R rfl hls bR (by simp[maxLen];omega) (by simp;omega) (Nat.le_refl _) ?_);intro v4 w4 gD hg4 PN);rw[List.nil_append]at gD;have hb4:Below W.heap.size W w4:=below_grown (Below.refl _ _) hg4 (Nat.le_refl _) (fun j e=>by cases e);have hs4:=hb4.size;replace k0:=k0.below hb4 k0.lt;replace k1:=k1.below hb4 k1.lt;clear hls hg4 PN c0 m0 m1 m2 m3 m4;obtain⟨A4,c4,rfl⟩:=aW gD;replace gD:=hide gD;have c0:=Blk.n0 k0;have m0:=Blk.n0 k1;have m1:=Blk.n1 k1;have m2:=Blk.n2 k1;have m3:=Blk.n3 k1;have m4:=Blk.n4 k1;go_upto_region 11 with(at_builtin;go_loud (refine aN (W:=w4) (enc:=dX) rfl (.tmp 51) (.tmp 54) 52 rfl W.heap.size 62 ic _ 3 24 Tryz.underlying52 hic yY yZ PL rfl (by decide) (.slice A4 R.length c4) R rfl gD.out (fun _=>rfl) (⟨xk,xa,xb⟩:Cho) _ rfl rfl bR (by simp[maxLen];omega) (by omega) hs4 W W.heap.size (Nat.le_refl _) hb4 ?_);intro v5 w5 hown5 hg5 hb5 OZ);rw[hN.out]at hown5;obtain⟨Am,cm,rfl⟩:=aW hown5;have hB5:=hB3.trans (hb5.mono hB3.size);replace k0:=k0w.out.below hb5 k0w.out.lt;replace k1:=k1w.out.below hb5 k1w.out.lt;have hcall:=hide (hck.out w5 hB5 Am cm N (bG.sl (hown5:bG w5 W.heap.size (.slice Am N.length cm) N) (fun g _ h=>h)) hNl.out);clear hck hown5 gD hg5 OZ hb5 hb4 hs4 k0w k1w c0 m0 m1 m2 m3 m4 hRs;have c0:=Blk.n0 k0;have m0:=Blk.n0 k1;have m1:=Blk.n1 k1;have m2:=Blk.n2 k1;have m3:=Blk.n3 k1;have m4:=Blk.n4 k1;go_wp2_with fail;refine Calls.mono hcall.out ?_;rintro e w6 ⟨rfl,hb6⟩;have hB6:=hB5.trans (hb6.mono hB5.size);clear hcall k0 k1 c0 m0 m1 m2 m3 m4;go_wp2;go_ret;exact⟨by simp,hB6⟩
end Go.Proofs.YtpjechjoijjhpaaGreatDoor
