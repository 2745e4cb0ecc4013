/-
  Walks: layer 22's reference: whether a fact follows, of whatever kind.
-/
import Derived.Test.YtpjechjoijjhpaaGreatDoorZ35
import Derived.Test.YtpjechjoijjhpaaGreatDoorZ31
import Derived.Test.YtpjechjoijjhpaaGreatDoorZ05
set_option linter.unusedVariables false
set_option linter.unusedSimpArgs false
namespace Go.Proofs.YtpjechjoijjhpaaGreatDoor
open Go.RowKit Go.Inq
set_option maxHeartbeats 1500000
attribute [local go_sem↓] Go.wp_at_zero Go.wp_at_succ
theorem QM{H:List Txn}{level:Int}{L:List Fct}{f:Fct}(h:f.kind=2):bQ H level L f=(kI H level&&(dh H f.c&&(decide (f.cyc.length=0)&&wT L f))):=by
 have e:decide (f.cyc=[])=decide (f.cyc.length=0):=(by rw[Bool.eq_iff_iff,decide_eq_true_eq,decide_eq_true_eq];exact List.length_eq_zero_iff.symm);unfold bQ oI;rw[h,e];simp[Bool.and_assoc]
theorem QN{H:List Txn}{level:Int}{L:List Fct}{f:Fct}(h:f.kind=4):bQ H level L f=(kI H level&&(dh H f.c&&((f.i==0)&&((f.j==0)&&iE H level (ay L++[bD f.c]) f.cyc)))):=by
 unfold bQ oI Eb;have e1:decide (f.i=0)=(f.i==0):=(by rw[Bool.eq_iff_iff];simp);have e2:decide (f.j=0)=(f.j==0):=(by rw[Bool.eq_iff_iff];simp);rw[h,e1,e2];simp[Bool.and_assoc,ay]
theorem QO{H:List Txn}{level:Int}{L:List Fct}{f:Fct}(h:f.kind≠1∧f.kind≠2∧f.kind≠3∧f.kind≠4):bQ H level L f=false:=by
 unfold bQ oI;rw[if_neg h.1,if_neg h.2.1,if_neg h.2.2.1,if_neg h.2.2.2,Bool.and_false]
theorem xO{level:Int}(h:level=0∨level=1):(level !=0)=false∨((level !=0)=true∧(level !=1)=false):=by
 rcases h with rfl|rfl
 ·left;rfl
 ·right;exact⟨rfl,rfl⟩
theorem Ke{H:List Txn}{level:Int}:kI H level=(aG H&& !((level !=0)&&(level !=1))):=by
 unfold kI;congr 1;rw[Bool.eq_iff_iff];simp only[Bool.or_eq_true,decide_eq_true_eq,Bool.not_eq_true',Bool.and_eq_false_iff,bne_eq_false_iff_eq]
set_option maxRecDepth 100000 in
theorem BG(A:Option Addr)(c:Nat)(H:List Txn)(level:Int)(Al:Option Addr)(cl:Nat)(L:List Fct)(f:Fct)(Ac:Option Addr)(cc:Nat)(w:World)(h:aC w (Old w) (.slice A H.length c) H)(hn:aA H)(hL:bM w (Old w) (.slice Al L.length cl) L)(hl:L.length≤100000)(hy:aM w (Old w) (.slice Ac f.cyc.length cc) f.cyc)(hyl:f.cyc.length≤1000000)(hk:f.kind≠1∧f.kind≠3):
 Calls Tryz.prog 84 #[.agg #[.slice A H.length c],.int .i64 level,.slice Al L.length cl,.agg #[.int .i64 f.c.key,.int .i64 f.c.a,.int .i64 f.c.b,.int .i64 f.kind,.int .i64 f.i,.int .i64 f.j,.slice Ac f.cyc.length cc]] w fun e w'=>e= .returned (.bool (bQ H level L f))∧Below w.heap.size w w':=by
 obtain⟨ic,hic,hi1,hi2,hi3⟩:=info_parts gY;have h2f:=hide (fun k=>QM (H:=H) (level:=level) (L:=L) (f:=f) k);have h4f:=hide (fun k=>QN (H:=H) (level:=level) (L:=L) (f:=f) k);have h0f:=hide (fun k=>QO (H:=H) (level:=level) (L:=L) (f:=f) k);have hmf:Hid (bQ H level L f=true→kI H level=true∧dh H f.c=true∧(f.kind=4∨f.cyc.length=0)):=hide (fun e=>by
  unfold bQ at e;simp only[Bool.and_eq_true,Bool.or_eq_true,decide_eq_true_eq]at e;exact⟨e.1.1.1,e.1.1.2,e.1.2.imp id (fun e=>by rw[e];rfl)⟩)
 have hjo:=hide (fun W (hb:Below w.heap.size w W)=>BF Al cl L f (.slice Ac f.cyc.length cc) W (hL.below hb) (by omega));have hch:=hide (fun W (hb:Below w.heap.size w W)=>iY Al cl L W (hL.below hb) (by omega));have hcl:(ay L).length=L.length:=bN L;have hri:=hide (fun W (hb:Below w.heap.size w W) Ak ck (hK:aV W (Old W) (.slice Ak (ay L++[bD f.c]).length ck) (ay L++[bD f.c]))=>xJ A c H level Ak ck (ay L++[bD f.c]) Ac cc f.cyc W (h.below hb) hn hK (by rw[List.length_append,hcl];simp;omega) (hy.below hb) hyl);obtain⟨q,hq⟩:∃q,bQ H level L f=q:=⟨_,rfl⟩;rw[hq]at h2f h4f h0f hmf⊢;have hone:=hide (fun W hb=>jA A c H f.c W (h.below (w':=W) hb) hn);obtain⟨o,ho⟩:∃o,dh H f.c=o:=⟨_,rfl⟩;rw[ho]at h2f h4f hone hmf;generalize wT L f=jb at*;generalize iE H level (ay L++[bD f.c]) f.cyc=rb at*;obtain⟨⟨xk,xa,xb⟩,fk,fi,fj,fy⟩:=f;have htu:bD (⟨xk,xa,xb⟩:Cho)=⟨xk,xb,xa⟩:=rfl;dsimp only at hk h2f h4f h0f hmf hone hjo hri htu⊢;rw[htu]at hri;generalize fy.length=nc at*;generalize ay L=M at*;replace hcl:=hide hcl;obtain⟨N,hN⟩:∃N,M++[(⟨xk,xb,xa⟩:Cho)]=N:=⟨_,rfl⟩;rw[hN]at hri;replace hN:=hide hN;obtain⟨W0,hW0⟩:∃W0,(w.alloc (.cells #[.slice A H.length c] 24)).alloc (.cells #[.int .i64 xk,.int .i64 xa,.int .i64 xb,.int .i64 fk,.int .i64 fi,.int .i64 fj,.slice Ac nc cc] 73)=W0:=⟨_,rfl⟩;have hB:=aF hW0;have k0:=Blk.fG hW0;have k1:=Blk.eP hW0;have hrc:=hide (gP A c H W0 (h.below hB) hn);rw[Ke]at h2f h4f hmf;obtain⟨rt,hrt⟩:∃rt,aG H=rt:=⟨_,rfl⟩;rw[hrt]at h2f h4f hmf hrc;have c0:=Blk.n0 k0;replace hn:=hide hn;clear h hq ho htu hrt hL hy;go_enter Tryz.func84,Tryz.ntmps84;go_wp2_with fail;clear hW0;refine Calls.mono hrc.out ?_;rintro e w1 ⟨rfl,hb1⟩;have hB2:=hB.trans (hb1.mono hB.size);replace k0:=k0.below hb1 k0.lt;replace k1:=k1.below hb1 k1.lt;have c0:=Blk.n0 k0;have f0:=Blk.n0 k1;have f1:=Blk.n1 k1;have f2:=Blk.n2 k1;have f3:=Blk.n3 k1;have f4:=Blk.n4 k1;have f5:=Blk.n5 k1;have f6:=Blk.n6 k1;clear hrc hb1 hB;have hno:Hid (∀{p:Prop},(q=true→False)→(q=false→p)→p):=hide (fun h1 h2=>by cases q with|false=>exact h2 rfl|true=>exact(h1 rfl).elim);cases rt with
 |false=>
  obtain rfl:q=false:=hno.out (fun e=>by have:=(hmf.out e).1;simp at this) id;clear h2f h4f h0f hmf hno;go_wp2;go_ret;exact⟨rfl,hB2⟩
 |true=>
  by_cases hlv:level=0∨level=1
  ·have hlb:=xO hlv;have hmt:(true&& !((level !=0)&&(level !=1)))=true:=(by rcases hlv with rfl|rfl<;>rfl);rw[hmt,Bool.true_and]at h2f h4f;clear hlv hmt;have hoc:=hide (hone.out w1 hB2);clear hone;rcases hlb with hlb|⟨hlb,UR⟩;all_goals
    go_wp2_with fail;refine Calls.mono hoc.out ?_;rintro e w2 ⟨rfl,hb2⟩;replace hB2:=hB2.trans (hb2.mono hB2.size);replace k0:=k0.below hb2 k0.lt;replace k1:=k1.below hb2 k1.lt;have c0:=Blk.n0 k0;have f0:=Blk.n0 k1;have f1:=Blk.n1 k1;have f2:=Blk.n2 k1;have f3:=Blk.n3 k1;have f4:=Blk.n4 k1;have f5:=Blk.n5 k1;have f6:=Blk.n6 k1;clear hb2 hoc;cases o with
    |false=>
     obtain rfl:q=false:=hno.out (fun e=>by have:=(hmf.out e).2.1;simp at this) id;clear h2f h4f h0f hmf hno;go_wp2;go_ret;exact⟨rfl,hB2⟩
    |true=>
     rw[Bool.true_and]at h2f h4f;by_cases e4:fk=4
     ·subst e4;have hqq:=hide (h4f.out rfl);clear h2f h4f h0f hmf hno hjo hk;have hc2:=hide (hch.out w2 hB2);go_wp2_with fail;refine hc2.out.mono ?_;rintro e w3 ⟨v,rfl,hown,hb3⟩;obtain⟨Av,cv,rfl⟩:=hown.form;have hB3:=hB2.trans (hb3.mono hB2.size);have k03:=k0.below hb3 k0.lt;have k13:=k1.below hb3 k1.lt;have f0:=Blk.n0 k13;have f1:=Blk.n1 k13;have f2:=Blk.n2 k13;have hown':=hide hown;have Bz:=hide hb3;clear hc2 hch hown hb3 c0 f3 f4 f5 f6;go_wp2_with fail;refine(iJ xk xa xb w3).mono ?_;rintro e w4 ⟨rfl,hb4⟩;have hB4:=hB3.trans (hb4.mono hB3.size);have QL:=Bz.out.size;have gD:=hide (own_below hown'.out hb4 (Nat.le_refl _));have Gf:=hide (Bz.out.trans (hb4.mono QL));have WO:=Gf.out.size;have k04:=k03.below hb4 k03.lt;have k14:=k13.below hb4 k13.lt;clear hown' Bz hb4 f0 f1 f2;go_upto_region 20 with(at_builtin;go_loud (refine aN (enc:=dX) rfl (.tmp 84) (.tmp 88) 52 rfl w2.heap.size 62 ic _ 3 24 Tryz.underlying52 hic hi1 hi2 hi3 rfl (by decide) (.slice Av M.length cv) M rfl gD.out (fun _=>rfl) (⟨xk,xb,xa⟩:Cho) _ rfl rfl bR (by have:=hcl.out;simp[maxLen];omega) (by have:=hcl.out;omega) WO w2 w2.heap.size (Nat.le_refl _) Gf.out ?_);intro v1 w6 hown1 hg1 hb1 jN);have hB6:=hB2.trans (hb1.mono hB2.size);have k06:=k0.below hb1 k0.lt;have k16:=k1.below hb1 k1.lt;have c0:=Blk.n0 k06;have f6:=Blk.n6 k16;have PU:bG w6 w2.heap.size v1 N:=(by rw[←hN.out];exact hown1);obtain⟨A6,c6,rfl⟩:=bG.form PU;have hr6:=hide (hri.out w6 hB6 A6 c6 (bG.sl PU fun g _ h=>h));clear hri hown1 hg1 jN gD Gf PU hb1;go_wp2_with fail;refine hr6.out.mono ?_;rintro e w7 ⟨rfl,hb7⟩;have hB7:=hB6.trans (hb7.mono hB6.size);have k17:=k16.below hb7 k16.lt;have f4:=Blk.n4 k17;have f5:=Blk.n5 k17;clear hr6 hb7 c0 f6;obtain⟨v1,hv1⟩:∃v1,(fi==0)=v1:=⟨_,rfl⟩;obtain⟨v2,hv2⟩:∃v2,(fj==0)=v2:=⟨_,rfl⟩;rw[hv1,hv2]at hqq;cases rb<;>cases v1<;>cases v2<;>(obtain rfl:=hqq.out;clear hqq;go_wp2;go_ret;exact⟨rfl,hB7⟩)
     ·have e4b:(fk !=4)=true:=(by simpa using e4);by_cases hnc:nc=0
      ·subst hnc;by_cases e2:fk=2
       ·subst e2;have hqq:Hid (q=jb):=hide (by have:=h2f.out rfl;simpa using this);have hj2:=hide (hjo.out w2 hB2);clear h2f h4f h0f hmf hno hjo hri hch hk;go_wp2_with fail;refine hj2.out.mono ?_;rintro e w3 ⟨rfl,hb3⟩;have hB3:=hB2.trans (hb3.mono hB2.size);go_wp2;go_ret;exact⟨bE hqq.out.symm,hB3⟩
       ·have hq0:q=false:=h0f.out ⟨hk.1,e2,hk.2,e4⟩;subst hq0;have g1:(fk==1)=false:=(by simpa using hk.1);have g2:(fk==2)=false:=(by simpa using e2);have g3:(fk==3)=false:=(by simpa using hk.2);have g4:(fk==4)=false:=(by simpa using e4);clear h2f h4f h0f hmf hno hjo hri hch hk e2 e4;go_wp2;go_ret;exact⟨rfl,hB2⟩
      ·have hn0:(nc:Int)>0:=(by omega);obtain rfl:q=false:=hno.out (fun e=>by rcases(hmf.out e).2.2 with g|g;exact e4 g;exact hnc g) id;clear h2f h4f h0f hmf hno hnc e4;go_wp2;go_ret;exact⟨rfl,hB2⟩
  ·have h0:(level !=0)=true:=(by rw[bne_iff_ne];omega);have h1:(level !=1)=true:=(by rw[bne_iff_ne];omega);obtain rfl:q=false:=hno.out (fun e=>by have:=(hmf.out e).1;rw[h0,h1]at this;simp at this) id;clear hlv h2f h4f h0f hmf hno;go_wp2;go_ret;exact⟨rfl,hB2⟩
theorem D6(A:Option Addr)(c:Nat)(H:List Txn)(level:Int)(Al:Option Addr)(cl:Nat)(L:List Fct)(f:Fct)(Ac:Option Addr)(cc:Nat)(w:World)(h:aC w (Old w) (.slice A H.length c) H)(hn:aA H)(hL:bM w (Old w) (.slice Al L.length cl) L)(hl:L.length≤100000)(hy:aM w (Old w) (.slice Ac f.cyc.length cc) f.cyc)(hyl:f.cyc.length≤1000000):
 Calls Tryz.prog 84 #[.agg #[.slice A H.length c],.int .i64 level,.slice Al L.length cl,.agg #[.int .i64 f.c.key,.int .i64 f.c.a,.int .i64 f.c.b,.int .i64 f.kind,.int .i64 f.i,.int .i64 f.j,.slice Ac f.cyc.length cc]] w fun e w'=>e= .returned (.bool (bQ H level L f))∧Below w.heap.size w w':=by
 by_cases hk:f.kind=1∨f.kind=3
 ·exact AA A c H level Al L.length cl L f Ac cc w h hn hk
 ·exact BG A c H level Al cl L f Ac cc w h hn hL hl hy hyl ⟨fun e=>hk (.inl e),fun e=>hk (.inr e)⟩
end Go.Proofs.YtpjechjoijjhpaaGreatDoor
