/-
  Walks: layer 19's reference: is there an edge of what is written over.
-/
import Derived.Test.YtpjechjoijjhpaaGreatDoorZ30
import Derived.Test.YtpjechjoijjhpaaGreatDoorZ11
import Derived.Test.YtpjechjoijjhpaaGreatDoorZ03
import Derived.Test.YtpjechjoijjhpaaGreatDoorZ01
import Derived.Test.YtpjechjoijjhpaaGreatDoorZ09
import Derived.Test.YtpjechjoijjhpaaGreatDoorZ02
set_option linter.unusedVariables false
set_option linter.unusedSimpArgs false
namespace Go.Proofs.YtpjechjoijjhpaaGreatDoor
open Go.RowKit Go.Inq
set_option maxHeartbeats 4000000
attribute [local go_sem↓] Go.wp_at_zero Go.wp_at_succ
theorem Jg{H:List Txn}{n:Nat}{x:It}(h:jL H n x=true):x.b= -1∨0≤x.b:=by
 unfold jL at h;rw[Bool.or_eq_true,Bool.and_eq_true,Bool.and_eq_true,Bool.and_eq_true]at h;rcases h with h|h
 ·exact .inl (by simpa using h)
 ·exact .inr (of_decide_eq_true h.1.1.1)
theorem MK{H:List Txn}{l:List Cho}{y:Nat}{r:It}(h:r.b= -1∨0≤r.b):kD H l y r=((aP H y).writes.contains r.a&&((r.b== -1)||(l.contains (⟨r.a,r.b,(y:Int)⟩:Cho)&&(r.b !=(y:Int))))):=by
 unfold kD;have e1:decide (r.b<0)=(r.b== -1):=(by rw[Bool.eq_iff_iff];simp only[decide_eq_true_eq,beq_iff_eq];omega);have e2:(l.any fun c=>decide (c=(⟨r.a,r.b,(y:Int)⟩:Cho)))=l.contains (⟨r.a,r.b,(y:Int)⟩:Cho):=by
  rw[Bool.eq_iff_iff,List.contains_iff_mem,List.any_eq_true];constructor
  ·rintro⟨c,hc,e⟩;rw[←of_decide_eq_true e];exact hc
  ·intro g;exact⟨_,g,by simp⟩
 have e3:decide (r.b≠(y:Int))=(r.b !=(y:Int)):=(by rw[Bool.eq_iff_iff];simp);rw[e1,e2,e3,Bool.and_comm (r.b !=(y:Int))]
set_option maxRecDepth 100000 in
theorem Gb(A:Option Addr)(c:Nat)(H:List Txn)(Al:Option Addr)(cl:Nat)(l:List Cho)(x y:Int)(w:World)(h:aC w (Old w) (.slice A H.length c) H)(hn:aA H)(hl:aV w (Old w) (.slice Al l.length cl) l)(hln:l.length≤1000000):
 Calls Tryz.prog 164 #[.agg #[.slice A H.length c],.slice Al l.length cl,.int .i64 x,.int .i64 y] w fun e w'=>e= .returned (.bool (eY H l x y))∧Below w.heap.size w w':=by
 obtain⟨W0,hW0⟩:∃W0,w.alloc (.cells #[.slice A H.length c] 24)=W0:=⟨_,rfl⟩;have hB:=ah (Below.refl w.heap.size w) hW0 (Nat.le_refl _);have k0:=Blk.newEq hW0;have hh:=hide (fun W hb=>h.below (w':=W) hb);have hhl:=hide (fun W hb=>hl.below (w':=W) hb);have htw:=hide (zZ A c H x y W0 (h.below hB) hn);have c0:=Blk.n0 k0;obtain⟨q,hq⟩:∃q,eY H l x y=q:=⟨_,rfl⟩;rw[hq];unfold eY at hq;obtain⟨t,htt⟩:∃t,oH H x y=t:=⟨_,rfl⟩;rw[htt]at htw hq;replace hq:=hide hq;replace htt:=hide htt;replace hn:=hide hn;clear h hl;go_enter Tryz.func164,Tryz.ntmps164;go_wp2_with fail;clear hW0;refine htw.out.mono ?_;rintro e w1 ⟨rfl,hb1⟩;have hB1:=hB.trans (hb1.mono hB.size);replace k0:=k0.below hb1 k0.lt;have c0:=Blk.n0 k0;clear htw hb1 hB;cases t with
 |false=>
  obtain rfl:q=false:=hq.out.symm;clear hq htt;go_wp2;go_ret;exact⟨rfl,hB1⟩
 |true=>
  obtain⟨hr,a,b,rfl,rfl,ha,hb⟩:=pK.1 htt.out;have ha0:(0:Int)≤(a:Int):=Int.natCast_nonneg _;have hb0:(0:Int)≤(b:Int):=Int.natCast_nonneg _;have ha1:(a:Int)<(H.length:Int):=(by omega);have hb1:(b:Int)<(H.length:Int):=(by omega);by_cases hab:a=b
  ·subst hab;obtain rfl:q=false:=(by rw[←hq.out];unfold pJ;simp);clear hq htt;go_wp2;go_ret;exact⟨rfl,hB1⟩
  ·have hqq:Hid (H[a].reads.any (kD H l b)=q):=hide (by
    rw[←hq.out];unfold pJ;rw[show(a:Int).toNat=a by omega,show(b:Int).toNat=b by omega,decide_eq_true (show a≠b from hab),aQ ha];simp)
   have hne:((a:Int)==(b:Int))=false:=(by rw[beq_eq_false_iff_ne];omega);have Tg:=hide (fun r hr2=>by
    have:=(((aD H).1 hr).2 a ha).there r hr2;exact Jg this:∀r∈H[a].reads,r.b= -1∨0≤r.b)
   have hrl:H[a].reads.length≤1000000:=(hn.out.2 _ (List.getElem_mem ha)).2;have hwl:H[b].writes.length≤maxLen:=(by have:=(hn.out.2 _ (List.getElem_mem hb)).1;unfold maxLen;omega);clear hq htt hr hab;go_upto_region 5 with fail;go_loopw [10] (fun s10 wr=>∃i:Nat,i≤H[a].reads.length∧s10= .int .i64 i∧Hid (∀j (hj:j<H[a].reads.length),j<i→kD H l b H[a].reads[j]=false)∧Below w.heap.size w wr∧Blk wr w.heap.size 24 #[.slice A H.length c]) (fun s10 _=>H[a].reads.length-(intOf s10).toNat);case atStart=>exact⟨0,Nat.zero_le _,by go_num,hide (fun j hj h=>absurd h (by omega)),hB1,k0⟩
   case round=>
    clear hB1 k0 c0;obtain⟨i,hi,rfl,hall,hB2,k0⟩:=hrel;obtain⟨Wr,rfl⟩:∃Wr,Wr=wr:=⟨_,rfl⟩;have hi0:(0:Int)≤(i:Int):=Int.natCast_nonneg _;have c0:=Blk.n0 k0;obtain⟨bt,off,Aw,cw,Ar,cr,rfl,hbK,e0,e1,e2,-,hrs⟩:=aC.at_ (hh.out Wr hB2) ha;by_cases hlt:i<H[a].reads.length
    ·have hi1:(i:Int)<(H[a].reads.length:Int):=(by omega);obtain⟨b3,QC,rfl,-,r0,r1⟩:=ItS.at_ hrs hlt;have hov:=hide (MK (H:=H) (l:=l) (y:=b) (Tg.out _ (List.getElem_mem hlt)));have hst:Hid (kD H l b H[a].reads[i]=false→∀j (hj:j<H[a].reads.length),j<i+1→kD H l b H[a].reads[j]=false):=hide (fun g j hj hji=>by
      rcases Nat.lt_or_ge j i with g2|g2
      ·exact hall.out j hj g2
      ·obtain rfl:j=i:=(by omega);exact g)
     have hyes:Hid (kD H l b H[a].reads[i]=true→q=true):=hide (fun g=>by
      have:H[a].reads.any (kD H l b)=true:=List.any_eq_true.2 ⟨_,List.getElem_mem hlt,g⟩;exact hqq.out.symm.trans this)
     rw[aQ hb]at hov;clear hall hrs;generalize H[a].reads[i]=it at*;obtain⟨ik,ib⟩:=it;dsimp only at r0 r1 hov hst hyes;obtain⟨W2,hW2⟩:∃W2,Wr.alloc (.cells #[.int .i64 ik,.int .i64 ib] 57)=W2:=⟨_,rfl⟩;have kX:=Blk.newEq hW2;have hB3:=ah hB2 hW2 hB2.size;replace k0:=k0.alloc (.cells #[.int .i64 ik,.int .i64 ib] 57);rw[hW2]at k0;have x0:=Blk.n0 kX;have x1:=Blk.n1 kX;go_upto_region 8 with fail;try rw[hW2]
     clear c0 e0 e1 e2 r0 r1 hbK hW2;have c0:=Blk.n0 k0;obtain⟨bt2,off2,Bw,cw',Br,cr',he,hbK,e0,e1,e2,hws,-⟩:=aC.at_ (hh.out W2 hB3) hb;simp only[Option.some.injEq,Addr.mk.injEq,and_true]at he;obtain⟨rfl,rfl⟩:=he;obtain⟨p,hp⟩:∃p,H[b].writes.contains ik=p:=⟨_,rfl⟩;rw[hp]at hov;refine bn [0,1,2,3,4,5,6] [7,8] (by kernel_rfl) (by kernel_rfl) (fun _ _ d _ _ h=>by cases d<;>exact h) ?_;simp only[List.filterMap_cons,List.filterMap_nil,gZ,gS];repeat still_step
     refine wpStill_nil ?_;go_wp2_with fail;refine(eH H[b].bL Bw cw' H[b].writes (.slice Br H[b].reads.length cr') ik (Old W2) _ (aM.keep hws (Agree.drewN _ _ _) (fun b h=>h)) (fun b h=>h) hwl).mono ?_;rintro e W5 ⟨rfl,nW⟩;rw[hp];have hb5:Below W2.heap.size W2 W5:=⟨nW.os,nW.tape,nW.output,nW.size,nW.block⟩;have hB5:=hB3.trans (hb5.mono hB3.size);replace k0:=k0.below hb5 k0.lt;replace kX:=kX.below hb5 kX.lt;have x0:=Blk.n0 kX;have x1:=Blk.n1 kX;have hin:=hide (qQ Al cl l ⟨ik,ib,(b:Int)⟩ W5 (hhl.out W5 hB5) hln);obtain⟨u,hu⟩:∃u,l.contains (⟨ik,ib,(b:Int)⟩:Cho)=u:=⟨_,rfl⟩;rw[hu]at hov hin;dsimp only at hin;clear hp hu nW hb5 c0 e0 e1 e2 hws hbK;go_upto_region 9 with fail;go_wp2_with fail;refine hin.out.mono ?_;rintro e W6 ⟨rfl,hb6⟩;have hB6:=hB5.trans (hb6.mono hB5.size);replace k0:=k0.below hb6 k0.lt;replace kX:=kX.below hb6 kX.lt;have x1:=Blk.n1 kX;clear hin hb6 x0;obtain⟨v1,hv1⟩:∃v1,(ib== -1)=v1:=⟨_,rfl⟩;obtain⟨v2,hv2⟩:∃v2,(ib !=(b:Int))=v2:=⟨_,rfl⟩;rw[hv1,hv2]at hov;obtain⟨z,hz⟩:∃z,(p&&(v1||(u&&v2)))=z:=⟨_,rfl⟩;rw[hov.out,hz]at hst hyes;clear hov;go_upto_region 10 with fail;go_cut [75] (fun s75 wz=>s75= .bool z∧wz=W6);case first=>
      cases p<;>cases v1<;>cases u<;>cases v2<;>(obtain rfl:=hz;go_wp2;go_meet;exact⟨rfl,rfl⟩)
     case rest=>
      obtain⟨rfl,rfl⟩:=hcut;cases z with
      |true=>
       obtain rfl:=hyes.out rfl;go_wp2;go_ret;exact⟨rfl,hB6⟩
      |false=>
       have bK:=hide (hst.out rfl);go_wp2;go_roundw;case rel=>exact⟨i+1,by omega,by go_num,bK,hB6,k0⟩
       case measure=>simp[intOf]<;>omega
    ·obtain rfl:i=H[a].reads.length:=(by omega);obtain rfl:q=false:=by
      rw[←hqq.out,List.any_eq_false];intro r hr;obtain⟨j,hj,rfl⟩:=List.getElem_of_mem hr;rw[hall.out j hj hj];exact Bool.false_ne_true
     clear hqq hall hrs;go_wp2;go_ret;exact⟨rfl,hB2⟩
set_option maxHeartbeats 8000000
theorem Ti{H:List Txn}{l:List Cho}{x y:Int}:isB H 1 l x y=(aL H l x y||(List.range H.length).any fun m=>aL H l x (m:Int)&&eY H l (m:Int) y):=by
 show((List.range H.length).any fun m=>aL H l x (m:Int)&&(decide ((m:Int)=y)||eY H l (m:Int) y))=_;rw[Bool.eq_iff_iff,Bool.or_eq_true,List.any_eq_true,List.any_eq_true];constructor
 ·rintro⟨m,hm,g⟩;rw[Bool.and_eq_true,Bool.or_eq_true,decide_eq_true_eq]at g;rcases g.2 with e|e
  ·exact .inl (e▸g.1)
  ·exact .inr ⟨m,hm,by rw[g.1,e];rfl⟩
 ·rintro(g|⟨m,hm,g⟩)
  ·have ht:oH H x y=true:=by
    unfold aL at g;rw[Bool.and_eq_true]at g;exact g.1
   obtain⟨-,a,b,rfl,rfl,-,hb⟩:=pK.1 ht;exact⟨b,List.mem_range.2 hb,by rw[g];simp⟩
  ·rw[Bool.and_eq_true]at g;exact⟨m,hm,by rw[g.1,g.2];simp⟩
set_option maxRecDepth 100000 in
theorem ML(A:Option Addr)(c:Nat)(H:List Txn)(level:Int)(Al:Option Addr)(cl:Nat)(l:List Cho)(x y:Int)(w:World)(h:aC w (Old w) (.slice A H.length c) H)(hn:aA H)(hl:aV w (Old w) (.slice Al l.length cl) l)(hln:l.length≤1000000):
 Calls Tryz.prog 155 #[.agg #[.slice A H.length c],.int .i64 level,.slice Al l.length cl,.int .i64 x,.int .i64 y] w fun e w'=>e= .returned (.bool (isB H level l x y))∧Below w.heap.size w w':=by
 obtain⟨W0,hW0⟩:∃W0,w.alloc (.cells #[.slice A H.length c] 24)=W0:=⟨_,rfl⟩;have hB:=ah (Below.refl w.heap.size w) hW0 (Nat.le_refl _);have k0:=Blk.newEq hW0;have hdi:=hide (fun(a b:Int) W (hb:Below w.heap.size w W)=>rG A c H Al cl l a b W (h.below hb) hn (hl.below hb) (by omega));have han:=hide (fun(a b:Int) W (hb:Below w.heap.size w W)=>Gb A c H Al cl l a b W (h.below hb) hn (hl.below hb) hln);have hH:=hn.1;have c0:=Blk.n0 k0;clear h hl;by_cases h0:level=0
 ·subst h0;have hre:Hid (isB H 0 l x y=(aL H l x y||eY H l x y)):=hide rfl;rw[hre.out];have hd1:=hide (hdi.out x y W0 hB);have ha1:=hide (fun W (hb:Below W0.heap.size W0 W)=>han.out x y W (hB.trans (hb.mono hB.size)));generalize aL H l x y=q1 at*;generalize eY H l x y=q2 at*;clear hre hdi han;go_enter Tryz.func155,Tryz.ntmps155;go_wp2_with fail;refine hd1.out.mono ?_;rintro e w1 ⟨rfl,hb1⟩;have hb2:=hB.trans (hb1.mono hB.size);have ha2:=hide (ha1.out w1 hb1);have k1:=k0.below hb1 k0.lt;have c1:=Blk.n0 k1;clear hW0 c0 hd1 ha1;cases q1 with
  |true=>
   clear ha2;go_wp2;go_ret;exact⟨rfl,hb2⟩
  |false=>
   go_wp2_with fail;refine ha2.out.mono ?_;rintro e w2 ⟨rfl,hb3⟩;go_wp2;go_ret;exact⟨rfl,hb2.trans (hb3.mono hb2.size)⟩
 ·have g0:(level==0)=false:=(by simpa using h0);have g0n:(level !=0)=true:=(by simpa using h0);by_cases h1:level=1
  ·subst h1;have hre:Hid (isB H 1 l x y=(aL H l x y||(List.range H.length).any fun m=>aL H l x (m:Int)&&eY H l (m:Int) y)):=hide Ti;obtain⟨r,hr⟩:∃r,isB H 1 l x y=r:=⟨_,rfl⟩;rw[hr];rw[hr]at hre;clear hr h0;have hd0:=hide (hdi.out x y W0 hB);generalize aL H l x y=q0 at hre hd0;go_enter Tryz.func155,Tryz.ntmps155;go_wp2_with fail;refine hd0.out.mono ?_;rintro e w1 ⟨rfl,hb1⟩;have hB1:=hB.trans (hb1.mono hB.size);replace k0:=k0.below hb1 k0.lt;clear hW0 c0 hb1 hB hd0;cases q0 with
   |true=>
    obtain rfl:r=true:=(by rw[hre.out];rfl);clear hre;go_wp2;go_ret;exact⟨rfl,hB1⟩
   |false=>
    rw[Bool.false_or]at hre;have hyes:Hid (∀m,m<H.length→(aL H l x (m:Int)&&eY H l (m:Int) y)=true→r=true):=hide (fun m hm g=>by rw[hre.out,List.any_eq_true];exact⟨m,List.mem_range.2 hm,g⟩);have hno:Hid ((∀m,m<H.length→(aL H l x (m:Int)&&eY H l (m:Int) y)=false)→r=false):=hide (fun g=>by rw[hre.out,List.any_eq_false];intro m hm;rw[g m (List.mem_range.1 hm)];decide);clear hre;go_upto_region 10 with fail;go_loopw [13] (fun s32 wr=>∃m:Nat,m≤H.length∧s32= .int .i64 m∧Hid (∀m',m'<m→(aL H l x (m':Int)&&eY H l (m':Int) y)=false)∧Below w.heap.size w wr∧Blk wr w.heap.size 24 #[.slice A H.length c]) (fun s32 _=>H.length-(intOf s32).toNat);case atStart=>exact⟨0,Nat.zero_le _,by go_num,hide (fun m hm=>absurd hm (by omega)),hB1,k0⟩
    case round=>
     clear k0 hB1;obtain⟨m,hm,rfl,hall,hb,k0⟩:=hrel;have hm0:(0:Int)≤(m:Int):=Int.natCast_nonneg _;have c0:=Blk.n0 k0;by_cases hlt:m<H.length
     ·have hm1:(m:Int)<(H.length:Int):=(by omega);have hd1:=hide (hdi.out x (m:Int) wr hb);have ha1:=hide (fun W (hb2:Below wr.heap.size wr W)=>han.out (m:Int) y W (hb.trans (hb2.mono hb.size)));have hy:=hide (hyes.out m hlt);have hnx:=hide (fun(g:(aL H l x (m:Int)&&eY H l (m:Int) y)=false)=>(fun m' (hm':m'<m+1)=>(by
       by_cases e:m'=m
       ·subst e;exact g
       ·exact hall.out m' (by omega):(aL H l x (m':Int)&&eY H l (m':Int) y)=false)))
      generalize aL H l x (m:Int)=q1 at*;generalize eY H l (m:Int) y=q2 at*;go_wp2_with fail;refine hd1.out.mono ?_;rintro e w1 ⟨rfl,hb1⟩;have hb2:=hb.trans (hb1.mono hb.size);have ha2:=hide (ha1.out w1 hb1);have k1:=k0.below hb1 k0.lt;have c1:=Blk.n0 k1;clear c0 hd1 ha1 k0;cases q1 with
      |false=>
       have hn2:=hide (hnx.out rfl);clear ha2 hnx hy;go_wp2;go_roundw;case rel=>exact⟨m+1,by omega,by go_num,hn2,hb2,k1⟩
       case measure=>simp[intOf];omega
      |true=>
       go_wp2_with fail;refine ha2.out.mono ?_;rintro e w2 ⟨rfl,hb3⟩;have hb4:=hb2.trans (hb3.mono hb2.size);have k2:=k1.below hb3 k1.lt;clear ha2 c1;cases q2 with
       |true=>
        have hr:=hy.out rfl;subst hr;clear hnx hy hno hyes;go_wp2;go_ret;exact⟨rfl,hb4⟩
       |false=>
        have hn2:=hide (hnx.out rfl);clear hnx hy;go_wp2;go_roundw;case rel=>exact⟨m+1,by omega,by go_num,hn2,hb4,k2⟩
        case measure=>simp[intOf];omega
     ·have hr:=hno.out (fun m' hm'=>hall.out m' (by omega));subst hr;clear hyes hall;go_wp2;go_ret;exact⟨rfl,hb⟩
  ·have g1:(level !=1)=true:=(by simpa using h1);have hre:isB H level l x y=false:=(by unfold isB;rw[if_neg h0,if_neg h1]);rw[hre];clear hre h0 h1;go_enter Tryz.func155,Tryz.ntmps155;go_wp2;go_ret;exact⟨rfl,hB⟩
theorem qC{w:World}{n:Nat}:Below w.heap.size w (w.drewN n):=⟨rfl,rfl,rfl,Nat.le_refl _,fun _ _=>rfl⟩
set_option maxRecDepth 100000 in
theorem xJ(A:Option Addr)(c:Nat)(H:List Txn)(level:Int)(Al:Option Addr)(cl:Nat)(l:List Cho)(Ar:Option Addr)(cr:Nat)(row:List Int)(w:World)(h:aC w (Old w) (.slice A H.length c) H)(hn:aA H)(hl:aV w (Old w) (.slice Al l.length cl) l)(hln:l.length≤1000000)(hr:aM w (Old w) (.slice Ar row.length cr) row)(hrn:row.length≤1000000):
 Calls Tryz.prog 130 #[.agg #[.slice A H.length c],.int .i64 level,.slice Al l.length cl,.slice Ar row.length cr] w fun e w'=>e= .returned (.bool (iE H level l row))∧Below w.heap.size w w':=by
 obtain⟨W0,hW0⟩:∃W0,w.alloc (.cells #[.slice A H.length c] 24)=W0:=⟨_,rfl⟩;have hB:=ah (Below.refl w.heap.size w) hW0 (Nat.le_refl _);have k0:=Blk.newEq hW0;have his:=hide (fun(a b:Int) W (hb:Below w.heap.size w W)=>ML A c H level Al cl l a b W (h.below hb) hn (hl.below hb) hln);have hrw:=hide (fun W (hb:Below w.heap.size w W)=>hr.below hb);have hno:=hide (fun i (hi:i<row.length)=>JK (H:=H) (level:=level) (l:=l) hi);have hyes:=hide (EN (H:=H) (level:=level) (l:=l) (row:=row));generalize iE H level l row=r at*;clear h hl hr;go_enter Tryz.func130,Tryz.ntmps130;go_wp2_with fail;clear hW0;go_loopw [9] (fun s13 wr=>∃i:Nat,i≤row.length∧s13= .int .i64 i∧Hid (∀j,j<i→mJ H level l row j=true)∧Below w.heap.size w wr∧Blk wr w.heap.size 24 #[.slice A H.length c]) (fun s13 _=>row.length-(intOf s13).toNat);case atStart=>exact⟨0,Nat.zero_le _,by go_num,hide (fun j hj=>absurd hj (by omega)),hB,k0⟩
 case round=>
  clear k0 hB;obtain⟨Wo,rfl⟩:∃Wo,Wo=wr:=⟨_,rfl⟩;obtain⟨i,hi,rfl,hall,hb,k0⟩:=hrel;have hi0:(0:Int)≤(i:Int):=Int.natCast_nonneg _;by_cases hlt:i<row.length
  ·have hi1:(i:Int)<(row.length:Int):=(by omega);have hnx:=hide (fun(g:mJ H level l row i=true)=>(fun j (hj:j<i+1)=>(by
    by_cases e:j=i
    ·subst e;exact g
    ·exact hall.out j (by omega):mJ H level l row j=true)))
   have hn2:=hide (hno.out i hlt);have hj:(i+1)%row.length<row.length:=Nat.mod_lt _ (by omega);have hrA:Hid (mJ H level l row i=(!(row.take i).contains row[i]&&isB H level l row[i] row[(i+1)%row.length])):=hide (by
    unfold mJ;rw[List.getD_eq_getElem?_getD,List.getElem?_eq_getElem hlt,Option.getD_some,List.getD_eq_getElem?_getD,List.getElem?_eq_getElem hj,Option.getD_some])
   have lu:Hid (∀k,(hk:k<i)→row[k]=row[i]→(row.take i).contains row[i]=true):=hide (fun k hk e=>by
    rw[List.contains_iff_mem,←e];exact List.mem_iff_getElem.2 ⟨k,by rw[List.length_take];omega,by rw[List.getElem_take]⟩)
   have zQ:Hid ((∀k,(hk:k<i)→row[k]≠row[i])→(row.take i).contains row[i]=false):=hide (fun g=>by
    rw[←Bool.not_eq_true,List.contains_iff_mem];intro hm;obtain⟨k,hk,e⟩:=List.mem_iff_getElem.1 hm;rw[List.length_take]at hk;rw[List.getElem_take]at e;exact g k (by omega) e)
   go_upto_region 5 with fail;go_loopw [10] (fun s10 wq=>∃k:Nat,k≤i∧s10= .int .i64 k∧Hid (∀j,(hj:j<k)→(hk:k≤i)→row[j]≠row[i])∧Below w.heap.size w wq∧Blk wq w.heap.size 24 #[.slice A H.length c]) (fun s10 _=>i-(intOf s10).toNat);case atStart=>exact⟨0,Nat.zero_le _,by go_num,hide (fun j hj=>absurd hj (by omega)),hb,k0⟩
   case round=>
    clear k0 hb;obtain⟨Wi,rfl⟩:∃Wi,Wi=wr:=⟨_,rfl⟩;obtain⟨k,hk,rfl,bK,hb,k0⟩:=hrel;have hk0:(0:Int)≤(k:Int):=Int.natCast_nonneg _;have hI:=hrw.out Wi hb;by_cases hki:k<i
    ·have hk1:(k:Int)<(i:Int):=(by omega);have hk2:(k:Int)<(row.length:Int):=(by omega);have hk3:k<row.length:=(by omega);obtain⟨br,orr,rfl,-,x0⟩:=hI.at_ hlt;have y0:=(hI.cells hk3).2;by_cases he:row[k]=row[i]
     ·have hr2:=hn2.out (by rw[hrA.out,lu.out k hki he];rfl);subst hr2;have heb:(row[k]==row[i])=true:=(by simpa using he);clear hn2 hrA hnx hyes hno lu zQ hall bK he hI;go_wp2;go_quiet (fail);go_wp2;go_ret;exact⟨rfl,hb.trans (qC.mono hb.size)⟩
     ·have hnn:Hid (∀j,(hj:j<k+1)→(hk:k+1≤i)→row[j]≠row[i]):=hide (fun j hj hkk=>by
       rcases Nat.lt_or_ge j k with g|g
       ·exact bK.out j g (by omega)
       ·obtain rfl:j=k:=(by omega);exact he)
      have heb:(row[k]==row[i])=false:=(by simpa using he);clear bK he hI;go_wp2;go_quiet (fail);go_wp2;go_roundw;case rel=>exact⟨k+1,by omega,by go_num,hnn,hb.trans (qC.mono hb.size),k0.below qC k0.lt⟩
      case measure=>simp[intOf];omega
    ·obtain rfl:k=i:=(by omega);have hct:=zQ.out (fun j hj=>bK.out j hj (Nat.le_refl _));rw[hct]at hrA;obtain⟨br,orr,rfl,-,x0⟩:=hI.at_ hlt;have hxi:Hid (∀W,Below Wi.heap.size Wi W→W.cell? ⟨br,orr+k,none⟩=some (.int .i64 row[k])):=hide (fun W hbW=>((hI.below hbW).cells hlt).2);have hxj:Hid (∀W,Below Wi.heap.size Wi W→W.cell? ⟨br,orr+(k+1)%row.length,none⟩=some (.int .i64 row[(k+1)%row.length])):=hide (fun W hbW=>((hI.below hbW).cells hj).2);have hii:=hide (fun W (hbW:Below Wi.heap.size Wi W)=>his.out row[k] row[(k+1)%row.length] W (hb.trans (hbW.mono hb.size)));have hch:Hid (∀W,Below Wi.heap.size Wi W→W.cell? ⟨w.heap.size,0,none⟩=some (.slice A H.length c)):=hide (fun W hbW=>by have:=(k0.below hbW k0.lt).cell 0;simpa using this);clear lu zQ hct bK hI x0;generalize isB H level l row[k] row[(k+1)%row.length]=q2 at*;generalize row[(k+1)%row.length]=xj at*;generalize row[k]=xi at*;have hm:Hid (((k:Int)+1).tmod (row.length:Int)=(((k+1)%row.length:Nat):Int)):=hide (by rw[show(k:Int)+1=((k+1:Nat):Int) by omega];rfl);generalize hmm:(k+1)%row.length=mi at*;replace hmm:=hide hmm;have hmi:(mi:Int)<(row.length:Int):=(by omega);have Vu:(0:Int)≤(mi:Int):=Int.natCast_nonneg _;have hz0:((row.length:Int)==0)=false:=(by rw[beq_eq_false_iff_ne];omega);have hz1:(row.length==0)=false:=(by rw[beq_eq_false_iff_ne];omega);have hnil:Hid (row≠[]):=hide (fun e=>by rw[e]at hlt;simp at hlt);go_upto_region 9 with fail;refine bT (fun W=>Below Wi.heap.size Wi W) (by kernel_rfl) (by kernel_rfl) (Below.refl _ _).drew ?_;refine⟨.agg #[.slice A H.length c],fun W hW=>(by have v0:=hch.out W hW;go_wp2),?_⟩;refine⟨.int .i64 level,fun W hW=>(by go_wp2),?_⟩;refine⟨.slice Al l.length cl,fun W hW=>(by go_wp2),?_⟩;refine⟨.slice (some ⟨br,orr,none⟩) row.length cr,fun W hW=>(by go_wp2),?_⟩;refine⟨.int .i64 (k:Int),fun W hW=>(by go_wp2),?_⟩;refine⟨.pointer (some ⟨br,orr+k,none⟩),fun W hW=>(by go_wp2),?_⟩;refine⟨.int .i64 xi,fun W hW=>(by have v0:=hxi.out W hW;go_wp2),?_⟩;refine⟨.slice (some ⟨br,orr,none⟩) row.length cr,fun W hW=>(by go_wp2),?_⟩;refine⟨.int .i64 (k:Int),fun W hW=>(by go_wp2),?_⟩;refine⟨.int .i64 ((k:Int)+1),fun W hW=>(by go_wp2),?_⟩;refine⟨.slice (some ⟨br,orr,none⟩) row.length cr,fun W hW=>(by go_wp2),?_⟩;refine⟨.int .i64 (row.length:Int),fun W hW=>(by go_wp2),?_⟩;refine⟨.int .i64 (mi:Int),fun W hW=>(by have hm2:=hm.out;go_wp2;try exact hnil.out (by assumption)),?_⟩;refine⟨.pointer (some ⟨br,orr+mi,none⟩),fun W hW=>(by go_wp2),?_⟩;refine⟨.int .i64 xj,fun W hW=>(by have v0:=hxj.out W hW;go_wp2),?_⟩;refine⟨.bool q2,fun W hW=>(by
      go_wp2_with fail;refine(hii.out W hW).mono ?_;rintro e w' ⟨rfl,hb'⟩;replace hW:=hW.trans (hb'.mono hW.size);go_wp2),?_⟩
     refine⟨.bool q2,fun W hW=>(by go_wp2),?_⟩;intro W5 hW5;simp only[Act.put,sA,sZ,sS];have hb5:=hb.trans (hW5.mono hb.size);have k5:=k0.below hW5 k0.lt;cases q2 with
     |true=>
      have hn3:=hide (hnx.out (by rw[hrA.out];rfl));clear hnx hn2 hrA;go_wp2;go_roundw;case rel=>exact⟨k+1,by omega,by go_num,hn3,hb5,k5⟩
      case measure=>simp[intOf];omega
     |false=>
      have hr2:=hn2.out (by rw[hrA.out];rfl);subst hr2;clear hn2 hrA hnx hyes hno;go_wp2;go_ret;exact⟨rfl,hb5⟩
  ·obtain rfl:i=row.length:=(by omega);have hr2:=hyes.out hall.out;obtain⟨q,hq⟩:∃q,decide (0<row.length)=q:=⟨_,rfl⟩;have hq2:decide ((row.length:Int)>0)=q:=(by rw[←hq];simp);rw[hq]at hr2;subst hr2;clear hyes hno hall;go_wp2;go_ret;exact⟨rfl,hb⟩
end Go.Proofs.YtpjechjoijjhpaaGreatDoor
namespace Go.Inq
open Go Go.RowKit
structure bU(S:Nat→Prop)(w:World)(v:Value)(w':World)(v':Value):Prop where
 os:w'.os=w.os
 tape:w'.tape=w.tape
 output:w'.output=w.output
 size:w.heap.size≤w'.heap.size
 block:∀k,k<w.heap.size→v.ownBlock≠some k→¬S k→w'.heap[k]?=w.heap[k]?
 own:∀g,v'.ownBlock=some g→v.ownBlock=some g∨w.heap.size≤g
def NoS:Nat→Prop:=fun _=>False
theorem noS(b:Nat):¬NoS b:=id
section
variable{S:Nat→Prop}{w w1 w2:World}{v v1 v2:Value}
theorem bU.refl(S:Nat→Prop)(w:World)(v:Value):bU S w v w v:=⟨rfl,rfl,rfl,Nat.le_refl _,fun _ _ _ _=>rfl,fun _ h=> .inl h⟩
theorem bU.trans(h:bU S w v w1 v1)(h':bU S w1 v1 w2 v2):bU S w v w2 v2:=
 ⟨h'.os.trans h.os,h'.tape.trans h.tape,h'.output.trans h.output,Nat.le_trans h.size h'.size,fun k hk hv hS=>(h'.block k (Nat.lt_of_lt_of_le hk h.size) (fun e=>by rcases h.own k e with e|e;exact hv e;omega) hS).trans (h.block k hk hv hS),
  fun g hg=>by rcases h'.own g hg with e|e;exact h.own g e;exact .inr (Nat.le_trans h.size e)⟩
theorem bU.mono{S':Nat→Prop}(h:bU S w v w1 v1)(hS:∀b,S b→S' b):bU S' w v w1 v1:=⟨h.os,h.tape,h.output,h.size,fun k hk hv hn=>h.block k hk hv (fun g=>hn (hS k g)),h.own⟩
theorem bU.call{B:Nat}(h:bU S w v w1 v1)(hb:Below B w1 w2)(hB:w1.heap.size≤B):bU S w v w2 v1:=
 h.trans ⟨hb.os,hb.tape,hb.output,hb.size,fun k hk _ _=>hb.block k (by omega),fun g hg=> .inl hg⟩
theorem bU.alloc(h:bU S w v w1 v1)(o:Obj):bU S w v (w1.alloc o) v1:=h.call ((Below.refl _ _).alloc (Nat.le_refl _) o) (Nat.le_refl _)
theorem bU.drew(h:bU S w v w1 v1):bU S w v w1.drew v1:=⟨h.os,h.tape,h.output,h.size,h.block,h.own⟩
theorem bU.drewN(h:bU S w v w1 v1)(n:Nat):bU S w v (w1.drewN n) v1:=⟨h.os,h.tape,h.output,h.size,h.block,h.own⟩
theorem bU.aH(h:bU S w v w1 v1){p:Addr}(hp:v1.ownBlock=some p.block∨w.heap.size≤p.block∨S p.block)(u:Value):bU S w v (w1.setCell p u) v1:=
 ⟨h.os,h.tape,h.output,by simpa using h.size,fun k hk hv hS=>(Below.heap_setCell w1 p u k (fun e=>by
  subst e;rcases hp with e|e|e
  ·rcases h.own _ e with e|e
   ·exact hv e
   ·omega
  ·omega
  ·exact hS e)).trans (h.block k hk hv hS),h.own⟩
theorem bU.row(h:bU S w v w1 v1)(hg:w1.grownBy w2 v1.ownBlock)(hv:∀g,v2.ownBlock=some g→v1.ownBlock=some g∨w1.heap.size≤g):bU S w v w2 v2:=
 h.trans ⟨hg.os,hg.tape,hg.output,hg.size,fun k hk hv _=>hg.block k hk (fun e=>hv e.symm),hv⟩
theorem bU.agree{K:Nat→Prop}(h:bU S w v w1 v1)(hK:∀b,K b→b<w.heap.size∧v.ownBlock≠some b∧¬S b):Agree K w w1:=fun b hb=>h.block b (hK b hb).1 (hK b hb).2.1 (hK b hb).2.2
theorem bU.blk{g:Nat}{t:TypeId}{cs:Array Value}(h:bU S w v w1 v1)(hk:Blk w g t cs)(hv:v.ownBlock≠some g)(hS:¬S g):Blk w1 g t cs:=(h.block g hk.lt hv hS).trans hk
theorem bU.below{B:Nat}{w0:World}(h:bU S w v w1 v1)(hb:Below B w0 w)(hB:B≤w.heap.size)(hv:∀g,v.ownBlock=some g→B≤g)(hS:∀g,S g→B≤g):Below B w0 w1:=
 hb.trans ⟨h.os,h.tape,h.output,h.size,fun k hk=>h.block k (by omega) (fun e=>by have:=hv k e;omega) (fun e=>by have:=hS k e;omega)⟩
theorem bU.fF{B:Nat}{w0:World}(h:bU NoS w v w1 v1)(hb:Below B w0 w)(hB:B≤w.heap.size)(hv:∀g,v.ownBlock=some g→B≤g):Below B w0 w1:=h.below hb hB hv (fun g hg=>hg.elim)
theorem bU.other(h:bU S w v w1 v1){u:Value}{base:Nat}{e:TypeId}{size n:Nat}{xs:List Value}(hu:w.ownsRow base e size u n xs)(hv:∀g,u.ownBlock=some g→v.ownBlock≠some g∧¬S g):w1.ownsRow base e size u n xs:=by
 refine⟨hu.1,?_⟩;rcases hu.2 with h2|⟨g,cap,cur,h2,hg,hh,r⟩
 ·exact .inl h2
 ·refine .inr ⟨g,cap,cur,h2,hg,?_,r⟩;have hgl:g<w.heap.size:=by
   rcases Nat.lt_or_ge g w.heap.size with h|h
   ·exact h
   ·rw[Array.getElem?_eq_none h]at hh;cases hh
  have:=hv g (by rw[h2];rfl);rw[h.block g hgl this.1 this.2];exact hh
end
theorem DY {P:Program} {W:World} {ops:Array Oper} {rest:List Oper} {o:Oper} {a:Act} {Q:Exit→Act→World→Prop} {α:Type} {enc:α→List Value}
 (hgd:o.guard=none) (s x:Operand) (t:TypeId) (ho:o.op= .call {callee:= .builtin .append,args:=#[s,x],argTypes:=#[t,t]})
 (base:Nat) (e:TypeId) (i:TypeInfo) (z:Value) (size bytes:Nat) (ht:P.underlying t=some (.slice e)) (hi:P.info? e=some i) (hz:i.zero=some z)
 (hsize:i.size=size) (hby:i.bytes=bytes) (hzs:z.cells.size=size) (hsz:0<size)
 (v:Value) (l:List α) (hs:a.eval s=v) (hown:W.ownsRow base e size v l.length (l.map enc).flatten) (hen:∀x,(enc x).length=size)
 (x0:α) (cs:Array Value) (hcs:cs.toList=enc x0) (hx:a.eval x= .slice (some ⟨W.heap.size,0,none⟩) 1 1)
 (h1:∀x,∀u∈enc x,u.oneCell'=true) (h63:l.length+1≤maxLen) (hbytes:(l.length+1)*bytes≤140737488355328) (hbase:base≤W.heap.size)
 (h:∀v' w',w'.ownsRow base e size v' (l++[x0]).length ((l++[x0]).map enc).flatten→bU NoS W v w' v'→wpList P ops Q rest (a.put o.dst v') w'):
 wpList P ops Q (o::rest) a (W.alloc (.cells cs e)):=by
 refine aN (enc:=enc) hgd s x t ho base e i z size bytes ht hi hz hsize hby hzs hsz v l hs hown hen x0 cs hcs hx h1 h63 hbytes hbase W base (Nat.le_refl _) (Below.refl _ _) ?_;intro v' w' g1 g2 _ g4;refine h v' w' g1 (((bU.refl NoS W v).alloc _).row g2 ?_);intro g hg;rcases g4 with e|e
 ·exact .inl (e▸hg)
 ·rw[e]at hg;injection hg with hg
  subst hg;right;simp
end Go.Inq
namespace Go.Proofs.YtpjechjoijjhpaaGreatDoor
open Go.RowKit Go.Inq
set_option maxHeartbeats 8000000
attribute [local go_sem↓] Go.wp_at_zero Go.wp_at_succ
set_option maxRecDepth 100000 in
theorem z8(A:Option Addr)(c:Nat)(H:List Txn)(key:Int)(w:World)(h:aC w (Old w) (.slice A H.length c) H)(hr:aG H=true)(hn:aA H):
 Calls Tryz.prog 112 #[.agg #[.slice A H.length c],.int .i64 key] w (AO w (au (fJ H key))):=by
 obtain⟨ii,hii,hi1,hi2,hi3⟩:=info_parts gU;have h32:H.length≤32:=((aD H).1 hr).1;obtain⟨W0,hW0⟩:∃W0,w.alloc (.cells #[.slice A H.length c] 24)=W0:=⟨_,rfl⟩;have hB:=ah (Below.refl w.heap.size w) hW0 (Nat.le_refl _);have k0:=Blk.newEq hW0;have h0:=h.below hB;have hrc:=hide (gP A c H W0 h0 hn);rw[hr]at hrc;have c0:=Blk.n0 k0;go_enter Tryz.func112,Tryz.ntmps112;go_wp2_with fail;clear hW0 c0;refine hrc.out.mono ?_;rintro e w1 ⟨rfl,hb1⟩;have hB1:=hB.trans (hb1.mono hB.size);replace k0:=k0.below hb1 k0.lt;clear hrc h0 hb1 hB;go_wp2_with fail;go_loopw [5,7] (fun s5 s7 wr=>∃k:Nat,k≤H.length∧s7= .int .i64 k∧bA wr (w.heap.size+1) s5 (au (fV H key k))∧Below w.heap.size w wr∧Blk wr w.heap.size 24 #[.slice A H.length c]) (fun _ s7 _=>H.length-(intOf s7).toNat);case atStart=>exact⟨0,Nat.zero_le _,by go_num,bA.nil _ _,hB1,k0⟩
 case round=>
  clear k0 hB1;obtain⟨k,hk,rfl,hown,hb,k0⟩:=hrel;have hk1:(0:Int)≤(k:Int):=Int.natCast_nonneg _;have c0:=Blk.n0 k0;by_cases hlt:k<H.length
  ·have hk2:(k:Int)<(H.length:Int):=(by omega);obtain⟨b,off,Aw,cw,Ar,cr,rfl,_,d0,d1,d2,hws,_⟩:=aC.at_ (h.below hb) hlt;have hwl:H[k].writes.length≤maxLen:=(by have:=(hn.2 _ (List.getElem_mem hlt)).1;unfold maxLen;omega);have hst:=hide (yI H key k);rw[aQ hlt]at hst;have hcnt:(fV H key k).length≤k:=Nat.le_trans (List.length_filter_le _ _) (by simp);have hsn:=hide (iy (fV H key k) k);have hlq:=hide (aR (fV H key k));have hcw:=hide (eH H[k].bL Aw cw H[k].writes (.slice Ar H[k].reads.length cr) key (Old wr) wr hws (fun b h=>h) hwl);generalize H[k].writes=L at*;generalize H[k].bL=sy at*;generalize H[k].reads=Ry at*;generalize L.contains key=cb at*;obtain⟨Av,cv,rfl⟩:=hown.form;replace hown:=hide hown;clear hws;go_wp2_with fail;clear c0 d0 d1 d2;refine hcw.out.mono ?_;rintro e w3 ⟨rfl,hb2⟩;have hb3:=hb.trans (hb2.mono hb.size);have k3:=k0.below hb2 k0.lt;have hown3:=hide (own_below hown.out hb2 (Nat.le_refl _));have hsz2:=hb3.size;clear hcw hown hb2;cases cb with
   |true=>
    have oK:Hid (fV H key (k+1)=fV H key k++[k]):=hide (by rw[hst.out];rfl);clear hst;generalize fV H key k=L at*;have hkL:(au L).length+1≤maxLen:=(by rw[hlq.out];unfold maxLen;omega);have hkb:((au L).length+1)*8≤140737488355328:=(by rw[hlq.out];omega);generalize au L=D at*;go_wp2_with (at_builtin;go_loud (refine aN (enc:=Go.Inq.encI) rfl (.tmp 29) (.tmp 31) 35 rfl (w.heap.size+1) 3 ii _ 1 8 Tryz.underlying35 hii hi1 hi2 hi3 rfl (by decide) (.slice Av D.length cv) D rfl hown3.out (fun _=>rfl) (k:Int) _ rfl rfl Go.Inq.fD hkL hkb k3.lt w w.heap.size (by omega) hb3 ?_);intro v1 w6 hown1 hg1 hb1 jN);have k6:=(k3.alloc (.cells #[.int .i64 (k:Int)] 3)).grown hg1 (fun e=>by have:=(hown3.out.lt _ e.symm).1;omega);go_roundw;case rel=>exact⟨k+1,by omega,by go_num,by rw[oK.out,hsn.out];exact hown1,hb1,k6⟩
    case measure=>simp[intOf];omega
   |false=>
    have oK:Hid (fV H key (k+1)=fV H key k):=hide (by rw[hst.out];simp);clear hst;go_wp2;go_roundw;case rel=>exact⟨k+1,by omega,by go_num,by rw[oK.out];exact hown3.out,hb3,k3⟩
    case measure=>simp[intOf];omega
  ·obtain rfl:k=H.length:=(by omega);go_wp2;go_ret;exact⟨_,rfl,own_base' hown (by omega),hb⟩
def mh(H:List Txn)(k:Nat):List Cho:=((List.range k).map fun(key:Nat)=>jM (key:Int) (fJ H (key:Int))).flatten
theorem xK(H:List Txn)(k:Nat):mh H (k+1)=mh H k++jM (k:Int) (fJ H (k:Int)):=by
 unfold mh;rw[List.range_succ,List.map_append,List.flatten_append];simp
theorem xL{α β:Type}(p:α→Bool)(f:α→List β):∀l:List α,(∀x∈l,p x=false→f x=[])→((l.filter p).map f).flatten=(l.map f).flatten
 |[],_=>rfl
 |x::l,h=>by
  have ih:=xL p f l fun y hy=>h y (by simp[hy]);cases hp:p x with
  |true=>simp[hp,ih]
  |false=>simp[hp,ih,h x (by simp) hp]
theorem Jh{H:List Txn}(hr:aG H=true):mh H 16=dD H:=by
 have hb:∀t∈H,∀k∈t.writes,0≤k∧k<16:=fun t ht k hk=>by
  obtain⟨i,hi,rfl⟩:=List.getElem_of_mem ht;exact(((aD H).1 hr).2 i hi).TK k hk
 unfold mh dD;rw[yJ hb,List.map_map];symm;refine xL _ _ _ fun k _ hk=> ?_;have:fJ H (k:Int)=[]:=(by simpa using hk);show jM (k:Int) (fJ H (k:Int))=[];rw[this];rfl
theorem Ae{H:List Txn}(h32:H.length≤32):∀k,(mh H k).length≤k*1024
 |0=>by simp[mh]
 |k+1=>by
  rw[xK,List.length_append];have h1:=Ae h32 k;have h2:=rQ (k:Int) (fJ H (k:Int));have h3:=pF H (k:Int);have h4:(fJ H (k:Int)).length*(fJ H (k:Int)).length≤32*32:=Nat.mul_le_mul (by omega) (by omega);omega
theorem Gc{L:List Nat}{key:Int}{i y:Nat}(hi:i<L.length)(hy:y<L.length)(hiy:i+1≤y)(P:List Cho):
 P++(((L.drop (i+1)).take (y+1-(i+1))).map fun(b:Nat)=>(⟨key,(L[i]:Nat),b⟩:Cho))=(P++(((L.drop (i+1)).take (y-(i+1))).map fun(b:Nat)=>(⟨key,(L[i]:Nat),b⟩:Cho)))++[⟨key,(L[i]:Nat),(L[y]:Nat)⟩]:=by
 have hd:y-(i+1)<(L.drop (i+1)).length:=(by rw[List.length_drop];omega);rw[show y+1-(i+1)=y-(i+1)+1 by omega,List.take_succ_eq_append_getElem hd,List.map_append,←List.append_assoc];congr 1;simp only[List.map_cons,List.map_nil,List.getElem_drop];congr 3;congr 1;congr 1;omega
set_option maxRecDepth 100000 in
theorem DZ(A:Option Addr)(c:Nat)(H:List Txn)(w:World)(h:aC w (Old w) (.slice A H.length c) H)(hr:aG H=true)(hn:aA H):
 Calls Tryz.prog 71 #[.agg #[.slice A H.length c]] w (ED w (dD H)):=by
 obtain⟨ic,hic,hi1,hi2,hi3⟩:=info_parts gY;have h32:H.length≤32:=((aD H).1 hr).1;have hall:=hide (Jh hr);have hlen:=hide (Ae h32);obtain⟨W0,hW0⟩:∃W0,w.alloc (.cells #[.slice A H.length c] 24)=W0:=⟨_,rfl⟩;have hB:=ah (Below.refl w.heap.size w) hW0 (Nat.le_refl _);have k0:=Blk.newEq hW0;go_enter Tryz.func71,Tryz.ntmps71;go_wp2_with fail;clear hW0;go_loopw [3,4] (fun s3 s4 wr=>∃k:Nat,k≤16∧s4= .int .i64 k∧bG wr (w.heap.size+1) s3 (mh H k)∧Below w.heap.size w wr∧Blk wr w.heap.size 24 #[.slice A H.length c]) (fun _ s4 _=>16-(intOf s4).toNat);case atStart=>exact⟨0,Nat.zero_le _,by go_num,bG.nil _ _,hB,k0⟩
 case round=>
  clear k0 hB;obtain⟨k,hk,rfl,hown,hb,k0⟩:=hrel;have hk1:(0:Int)≤(k:Int):=Int.natCast_nonneg _;have c0:=Blk.n0 k0;by_cases hlt:k<16
  ·have hk2:(k:Int)<16:=(by omega);have hst:=hide (xK H k);have hlk:=hlen.out k;have hcw:=hide (z8 A c H (k:Int) wr (h.below hb) hr hn);have hLn:=pF H (k:Int);have hpa:=hide (rP (k:Int) (fJ H (k:Int)));have hpi:=hide (fun i (hi:i<(fJ H (k:Int)).length)=>wM (k:Int) (fJ H (k:Int)) hi);have hpl:=hide (rR (k:Int) (fJ H (k:Int)));generalize fJ H (k:Int)=L at*;obtain⟨Av,cv,rfl⟩:=hown.form;replace hr:=hide hr;generalize hq:mh H k=Q at*;replace hq:=hide hq;go_wp2_with fail;clear c0;refine hcw.out.mono ?_;rintro e wl ⟨vl,rfl,hLO,hbl⟩;obtain⟨Al,cl,hv⟩:=hLO.form;rw[aR]at hv;subst hv;have hLS:=hLO.sl (K:=fun b=>wr.heap.size≤b∧b<wl.heap.size) (fun g h1 h2=>⟨h1,h2⟩);have hb2:=hb.trans (hbl.mono hb.size);have k2:=k0.below hbl k0.lt;have hown2:bG wl (w.heap.size+1) (.slice Av Q.length cv) Q:=own_below hown hbl (Nat.le_refl _);have hlt2:=hide (fun g hg=>hown.lt g hg);clear hcw hLO hbl hb hown k0;go_wp2_with fail;go_loopw [3,6] (fun s3 s6 wq=>∃i:Nat,i≤L.length∧s6= .int .i64 i∧bG wq (w.heap.size+1) s3 (Q++bI k L i)∧bU NoS wl (.slice Av Q.length cv) wq s3) (fun _ s6 _=>L.length-(intOf s6).toNat);case atStart=>exact⟨0,Nat.zero_le _,by go_num,by simpa[bI]using hown2,bU.refl _ _ _⟩
   case round=>
    clear hown2;obtain⟨Wo,rfl⟩:∃Wo,Wo=wr:=⟨_,rfl⟩;obtain⟨i,hi,rfl,hown,hg⟩:=hrel;have yY:(0:Int)≤(i:Int):=Int.natCast_nonneg _;by_cases hil:i<L.length
    ·have yZ:(i:Int)<(L.length:Int):=(by omega);have Qh:=hide (hpi.out i hil);have ug:=hpl.out i;have hlen3:i*L.length≤32*32:=Nat.mul_le_mul (by omega) (by omega);obtain⟨Ar,cr,rfl⟩:=bG.form hown;replace hown:=hide hown;go_wp2_with fail;go_loopw [3,7] (fun s3 s7 wq=>∃y:Nat,i+1≤y∧y≤L.length∧s7= .int .i64 y∧bG wq (w.heap.size+1) s3 (Q++bI k L i++(((L.drop (i+1)).take (y-(i+1))).map fun(b:Nat)=>(⟨k,(L[i]:Nat),b⟩:Cho)))∧bU NoS wl (.slice Av Q.length cv) wq s3) (fun _ s7 _=>L.length-(intOf s7).toNat);case atStart=>exact⟨i+1,Nat.le_refl _,hil,by go_num,by simpa using hown.out,hg⟩
     case round=>
      clear hown hg;obtain⟨Wp,rfl⟩:∃Wp,Wp=wr:=⟨_,rfl⟩;obtain⟨y,hiy,hy,rfl,hown,hg⟩:=hrel;have XM:(0:Int)≤(y:Int):=Int.natCast_nonneg _;by_cases hyl:y<L.length
      ·have XO:(y:Int)<(L.length:Int):=(by omega);have hin:=hide (Gc (key:=(k:Int)) hil hyl hiy (Q++bI k L i));have hLq:=hLS.keep (K':=fun b=>wr.heap.size≤b∧b<wl.heap.size) (hg.agree fun b hb=>⟨hb.2,fun e=>by have:=(hlt2.out b e).2;omega,noS b⟩) (fun b h=>h);obtain⟨bl,ol,rfl,-,z0⟩:=hLq.at_ (i:=i) (by rw[aR];exact hil);have z1:=(hLq.cells (i:=y) (by rw[aR];exact hyl)).2;rw[iM hil]at z0;rw[iM hyl]at z1;have hDl:(Q++bI k L i++(((L.drop (i+1)).take (y-(i+1))).map fun(b:Nat)=>(⟨k,(L[i]:Nat),b⟩:Cho))).length≤100000:=by
        simp only[List.length_append,List.length_map,List.length_take,List.length_drop];omega
       generalize Q++bI k L i++(((L.drop (i+1)).take (y-(i+1))).map fun(b:Nat)=>(⟨k,(L[i]:Nat),b⟩:Cho))=D at*;generalize L[i]=a at*;generalize L[y]=b at*;obtain⟨Ad,cd,rfl⟩:=bG.form hown;have hkD:D.length+1≤maxLen:=(by unfold maxLen;omega);have hkb:(D.length+1)*24≤140737488355328:=(by omega);replace hown:=hide hown;have hsz2:w.heap.size+1≤Wp.heap.size:=(by have:=k2.lt;have:=hg.size;omega);go_wp2_with fail;refine bn [0,1,2,3,4,5,6,7,8,9,10] [11,12,13] (by kernel_rfl) (by kernel_rfl) (fun _ _ d _ _ h=>by cases d<;>exact h) ?_;simp only[List.filterMap_cons,List.filterMap_nil,gZ,gS];repeat still_step
       refine wpStill_nil ?_;have hown':=hide (show bG Wp.drew (w.heap.size+1) (.slice Ad D.length cd) D from hown.out);have hg':=hg.drew;have QJ:w.heap.size+1≤Wp.drew.heap.size:=hsz2;clear hg hsz2;change wpList _ _ _ _ _ Wp.drew;generalize Wp.drew=Wx at*;refine wpList_plain rfl (fun K hK=> ?_);go_simp;refine hK _ _ ?_;clear hK K;refine DY (enc:=dX) rfl (.tmp 29) (.tmp 40) 52 rfl (w.heap.size+1) 62 ic _ 3 24 Tryz.underlying52 hic hi1 hi2 hi3 rfl (by decide) (.slice Ad D.length cd) D rfl hown'.out (fun _=>rfl) (⟨(k:Int),(a:Int),(b:Int)⟩:Cho) _ rfl rfl bR hkD hkb QJ ?_;intro v1 w6 hown1 hg1;go_wp2;go_roundw;case rel=>exact⟨y+1,by omega,by omega,by go_num,by rw[hin.out];exact hown1,hg'.trans hg1⟩
       case measure=>simp[intOf];omega
      ·obtain rfl:y=L.length:=(by omega);have hq2:Q++bI k L i++(((L.drop (i+1)).take (L.length-(i+1))).map fun(b:Nat)=>(⟨k,(L[i]:Nat),b⟩:Cho))=Q++bI k L (i+1):=by
        rw[List.take_of_length_le (by simp),Qh.out,List.append_assoc]
       rw[hq2]at hown;clear hq2;go_wp2;go_roundw;case rel=>exact⟨i+1,by omega,by go_num,hown,hg⟩
       case measure=>simp[intOf];omega
    ·obtain rfl:i=L.length:=(by omega);have gD:=hide (show bG Wo (w.heap.size+1) u3 (mh H (k+1)) by rw[hst.out,←hpa.out];exact hown);have hbF:=hide (hg.fF hb2 hb2.size (fun g e=>by have:=(hlt2.out g e).1;omega));have k4:=hide (hg.blk k2 (fun e=>by have:=(hlt2.out _ e).1;omega) (noS _));clear hown hg;go_wp2;go_roundw;case rel=>exact⟨k+1,by omega,by go_num,gD.out,hbF.out,k4.out⟩
     case measure=>simp[intOf];omega
  ·obtain rfl:k=16:=(by omega);rw[hall.out]at hown;go_wp2;go_ret;exact⟨_,rfl,own_base' hown (by omega),hb⟩
theorem iJ(k a b:Int)(w:World):Calls Tryz.prog 44 #[.agg #[.int .i64 k,.int .i64 a,.int .i64 b]] w fun e w'=>e= .returned (.agg #[.int .i64 k,.int .i64 b,.int .i64 a])∧Below w.heap.size w w':=by
 obtain⟨W0,hW0⟩:∃W0,(w.alloc (.cells #[.int .i64 k,.int .i64 a,.int .i64 b] 62)).alloc (.cells #[.int .i64 0,.int .i64 0,.int .i64 0] 62)=W0:=⟨_,rfl⟩;have hb:=aF hW0;have k1:=Blk.fG hW0;have k2:=Blk.eP hW0;have a0:=Blk.n0 k1;have a1:=Blk.n1 k1;have a2:=Blk.n2 k1;have b0:=Blk.n0 k2;have b1:=Blk.n1 k2;have b2:=Blk.n2 k2;have f0:=k2.frozen 0;have f1:=k2.frozen 1;have f2:=k2.frozen 2;have hz:=hide (((hb.setCell (p:=⟨w.heap.size+1,0,none⟩) (by simp) (.int .i64 k)).setCell (p:=⟨w.heap.size+1,1,none⟩) (by simp) (.int .i64 b)).setCell (p:=⟨w.heap.size+1,2,none⟩) (by simp) (.int .i64 a));have hq:=((k2.aH 0 (.int .i64 k)).aH 1 (.int .i64 b)).aH 2 (.int .i64 a);simp only[sA,sZ,sS]at hq;have y0:=Blk.n0 hq;have y1:=Blk.n1 hq;have y2:=Blk.n2 hq;clear hq;go_enter Tryz.func44,Tryz.ntmps44;go_wp2_with fail;exact bodyPost_ret (v:= .agg #[.int .i64 k,.int .i64 b,.int .i64 a]) (by simp[results,Tryz.results44,go_sem,y0,y1,y2]) rfl ⟨rfl,hz.out⟩
end Go.Proofs.YtpjechjoijjhpaaGreatDoor
namespace Go.Inq
open Go
section
variable{ops:Array Oper}
def Ji(ms:List Nat)(i j:Nat):Bool:=(ms.getD i 0).testBit j
def Ka(ops:Array Oper)(ms:List Nat):Bool:=(List.range ops.size).all fun n=>(List.range n).all fun i=> !Ji ms n i||(match ops[n]? with
 |some o=>o.after.any fun e=>Region.binds .any e&&(decide (e.on<n)&&(e.on==i||(decide (i<e.on)&&Ji ms e.on i)))
 |none=>false)
theorem lH{md:Region.Mode}:∀{f f' j i:Nat},bF md ops f j i=true→f≤f'→bF md ops f' j i=true
 |0,_,_,_,h,_=>by simp[bF]at h
 |f+1,0,_,_,_,hf=>by omega
 |f+1,f'+1,j,i,h,hf=>by
  unfold bF at h⊢;cases ho:ops[j]? with
  |none=>rw[ho]at h;exact h
  |some o=>
   rw[ho]at h;dsimp only at h⊢;rw[←Array.any_toList,List.any_eq_true]at h⊢;obtain⟨e,he,h2⟩:=h;refine⟨e,he,?_⟩;rw[Bool.and_eq_true,Bool.or_eq_true]at h2⊢;exact⟨h2.1,h2.2.imp id fun g=>lH g (by omega)⟩
theorem Ah{ms:List Nat}(h:Ka ops ms=true):∀(n:Nat),n<ops.size→∀i,i<n→Ji ms n i=true→bF .any ops (n+1) n i=true:=by
 intro n
 induction n using Nat.strongRecOn with
 |ind n ih=>
  intro hn i hi hm;unfold Ka at h;have h1:=List.all_eq_true.1 (List.all_eq_true.1 h n (List.mem_range.2 hn)) i (List.mem_range.2 hi);rw[hm]at h1;unfold bF;cases ho:ops[n]? with
  |none=>rw[ho]at h1;simp at h1
  |some o=>
   rw[ho]at h1;dsimp only at h1⊢;simp only[Bool.not_true,Bool.false_or]at h1;rw[←Array.any_toList,List.any_eq_true]at h1⊢;obtain⟨e,he,h2⟩:=h1;refine⟨e,he,?_⟩;rw[Bool.and_eq_true,Bool.and_eq_true,decide_eq_true_eq,Bool.or_eq_true,Bool.and_eq_true,decide_eq_true_eq]at h2;rw[Bool.and_eq_true,Bool.or_eq_true];refine⟨h2.1,h2.2.2.imp id fun g=> ?_⟩;exact lH (ih e.on h2.2.1 (by omega) i g.1 g.2) (by omega)
def uU(ops:Array Oper)(ms:List Nat):Bool:=Ka ops ms&&(Region.noSelect ops&&(List.range ops.size).all fun i=>match ops[i]? with
 |none=>true
 |some o=>(o.after.all fun e=> !Region.binds .any e||decide (e.on<i))&&
  (List.range ops.size).all fun j=>match ops[j]? with
   |none=>true
   |some oj=>match oj.dst with
    |none=>true
    |some t=>(i==j||o.dst !=some t)&&(!(iN ops o).contains t||(decide (j<i)&&Ji ms i j)||(decide (i<j)&&Ji ms j i)||i==j))
theorem MN{ms:List Nat}(h:uU ops ms=true):fM ops=true:=by
 unfold uU at h;rw[Bool.and_eq_true,Bool.and_eq_true]at h;obtain⟨hm,hs,hall⟩:=h;have hw:=Ah hm;unfold fM;rw[Bool.and_eq_true];refine⟨hs,List.all_eq_true.2 fun i hi=> ?_⟩;have hi':=List.mem_range.1 hi;have h1:=List.all_eq_true.1 hall i hi;cases ho:ops[i]? with
 |none=>rfl
 |some o=>
  rw[ho]at h1;dsimp only at h1⊢;rw[Bool.and_eq_true]at h1⊢;refine⟨h1.1,List.all_eq_true.2 fun j hj=> ?_⟩;have hj':=List.mem_range.1 hj;have h2:=List.all_eq_true.1 h1.2 j hj;cases hoj:ops[j]? with
  |none=>rfl
  |some oj=>
   rw[hoj]at h2;dsimp only at h2⊢;cases ht:oj.dst with
   |none=>rfl
   |some t=>
    rw[ht]at h2;dsimp only at h2⊢;rw[Bool.and_eq_true]at h2⊢;refine⟨h2.1,?_⟩;have h3:=h2.2;rw[Bool.or_eq_true,Bool.or_eq_true,Bool.or_eq_true,Bool.and_eq_true,Bool.and_eq_true,decide_eq_true_eq,decide_eq_true_eq]at h3⊢;rcases h3 with((g|g)|g)|g
    ·exact .inl (.inl (.inl g))
    ·exact .inl (.inl (.inr ⟨g.1,lH (hw i hi' j g.1 g.2) (by omega)⟩))
    ·exact .inl (.inr ⟨g.1,lH (hw j hj' i g.1 g.2) (by omega)⟩)
    ·exact .inr g
end
section
variable{P:Program}{Q:Exit→Act→World→Prop}{a:Act}
theorem Ai {id:Nat} {w:World} {l:List Oper} (ms:List Nat) (Rs:Nat→(Nat→Value)→World→Prop) (S:World→Prop) (St:Nat→World→World→Prop) (dp:Nat→List Nat) (hm:P.follows .mixedOrders=true) (hB:uU l.toArray ms=true)
 (hdp:((List.range l.length).all fun i=>(dp i).all fun j=>decide (j<i)&&Ji ms i j)=true) (RJ:∀i,l.length≤i→dp i=[])
 (hcg:∀j vs vs' w,(∀k,k=j∨k∈dp j→vs k=vs' k)→Rs j vs w→Rs j vs' w) (hR:∀i j vs w w',j≠i→Rs j vs w→St i w w'→Rs j vs w') (hS:S w.drew)
 (hstep:∀i o,l[i]?=some o→∀(vs:Nat→Value) w,S w→(∀j∈dp i,Rs j vs w)→wpList P l.toArray (r9 (fun v w'=>Rs i (cK vs i v) w'∧S w'∧St i w w') (acV l.toArray a vs i) o.dst) [o] (acV l.toArray a vs i) w)
 (hend:∀(vs:Nat→Value) w,S w→(∀j,j<l.length→Rs j vs w)→Q .normal (acV l.toArray a vs l.length) w):(Code.region id l.toArray true).wp P Q a w:=by
 have hsz:l.toArray.size=l.length:=(by simp);have hmb:Ka l.toArray ms=true:=by
  unfold uU at hB;rw[Bool.and_eq_true]at hB;exact hB.1
 refine ig Rs S St dp hm (MN hB) (List.all_eq_true.2 fun i hi=>List.all_eq_true.2 fun j hj=> ?_) RJ (fun _=>[]) (List.all_eq_true.2 fun i hi=>rfl) hcg (fun i j vs w w' h1 _ h2 h3=>hR i j vs w w' h1 h2 h3) hS hstep fun vs w h1 h2=>hend vs w h1 fun j hj=>h2 j hj fun i _ hn=>(by cases hn);have h1:=List.all_eq_true.1 (List.all_eq_true.1 hdp i hi) j hj;have hi':=List.mem_range.1 hi;rw[Bool.and_eq_true,decide_eq_true_eq]at h1;exact lH (Ah hmb i (by rw[hsz];exact hi') j h1.1 h1.2) (by omega)
end
end Go.Inq
namespace Go.Inq
open Go Go.RowKit
structure Wq where
 p:Value→World→Prop
 st:∀(v:Value) (W W':World),p v W→Below W.heap.size W W'→p v W'
def qV(x:Value):Wq:=⟨fun v _=>v=x,fun _ _ _ h _=>h⟩
def RsB(ws:List Wq)(j:Nat)(vs:Nat→Value)(W:World):Prop:=
 match ws[j]? with
 |some q=>q.p (vs j) W
 |none=>True
section
variable{P:Program}{Q:Exit→Act→World→Prop}{a:Act}
theorem l7 {id:Nat} {w W0:World} {l:List Oper} (ws:List Wq) (ms:List Nat) (dps:List (List Nat)) (hm:P.follows .mixedOrders=true) (hB:uU l.toArray ms=true)
 (hdp:((List.range l.length).all fun i=>(dps.getD i []).all fun j=>decide (j<i)&&Ji ms i j)=true) (hln:dps.length≤l.length) (hS:Below W0.heap.size W0 w)
 (hstep:∀i o,l[i]?=some o→∀(vs:Nat→Value) W,Below W0.heap.size W0 W→(∀j∈dps.getD i [],RsB ws j vs W)→wpList P l.toArray (r9 (fun v w'=>RsB ws i (cK vs i v) w'∧Below W0.heap.size W0 w'∧Below W.heap.size W w') (acV l.toArray a vs i) o.dst) [o] (acV l.toArray a vs i) W)
 (hend:∀(vs:Nat→Value) W,Below W0.heap.size W0 W→(∀j,j<l.length→RsB ws j vs W)→Q .normal (acV l.toArray a vs l.length) W):(Code.region id l.toArray true).wp P Q a w:=by
 refine Ai ms (RsB ws) (fun W=>Below W0.heap.size W0 W) (fun(_:Nat) (W W':World)=>Below W.heap.size W W') (fun i=>dps.getD i []) hm hB hdp (fun i hi=> ?_) (fun j vs vs' W hk h=> ?_) (fun i j vs W W' _ h hs=> ?_) hS.drew hstep hend
 ·rw[List.getD_eq_getElem?_getD,List.getElem?_eq_none (by omega)];rfl
 ·unfold RsB at h⊢;rw[←hk j (.inl rfl)];exact h
 ·unfold RsB at h⊢;cases hw:ws[j]? with
  |none=>trivial
  |some q=>rw[hw]at h;exact q.st _ _ _ h hs
end
end Go.Inq
