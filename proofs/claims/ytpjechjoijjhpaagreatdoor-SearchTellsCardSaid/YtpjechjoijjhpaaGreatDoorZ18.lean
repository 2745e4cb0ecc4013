/-
  Walks: layer 15: a cycle.
-/
import Derived.Test.YtpjechjoijjhpaaGreatDoorZ17
import Derived.Test.YtpjechjoijjhpaaGreatDoorZ02
import Derived.Test.YtpjechjoijjhpaaGreatDoorZ12
import Derived.Test.YtpjechjoijjhpaaGreatDoorZ09
import Derived.Test.YtpjechjoijjhpaaGreatDoorZ05
set_option linter.unusedVariables false
set_option linter.unusedSimpArgs false
namespace Go.Proofs.YtpjechjoijjhpaaGreatDoor
open Go.RowKit Go.Inq
set_option maxHeartbeats 8000000
attribute [local go_sem↓] Go.wp_at_zero Go.wp_at_succ
theorem Fj{n:Nat}{E:aj}(h:∀v,v<n→eG n E v v=0):fZ n E=[]:=by
 unfold fZ;have:(List.range n).find? (fun v=>bX n E v v !=0)=none:=by
  rw[List.find?_eq_none];intro v hv;have hv:=List.mem_range.1 hv;have:=h v hv;unfold eG at this;rw[if_pos hv]at this;simp[this]
 rw[this]
theorem Fp{n:Nat}{E:aj}{v:Nat}(hv:v<n)(h:∀u,u<v→eG n E u u=0)(h1:eG n E v v≠0):fZ n E=v::oz n E (bX n E v) v (bX n E v v-1):=by
 unfold fZ;have hA:∀u,u<n→eG n E u u=bX n E u u:=fun u hu=>(by unfold eG;rw[if_pos hu]);have:(List.range n).find? (fun v=>bX n E v v !=0)=some v:=by
  rw[List.find?_range_eq_some];refine⟨by rw[hA v hv]at h1;simpa using h1,List.mem_range.2 hv,fun u hu=> ?_⟩;have:=h u hu;rw[hA u (by omega)]at this;simp[this]
 rw[this]
theorem uG(n:Nat)(E:aj)(d:Nat→Nat)(x l:Nat):wY n E d x l=((List.range n).filter (E x)).find? fun y=>decide (d y=l):=by
 unfold wY;rw[List.find?_filter];congr 1;funext y;cases E x y<;>simp
theorem Qt{L:List Nat}{p:Nat→Bool}{y j:Nat}(h:L.find? p=some y)(hj:j<L.length)(h1:p L[j]=true)(h2:∀i (hi:i<L.length),i<j→p L[i]=false):L[j]=y:=by
 rw[List.find?_eq_some_iff_getElem]at h;obtain⟨g1,i,hi,rfl,g2⟩:=h;rcases Nat.lt_trichotomy i j with e|e|e
 ·rw[h2 i hi e]at g1;cases g1
 ·subst e;rfl
 ·have:=g2 j e;rw[h1]at this;cases this
theorem OG{L:List Nat}{p:Nat→Bool}{y:Nat}(h:L.find? p=some y)(h2:∀i (hi:i<L.length),p L[i]=false):False:=by
 rw[List.find?_eq_some_iff_getElem]at h;obtain⟨g1,i,hi,rfl,g2⟩:=h;rw[h2 i hi]at g1;cases g1
theorem JW{w:World}{base g:Nat}{t:TypeId}{x:Int}(h:Blk w g t #[.int .i64 x])(hb:base≤g):w.ownsRow base t 1 (.slice (some ⟨g,0,none⟩) 1 1) 1 [.int .i64 x]:=
 ⟨rfl,.inr ⟨g,1,#[.int .i64 x],rfl,hb,h,Nat.le_refl _,by decide,rfl,rfl⟩⟩
set_option maxRecDepth 100000 in
theorem zD(n:Nat)(A:Option Addr)(c:Nat)(E:aj)(w:World)(h:GrS w (Old w) n A c E)(hTB:jl w):
 Calls Tryz.prog 23 #[.agg #[.int .i64 n,.slice A n c]] w (AO w (au (fZ n E))):=by
 have dK:=h.n64;obtain⟨ii,hii,hz1,hz2,hz3⟩:=info_parts gU;obtain⟨W0,hW0⟩:∃W0,w.alloc (.cells #[.int .i64 n,.slice A n c] 78)=W0:=⟨_,rfl⟩;have hB:=ah (Below.refl w.heap.size w) hW0 (Nat.le_refl _);have k0:=Blk.newEq hW0;have hg:=h.below hB;have hT0:=hTB.below hB;have htn:=hide (zw n A c E (Old W0) W0 hg (fun b hb=>hb) hT0);have hh:Hid (∀W,Below w.heap.size w W→GrS W (Old W) n A c E):=hide (fun W hb=>h.below hb);have hTb:Hid (∀W,Below w.heap.size w W→jl W):=hide (fun W hb=>hTB.below hb);have c0:=Blk.n0 k0;have c1:=Blk.n1 k0;have hno:=hide (Fj (n:=n) (E:=E));have hat:=hide (fun v (hv:v<n)=>Fp (E:=E) hv);obtain⟨r,hr⟩:∃r,fZ n E=r:=⟨_,rfl⟩;rw[hr]at hno hat;rw[hr];clear h hTB hg hT0 hr;go_enter Tryz.func23,Tryz.ntmps23;go_wp2_with fail;clear hW0 c0 c1;refine htn.out.mono ?_;rintro e w1 ⟨g,hgs,rfl,kR,hb1⟩;have k1:=k0.below hb1 k0.lt;have hb2:=hB.trans (hb1.mono hB.size);go_upto_region 2 with fail;obtain⟨W3,hW3⟩:∃W3,w1.alloc (.cells #[.int .i64 n,.slice (some ⟨g,0,none⟩) n n] 78)=W3:=⟨_,rfl⟩;rw[hW3];have k3:=Blk.newEq hW3;replace k1:=k1.av hW3;replace kR:=kR.av hW3;have hb3:=ah hb2 hW3 hb2.size;have hs1:=hb2.size;have hs3:=aB hW3;have hgl:=kR.lt;clear hW3 htn hb1 hb2 k0 hB;generalize w1.heap.size=p3 at*;have c0:=Blk.n0 k1;go_wp2_with fail;clear c0;go_loopw [20] (fun s20 wr=>∃v:Nat,v≤n∧s20= .int .i64 v∧Hid (∀u,u<v→eG n E u u=0)∧Blk wr w.heap.size 78 #[.int .i64 n,.slice A n c]∧Blk wr p3 78 #[.int .i64 n,.slice (some ⟨g,0,none⟩) n n]∧Blk wr g 116 (bV n (eX E))∧Below w.heap.size w wr) (fun s20 _=>n-(intOf s20).toNat);case atStart=>exact⟨0,Nat.zero_le _,by go_num,hide (fun u hu=>absurd hu (by omega)),k1,k3,kR,hb3⟩
 case round=>
  clear k1 k3 kR hb3;obtain⟨Wo,rfl⟩:∃Wo,Wo=wr:=⟨_,rfl⟩;obtain⟨v,hv,rfl,hall,k1,k3,kR,hb⟩:=hrel;have hv0:(0:Int)≤(v:Int):=Int.natCast_nonneg _;by_cases hlt:v<n
  ·have hv1:(v:Int)<(n:Int):=(by omega);have hv64:v<64:=(by omega);have Xh:(v:Int)<64:=(by omega);have hfc:=hide (Lu n (some ⟨g,0,none⟩) n E v Wo (GrS.bP kR kR.lt dK) hlt (hTb.out Wo hb));have hnx:=hide (fun(e:eG n E v v=0)=>(fun u (hu:u<v+1)=>(by
    by_cases g:u=v
    ·subst g;exact e
    ·exact hall.out u (by omega):eG n E u u=0)))
   have hre:=hide (hat.out v hlt hall.out);have hcs:=hide (fun x (hx:x<n)=>(by unfold eG;rw[if_pos hx]:eG n E v x=bX n E v x));have hst:∀W:World,(storeCells ⟨W.heap.size,0,none⟩ (iK (eG n E v)).toList 0).run Tryz.prog (W.alloc (.cells (iK (fun _=>0)) 113))= .ok () (W.alloc (.cells (iK (eG n E v)) 113)):=fun W=>run_storeCells_new W 113 _ _ (by rw[mQ];exact yE) (by rw[mQ,mQ]) (Fe _);rw[←Fh]at hst;have d0:=Blk.n0 k3;have d1:=Blk.n1 k3;have hav:=hide (DF (D:=eG n E v) hv64);have hszA:=mQ (eG n E v);have hay:=hide (fun y (hy:y<n)=>(by rw[DF (by omega)];unfold eG;rw[if_pos hy]:(iK (eG n E v))[y]?=some (.int .i64 ((bX n E v y:Nat):Int))));obtain⟨arr,harr⟩:∃arr,iK (eG n E v)=arr:=⟨_,rfl⟩;rw[harr]at hst hfc hav hszA hay;replace harr:=hide harr;go_wp2_with fail;clear d0 d1;refine hfc.out.mono ?_;rintro e w4 ⟨rfl,hb4⟩;go_upto_region 8 with fail;obtain⟨W5,hW5⟩:∃W5,w4.alloc (.cells arr 113)=W5:=⟨_,rfl⟩;rw[hW5];have kd:=Blk.newEq hW5;have hb5:=ah hb4 hW5 hb4.size;have hs4:=hb4.size;have hs5:=aB hW5;replace k1:=k1.below hb5 k1.lt;replace k3:=k3.below hb5 k3.lt;replace kR:=kR.below hb5 kR.lt;have hb6:=hb.trans (hb5.mono hb.size);have hgo:=hb.size;replace hs5:=hide hs5;clear hW5 hb4 hfc hst hszA hb hb5;generalize w4.heap.size=pd at*;have e1:=kd.cell v;rw[hav.out]at e1;obtain⟨L,hL⟩:∃L,eG n E v v=L:=⟨_,rfl⟩;rw[hL]at e1 hre hnx;have Si:=hide (hcs.out v hlt);by_cases hL0:L=0
   ·have hLb:((L:Int)==0)=true:=(by simp[hL0]);have VU:(L==0)=true:=(by simp[hL0]);have hnx2:=hide (hnx.out hL0);clear hL0 hre hnx hL hav Si;go_wp2;go_roundw;case rel=>exact⟨v+1,by omega,by go_num,hnx2,k1,k3,kR,hb6⟩
    case measure=>simp[intOf];omega
   ·have hLb:((L:Int)==0)=false:=(by rw[beq_eq_false_iff_ne];omega);have VU:(L==0)=false:=(by simp[hL0]);obtain⟨M,hM⟩:∃M,L=M+1:=⟨L-1,by omega⟩;have zn:=hide (hre.out hL0);have hfv:Hid (bX n E v v=M+1):=hide (by rw[←Si.out,hL,hM]);have hle:Hid (bX n E v v≤n):=hide (mF hlt);have hMn:M<64:=(by have h1:=hfv.out;have h2:=hle.out;omega);have hLM:Hid ((L:Int)-1=(M:Int)):=hide (by omega);have hM1:Hid (bX n E v v-1=M):=hide (by rw[hfv.out];rfl);rw[hM1.out]at zn;replace hM:=hide hM;replace hL:=hide hL;clear hL0 hre hnx hav Si hall;go_upto_region 10 with fail;obtain⟨W6,hW6⟩:∃W6,W5.alloc (.cells #[.int .i64 (v:Int)] 3)=W6:=⟨_,rfl⟩;rw[hW6];have ko:=Blk.newEq hW6;have hb7:=ah (Below.refl W5.heap.size W5) hW6 (Nat.le_refl _);have ho0:Hid (bA W6 W5.heap.size (.slice (some ⟨W5.heap.size,0,none⟩) 1 1) (au ([]++[v]))):=hide (JW ko (Nat.le_refl _));have hs6:=hb6.size;have hpd:=kd.lt;have hTW:=hTb.out W5 hb6;have hga:=hide (hh.out W5 hb6);have e2:=(hb7.cell (p:=⟨pd,v,none⟩) hpd).trans e1;clear hW6 ko e1;go_upto_region 11 with fail;clear e2;go_loopw [7,8] (fun s7 s8 wq=>∃(l x:Nat) (pre:List Nat),s8= .int .i64 (l:Int)∧bA wq W5.heap.size s7 (au (pre++[x]))∧Below W5.heap.size W5 wq∧Hid ((pre++[x])++oz n E (bX n E v) x l=r)∧Hid (bX n E v x=l+1)∧x<n∧Hid (pre.length+l=M)) (fun _ s8 _=>(intOf s8).toNat);case atStart=>exact⟨M,v,[],by have h1:=hM.out;rw[←hLM.out];exact congrArg _ (Go.IntWalk.wrap64_in _ (by omega)),ho0.out,hb7,hide zn.out.symm,hfv,hlt,hide (by simp)⟩
    case round=>
     clear ho0 hb7;obtain⟨Wp,rfl⟩:∃Wp,Wp=wr:=⟨_,rfl⟩;obtain⟨l,x,pre,rfl,hO,hbp,hpa,hfx,hxn,hpl⟩:=hrel;have zF:(au (pre++[x])).length=pre.length+1:=(by rw[aR];simp);obtain⟨Ao,co,hv⟩:=bA.form hO;rw[zF]at hv;subst hv;replace zF:=hide zF;have hl0:(0:Int)≤(l:Int):=Int.natCast_nonneg _;by_cases hlz:l=0
     ·have hr2:pre++[x]=r:=(by have:=hpa.out;rw[hlz]at this;simpa[oz]using this);rw[hr2]at hO;have hlb:decide (0<l)=false:=(by simp[hlz]);clear hlz hpa hfx hr2;have hbw:=hb6.trans (hbp.mono hs6);replace hO:=hide hO;go_wp2;go_ret;exact⟨_,rfl,bO hO.out hs6,hbw⟩
     ·obtain⟨m,hm⟩:∃m,l=m+1:=⟨l-1,by omega⟩;have hlb:decide (0<l)=true:=(by simp;omega);obtain⟨y,hy1,hyn,hy2,hy3⟩:=rW (n:=n) (E:=E) (v:=v) (x:=x) (l:=m) (by rw[hfx.out,hm]);rw[uG]at hy1;have VW:Hid ((pre++[x])++[y]++oz n E (bX n E v) y m=r):=hide (by
       have:=hpa.out;rw[hm,rX (by rw[uG];exact hy1)]at this;rw[←this];simp)
      rw[←hm]at hy1;replace hy1:=hide hy1;have hN:pre.length<64:=(by have:=hpl.out;omega);have hN0:(0:Int)≤(pre.length:Int):=Int.natCast_nonneg _;have hN1:(pre.length:Int)<(pre.length:Int)+1:=(by omega);have hwr:IntKind.i64.wrap (pre.length:Int)=(pre.length:Int):=Go.IntWalk.i64_in _ (by omega);obtain⟨bo,oo,rfl,-,x0⟩:=aM.at_ (i:=pre.length) (bA.sl (K:=fun _=>True) hO (fun _ _ _=>trivial)) (by rw[zF.out];omega);have hxv:(au (pre++[x]))[pre.length]'(by rw[zF.out];omega)=(x:Int):=(by simp[au]);rw[hxv]at x0;have k1p:=k1.below hbp k1.lt;have c1:=Blk.n1 k1p;obtain⟨br,orr,rfl,-,r0⟩:=(hga.out.below hbp).at_ hxn;have hx0:(0:Int)≤(x:Int):=Int.natCast_nonneg _;have hx1:(x:Int)<(n:Int):=(by omega);have h64:=hide (fC (p:=E x) dK);have hli:Hid (au (jd (aX (E x) n))=au ((List.range n).filter (E x))):=hide (by rw[nu dK]);have hbl:=hide (nA (aX (E x) n) h64.out Wp.drew (hTW.below (aZ hbp)));rw[hli.out]at hbl;have Sj:∀y∈(List.range n).filter (E x),y<n:=fun y hy=>List.mem_range.1 (List.mem_filter.1 hy).1;have XC:((List.range n).filter (E x)).length≤64:=Nat.le_trans (List.length_filter_le _ _) (by simp;exact dK);generalize(List.range n).filter (E x)=L2 at*;generalize aX (E x) n=sx at*;replace Sj:=hide Sj;replace hm:=hide hm;replace hO:=hide hO;clear hxv hli hlz;go_upto_region 13 with fail;refine bn [0,1,2,3,4,5,6,7,8,9,12] [10,11] (by kernel_rfl) (by kernel_rfl) (fun _ _ d _ _ h=>by cases d<;>exact h) ?_;simp only[List.filterMap_cons,List.filterMap_nil,gZ,gS];repeat still_step
      refine wpStill_nil ?_;go_wp2_with fail;refine hbl.out.mono ?_;rintro e w8 ⟨vl,rfl,hO2,hb8⟩;obtain⟨Al,cl,rfl⟩:=bA.form hO2;have hln:=hide (aR L2);rw[hln.out]at hO2⊢;have hIs:=hide (bA.sl (K:=Old w8) hO2 (fun g _ h=>h));have hb9:=(aZ hbp).trans (hb8.mono hbp.size);have hO8:=hide (own_below (own_drewN (k:=1) hO.out) hb8 (Nat.le_refl _));have kd8:=(kd.below hb9 hpd);have hs9:=hb9.size;clear hO2 hbl hO hb8 k1p c1 r0 x0;go_wp2_with fail
      go_loop [7,52] (fun s7 s52=>∃j:Nat,j≤L2.length∧s52= .int .i64 (j:Int)∧s7= .slice (some ⟨bo,oo,none⟩) (pre.length+1) co∧Hid (∀i (hi:i<L2.length),i<j→decide (bX n E v L2[i]=l)=false)) (fun _ s52=>L2.length-(intOf s52).toNat)
      case atStart=>exact⟨0,Nat.zero_le _,by go_num,rfl,hide (fun i _ hi=>absurd hi (by omega))⟩
      case round=>
       obtain⟨j,hj,rfl,rfl,hnone⟩:=hrel;have hj0:(0:Int)≤(j:Int):=Int.natCast_nonneg _;by_cases hjl:j<L2.length
       ·have hj1:(j:Int)<(L2.length:Int):=(by omega);obtain⟨bl,ol,rfl,-,y0⟩:=hIs.out.at_ (i:=j) (by rw[hln.out];exact hjl);have hyv:(au L2)[j]'(by rw[hln.out];exact hjl)=(L2[j]:Int):=(by simp[au]);rw[hyv]at y0;have hzn:L2[j]<n:=Sj.out _ (List.getElem_mem hjl);have hfound:=hide (fun e=>Qt hy1.out hjl e hnone.out);have hnext:=hide (fun(e:decide (bX n E v L2[j]=l)=false)=>(fun i (hi:i<L2.length) (hij:i<j+1)=>(by
         by_cases g:i=j
         ·subst g;exact e
         ·exact hnone.out i hi (by omega):decide (bX n E v L2[i]=l)=false)))
        have e3:=kd8.cell L2[j];rw[hay.out _ hzn]at e3;obtain⟨z,hz⟩:∃z,L2[j]=z:=⟨_,rfl⟩;rw[hz]at y0 hzn hfound hnext e3;have hz0:(0:Int)≤(z:Int):=Int.natCast_nonneg _;have XD:z<64:=(by omega);have Xi:(z:Int)<64:=(by omega);have Ul:=hide hjl;clear hyv hz;obtain⟨dz,hdz⟩:∃dz,bX n E v z=dz:=⟨_,rfl⟩;rw[hdz]at hfound hnext e3;clear hdz;by_cases hq:dz=l
        ·have hq1:((dz:Int)==(l:Int))=true:=(by simp[hq]);have hq2:(dz==l)=true:=(by simp[hq]);have hzy:=hfound.out (by simp[hq]);subst hzy;clear hq hfound hnext hnone;have VX:(au (pre++[x])).length+1≤maxLen:=(by rw[zF.out];unfold maxLen;omega);have hkb:((au (pre++[x])).length+1)*8≤140737488355328:=(by rw[zF.out];omega);have hO9:Hid (w8.ownsRow W5.heap.size 3 1 (.slice (some ⟨bo,oo,none⟩) (pre.length+1) co) (au (pre++[x])).length ((au (pre++[x])).map Go.Inq.encI).flatten):=hide hO8.out;have hsn:=hide (iy (pre++[x]) z);have VY:Hid ((pre++[x]).length+m=M):=hide (by have h1:=hpl.out;have h2:=hm.out;rw[List.length_append,List.length_singleton];omega);have hm2:=hide (show(l:Int)-1=(m:Int) by have:=hm.out;omega);have hms:m<l:=(by have:=hm.out;omega);have hwl:IntKind.i64.wrap ((l:Int)-1)=(m:Int):=(by rw[hm2.out];exact Go.IntWalk.i64_in _ (by have:=hpl.out;omega));have Nw:RowKit.wrap64 ((l:Int)-1)=(m:Int):=(by rw[hm2.out];exact Go.IntWalk.wrap64_in _ (by have:=hpl.out;omega));go_upto_region 17 with fail;go_wp2_with (at_builtin;go_loud (refine aN (enc:=Go.Inq.encI) rfl (.tmp 61) (.tmp 63) 35 rfl W5.heap.size 3 ii _ 1 8 Tryz.underlying35 hii hz1 hz2 hz3 rfl (by decide) (.slice (some ⟨bo,oo,none⟩) (pre.length+1) co) (au (pre++[x])) rfl hO9.out (fun _=>rfl) (z:Int) _ rfl rfl Go.Inq.fD VX hkb hs9 W5 W5.heap.size (Nat.le_refl _) hb9 ?_);intro v7 w7 JX hg7 VZ mg);go_roundw;case rel=>exact⟨m,z,pre++[x],by first|rfl|exact congrArg _ hm2.out|exact congrArg _ Nw,by rw[←hsn.out]at JX;exact JX,VZ,VW,hide (by have h1:=hy3;exact h1),hyn,VY⟩
         case measure=>simp[intOf];omega
        ·have hq1:((dz:Int)==(l:Int))=false:=(by rw[beq_eq_false_iff_ne];omega);have hq2:(dz==l)=false:=(by simp[hq]);have hn2:=hide (hnext.out (by simp[hq]));clear hq hfound hnext;go_wp2
         go_round
         case rel=>exact⟨j+1,Ul.out,by go_num,rfl,hn2⟩
         case measure=>have:=Ul.out;simp[intOf];omega
       ·exfalso;exact OG hy1.out fun i hi=>hnone.out i hi (by omega)
  ·obtain rfl:v=n:=(by omega);have hr2:=hno.out hall.out;have hk:=hide hr2;clear hall;go_wp2;go_ret;exact⟨_,rfl,by rw[hk.out];exact World.ownsRow_nil _ _ _ _,hb⟩
end Go.Proofs.YtpjechjoijjhpaaGreatDoor
