/-
  Walks: layer 18: who reads ahead of whose write.
-/
import Derived.Test.YtfhnamomiaekdaaGreatDoorP17
import Derived.Test.YtfhnamomiaekdaaGreatDoorP15
set_option linter.unusedVariables false
set_option linter.unusedSimpArgs false
namespace Go.Proofs.YtfhnamomiaekdaaGreatDoor
open Go.RowKit Go.Inq
set_option maxHeartbeats 4000000
attribute [local go_sem↓] Go.wp_at_zero Go.wp_at_succ
def xS(H:List Txn)(c:Cho):au:=fun x y=>decide (c.b=(y:Int))&&decide (x≠y)&&(aF H x).reads.any fun r=>decide (r.a=c.key)&&decide (r.b=c.a)
theorem JH(H:List Txn)(l:List Cho):rwE H l=fun x y=>lV H x y||l.any fun c=>xS H c x y:=rfl
def ku(H:List Txn)(l:List Cho)(c:Cho)(t:Nat):au:=fun x y=>rwE H l x y||(decide (x<t)&&xS H c x y)
theorem Dz(H:List Txn)(l:List Cho)(c:Cho):ku H l c 0=rwE H l:=by funext x y;simp[ku]
theorem Gw(H:List Txn){l:List Cho}{k n:Nat}(hk:k<l.length){x y:Nat}(hx:x<n):ku H (l.take k) l[k] n x y=rwE H (l.take (k+1)) x y:=by
 unfold ku;rw[JH,JH,take_snoc' hk];simp only[List.any_append,List.any_cons,List.any_nil,Bool.or_false,decide_eq_true hx,Bool.true_and,Bool.or_assoc]
theorem Gx{H:List Txn}{l:List Cho}{c:Cho}{t b:Nat}(hb:c.b=b)(hne:t≠b)(hs:((aF H t).reads.any fun r=>decide (r.a=c.key)&&decide (r.b=c.a))=true):orE (ku H l c t) (iQ t b)=ku H l c (t+1):=by
 funext x y;unfold orE ku iQ;rw[Bool.or_assoc];congr 1;by_cases e1:x=t
 ·subst e1;by_cases e2:y=b
  ·subst e2;simp[xS,hb,hne,hs]
  ·have:decide (c.b=(y:Int))=false:=(by rw[hb];simp;omega);simp[xS,e2,this]
 ·have:decide (x<t+1)=decide (x<t):=(by simp;omega);simp[e1,this]
theorem JI{H:List Txn}{l:List Cho}{c:Cho}{t b:Nat}(hb:c.b=b)(h:t=b∨((aF H t).reads.any fun r=>decide (r.a=c.key)&&decide (r.b=c.a))=false):ku H l c t=ku H l c (t+1):=by
 funext x y;unfold ku;congr 1;by_cases e1:x=t
 ·subst e1;have:xS H c x y=false:=by
   unfold xS;rcases h with h|h
   ·subst h;by_cases e2:y=x
    ·subst e2;simp
    ·have:decide (c.b=(y:Int))=false:=(by rw[hb];simp;omega);simp[this]
   ·rw[h];simp
  simp[this]
 ·have:decide (x<t+1)=decide (x<t):=(by simp;omega);rw[this]
theorem Ld(H:List Txn)(x y:Nat):lV H x y=rwE H [] x y:=by simp[rwE]
set_option maxRecDepth 100000 in
theorem JJ(A:Option Addr)(c:Nat)(H:List Txn)(Al:Option Addr)(cl:Nat)(l:List Cho)(w:World)(h:aA w (Old w) (.slice A H.length c) H)(hn:aG H)(hl:bR w (Old w) (.slice Al l.length cl) l)(hr:gW H l=true):
 Calls Tryz.prog 99 #[.agg #[.slice A H.length c],.slice Al l.length cl] w (lW w H.length (rwE H l)):=by
 obtain⟨W0,hW0⟩:∃W0,(w.alloc (.cells #[.slice A H.length c] 24)).alloc (.cells #[.int .i64 0,.slice none 0 0] 77)=W0:=⟨_,rfl⟩;have hB:=aN hW0;have k0:=Blk.jg hW0;have k1:=Blk.iB hW0;have hs0:=size_two hW0;have hrh:=mV hr;have h32:H.length≤32:=((aC H).1 hrh).1;have hll:=oQ hr;have hcn:=hide (fun x hx=>uT hr (x:=x) hx);have hrl:=hide (fun i (hi:i<H.length)=>(hn.2 _ (List.getElem_mem hi)).2);have h0:=hide (h.below hB);have hl0:=hide (hl.below hB);replace hr:=hide hr;replace hn:=hide hn;replace hl:=hide hl;replace h:=hide h;replace hrh:=hide hrh;have c0:=Blk.n0 k0;replace hs0:=hide hs0;go_enter Tryz.func99,Tryz.ntmps99;go_wp2_with fail;clear hW0 c0;refine(mU A c H Al cl l _ h0.out hn.out hl0.out (by omega)).mono ?_;rintro e w1 ⟨rfl,hb1⟩;rw[hr.out];have hs1:w.heap.size+2≤w1.heap.size:=(by have:=hb1.size;have:=hs0.out;omega);replace k0:=k0.below hb1 k0.lt;replace k1:=k1.below hb1 k1.lt;have hb2:=hB.trans (hb1.mono hB.size);have h1:=hide (h0.out.below hb1);clear hb1 hB h0 hl0 hs0;have c0:=Blk.n0 k0;go_wp2_with fail;refine(Dy A c H _ h1.out hn.out hrh.out).mono ?_;rintro e w2 ⟨g,hgs,rfl,kR,hb3⟩;replace k0:=k0.below hb3 k0.lt;replace k1:=k1.below hb3 k1.lt;replace hb2:=hb2.trans (hb3.mono hb2.size);have hs2:w1.heap.size≤w2.heap.size:=hb3.size;obtain⟨W3,hW3⟩:∃W3,w2.alloc (.cells #[.int .i64 H.length,.slice (some ⟨g,0,none⟩) H.length H.length] 77)=W3:=⟨_,rfl⟩;have k3:=Blk.newEq hW3;have hs3:=aD hW3;replace k0:=k0.av hW3;replace k1:=k1.av hW3;replace kR:=kR.av hW3;have hb5:=ah hb2 hW3 (by omega);have aV:dG W3 w2.heap.size (w.heap.size+2) H.length (rwE H (l.take 0)):=⟨g,by omega,k3,by rw[List.take_zero,←cu (fun a b _ _=>Ld H a b)];exact kR⟩;have NW:=hide (fun W' (hg:W3.grownBy W' (some w2.heap.size))=>(Agree.below hb5 (K:=Old w) (fun b h=>h)).trans (Agree.grown hg fun b hb=>by have:b<w.heap.size:=hb;exact⟨by omega,by simp;omega⟩));replace hs3:=hide hs3;clear hb3 c0 k3 kR hb2 h1;go_wp2_with fail;clear hW3;go_loopw [19] (fun s19 wr=>∃k:Nat,k≤l.length∧s19= .int .i64 k∧dG wr w2.heap.size (w.heap.size+2) H.length (rwE H (l.take k))∧W3.grownBy wr (some w2.heap.size)) (fun s19 _=>l.length-(intOf s19).toNat);case atStart=>exact⟨0,Nat.zero_le _,by go_num,aV,World.grownBy.refl _ _⟩
 case round=>
  clear aV;obtain⟨Wo,rfl⟩:∃Wo,Wo=wr:=⟨_,rfl⟩;obtain⟨k,hk,rfl,aV,hgw⟩:=hrel;have hi1:(0:Int)≤(k:Int):=Int.natCast_nonneg _;by_cases hlt:k<l.length
  ·have hi2:(k:Int)<(l.length:Int):=(by omega);obtain⟨b,off,rfl,_,d0,d1,d2⟩:=(hl.out.keep (NW.out Wo hgw) (fun b h=>h)).at_ hlt;obtain⟨xa,xb,ha,hb,ha2,hb2⟩:=hcn.out _ (List.getElem_mem hlt);have hend:=hide (fun x y (hx:x<H.length)=>Gw H hlt (n:=H.length) (y:=y) hx);have hzero:=hide (Dz H (l.take k) l[k]);have hyes:=hide (fun t (hne:t≠xb)=>Gx (H:=H) (l:=l.take k) (t:=t) hb hne);have hno:=hide (fun t=>JI (H:=H) (l:=l.take k) (t:=t) hb);rw[ha]at d1 hyes hno;rw[hb]at d2;generalize hx0:l[k]=x at*;obtain⟨key,ya,yb⟩:=x;dsimp only at*;clear hx0 ha hb;obtain⟨W4,hW4⟩:∃W4,Wo.alloc (.cells #[.int .i64 key,.int .i64 xa,.int .i64 xb] 102)=W4:=⟨_,rfl⟩;have kC:=Blk.newEq hW4;have hg4:W3.grownBy W4 (some w2.heap.size):=(by rw[←hW4];exact aj hgw (World.grownBy_alloc _ _ _));have E5:dG W4 w2.heap.size (w.heap.size+2) H.length (ku H (l.take k) ⟨key,ya,yb⟩ 0):=(by rw[hzero.out,←hW4];exact aV.grown (r:=none) (World.grownBy_alloc _ _ _) (fun k e=>by cases e));have m0:=k0.grown hg4 (by simp;omega);have c0:=Blk.n0 m0;have QX:w2.heap.size<Wo.heap.size:=(by have:=aV.lt;exact this);go_wp2_with fail;clear d0 d1 d2 c0 hW4 aV m0;go_loopw [26] (fun s26 wr=>∃t:Nat,t≤H.length∧s26= .int .i64 t∧dG wr w2.heap.size (w.heap.size+2) H.length (ku H (l.take k) ⟨key,ya,yb⟩ t)∧W4.grownBy wr (some w2.heap.size)) (fun s26 _=>H.length-(intOf s26).toNat);case atStart=>exact⟨0,Nat.zero_le _,by go_num,E5,World.grownBy.refl _ _⟩
   case round=>
    clear E5;obtain⟨t,ht,rfl,aV,hgq⟩:=hrel;have ht1:(0:Int)≤(t:Int):=Int.natCast_nonneg _;have MK:=aj hg4 hgq;by_cases hlt2:t<H.length
    ·have ht2:(t:Int)<(H.length:Int):=(by omega);have hag:=NW.out wr MK;have hTq:=aA.keep h.out hag (fun b h=>h);obtain⟨bt,ot,Aw,cw,Ar,cr,rfl,hKb,e0,e1,e2,_,hrs⟩:=aA.at_ hTq hlt2;have QY:=hrl.out t hlt2;have hyt:=hide (fun(hne:t≠xb)=>hyes.out t hne);have hnt:=hide (hno.out t);rw[aH hlt2]at hyt hnt;generalize H[t]=x at*;obtain⟨ts,ws,rs⟩:=x;dsimp only at*;have kCq:=kC.grown hgq (by simp;omega);obtain⟨W5,hW5⟩:∃W5,wr.alloc (.cells #[.int .i64 ts,.slice Aw ws.length cw,.slice Ar rs.length cr] 109)=W5:=⟨_,rfl⟩;have hB5:=ah (Below.refl wr.heap.size wr) hW5 (Nat.le_refl _);have kX:=Blk.newEq hW5;have kC5:=kCq.av hW5;have hg5:W4.grownBy W5 (some w2.heap.size):=(by rw[←hW5];exact aj hgq (World.grownBy_alloc _ _ _));have qd:dG W5 w2.heap.size (w.heap.size+2) H.length (ku H (l.take k) ⟨key,ya,yb⟩ t):=(by rw[←hW5];exact aV.grown (r:=none) (World.grownBy_alloc _ _ _) (fun k e=>by cases e));have MB:w.heap.size≤wr.heap.size:=(by have:=MK.size;have:=hb5.size;omega);have PE:=hide (hrs.keep (K':=Old W5) (Agree.below hB5 fun b hb=>by have:b<w.heap.size:=hb;omega) (fun b hb=>by have:b<w.heap.size:=hb;have:=hB5.size;show b<W5.heap.size;omega));have x2:=Blk.n2 kX;have y0:=Blk.n0 kC5;have y1:=Blk.n1 kC5;have y2:=Blk.n2 kC5;by_cases q1:t=xb
     ·have q1b:((t:Int) !=(xb:Int))=false:=(by simp[q1]);have q1c:(t !=xb)=false:=(by simp[q1]);have hst:=hide (hnt.out (.inl q1));have E8:=qd;have hgZ:=hg5;clear q1 hyt hnt hrs;go_wp2;go_roundw;case rel=>exact⟨t+1,by omega,by go_num,by rw[←hst.out];exact E8,hgZ⟩
      case measure=>simp[intOf];omega
     ·have q1b:((t:Int) !=(xb:Int))=true:=(by simp;omega);have q1c:(t !=xb)=true:=(by simp;omega);have ML:=hide (hyt.out q1);clear q1 hyt hrs;go_wp2_with fail;clear e0 e1 e2 hW5;refine(wG Ar cr rs key (xa:Int) _ PE.out (by omega)).mono ?_;rintro e W6 ⟨rfl,hb6⟩;have E8:=qd.below hb6;have hgZ:=aj hg5 (bC hb6 (Nat.le_refl _));have kC6:=kC5.below hb6 kC5.lt;clear x2 y0 y1 y2 qd hg5;cases hq:(rs.any fun x=>decide (x.a=key)&&decide (x.b=(xa:Int)))with
      |false=>
       have hst:=hide (hnt.out (.inr hq));clear hq hnt ML;go_wp2;go_roundw;case rel=>exact⟨t+1,by omega,by go_num,by rw[←hst.out];exact E8,hgZ⟩
       case measure=>simp[intOf];omega
      |true=>
       have hst:=hide (ML.out hq);clear hq hnt ML;obtain⟨g',hg',nX,hgl,kB,kR,hG⟩:=E8.open (by omega);have b0:=Blk.n0 kB;have b1:=Blk.n1 kB;have y2:=Blk.n2 kC6;go_wp2_with fail;clear b0 b1 y2;refine(qZ H.length (some ⟨g',0,none⟩) H.length _ t xb hlt2 hb2 (fun b=>b=g') _ hG (fun b hb=>by subst hb;exact hgl)).mono ?_;rintro e w7 ⟨g5,Pz,rfl,kR5,JG⟩;have kB5:=kB.below JG kB.lt;have c0:=Blk.n0 kB5;have c1:=Blk.n1 kB5;have f0:=kB5.frozen 0;have f1:=kB5.frozen 1;have hBl:=kB.lt;have PD:=(aj hg4 hgZ).size;go_wp2;go_roundw;case rel=>
        refine⟨t+1,by omega,by go_num,⟨g5,by omega,?_,?_⟩,aj hgZ (aj (aj (bC JG (Nat.le_refl _)) (bI w2.heap.size 0 _)) (bI w2.heap.size 1 _))⟩
        ·have:=(kB5.aK 0 (.int .i64 H.length)).aK 1 (.slice (some ⟨g5,0,none⟩) H.length H.length);simpa using this
        ·rw[←hst.out];exact(kR5.far (p:=⟨w2.heap.size,0,none⟩) (by simp;omega) _).far (p:=⟨w2.heap.size,1,none⟩) (by simp;omega) _
       case measure=>simp[intOf];omega
    ·obtain rfl:t=H.length:=(by omega);go_wp2;go_roundw;case rel=>exact⟨k+1,by omega,by go_num,aV.congr fun x y hx _=>hend.out x y hx,MK⟩
     case measure=>simp[intOf];omega
  ·obtain rfl:k=l.length:=(by omega);rw[List.take_length]at aV;obtain⟨g',hg',nX,hgl,kB,kR,hG⟩:=aV.open (by omega);have k14:=k1.grown hgw (by simp;omega);have hb4:=below_grown hb5 hgw hb5.size (by intro k hk;injection hk with hk;omega);have c0:=Blk.n0 kB;have c1:=Blk.n1 kB;have j0:=Blk.n0 k14;have j1:=Blk.n1 k14;have jf:=k14.frozen 0;have jf1:=k14.frozen 1;have n1:g'≠w.heap.size+1:=(by omega);go_wp2;have kF0:=((kR.far (p:=⟨w.heap.size+1,0,none⟩) n1 (.int .i64 H.length)).far (p:=⟨w.heap.size+1,1,none⟩) n1 (.slice (some ⟨g',0,none⟩) H.length H.length));have hF:=((hb4.setCell (p:=⟨w.heap.size+1,0,none⟩) (by simp) (.int .i64 H.length)).setCell (p:=⟨w.heap.size+1,1,none⟩) (by simp) (.slice (some ⟨g',0,none⟩) H.length H.length));exact bodyPost_ret (v:= .agg #[.int .i64 H.length,.slice (some ⟨g',0,none⟩) H.length H.length]) (by simp[results,Tryz.results99,go_sem,j0,j1]) rfl ⟨g',by omega,rfl,kF0,hF⟩
end Go.Proofs.YtfhnamomiaekdaaGreatDoor
