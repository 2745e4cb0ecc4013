/-
  Plain words of layer 9: pairs are each there once, and a choice that may be is one, one way or the other; no program in sight.
-/
import Derived.Test.YtfhnamomiaekdaaGreatDoorProg
import Derived.Test.YtfhnamomiaekdaaGreatDoorRows
import Derived.Test.YtfhnamomiaekdaaGreatDoorCards
import Derived.Test.YtfhnamomiaekdaaGreatDoorTie
import Derived.ProofKit
import Derived.OpenShut
import Derived.LaidMore
import Derived.Lay
import Derived.SevenTiedAt
import Derived.Stop.Joined
import Derived.HandedShaped
import Derived.SliceStrings
import Derived.Deep.Slices
import Derived.Below
import Derived.Carry
import Derived.Lib.LaidU8
import Derived.Deep.Fields
import Derived.ChangeSame
import Derived.Lib.SmallJoins
import Derived.Deep.Strs
import Derived.JoinedOf
import Derived.Test.YtfhnamomiaekdaaGreatDoorU05
import Derived.Test.YtfhnamomiaekdaaGreatDoorU08
import Derived.Test.YtfhnamomiaekdaaGreatDoorU13
import Derived.Test.YtfhnamomiaekdaaGreatDoorU22
import Derived.Test.YtfhnamomiaekdaaGreatDoorU19
import Derived.Test.YtfhnamomiaekdaaGreatDoorU02
set_option linter.unusedVariables false
set_option linter.unusedSimpArgs false
namespace Go.Proofs.YtfhnamomiaekdaaGreatDoor
open Go.RowKit Go.Inq
end Go.Proofs.YtfhnamomiaekdaaGreatDoor
namespace Go.Inq
theorem Na{l l':List Cho}(h:∀c∈l,c∈l'){x y:Nat}(he:wwE l x y=true):wwE l' x y=true:=by
 unfold wwE at he⊢;rw[List.any_eq_true]at he⊢;obtain⟨c,hc,h2⟩:=he;exact⟨c,h c hc,h2⟩
theorem D6{H:List Txn}{l l':List Cho}(h:∀c∈l,c∈l'){x y:Nat}(he:rwE H l x y=true):rwE H l' x y=true:=by
 unfold rwE at he⊢;rw[Bool.or_eq_true]at he⊢;rcases he with he|he
 ·exact .inl he
 ·rw[List.any_eq_true]at he⊢;obtain⟨c,hc,h2⟩:=he;exact .inr ⟨c,h c hc,h2⟩
theorem rQ{H:List Txn}{level:Int}{l l':List Cho}(h:∀c∈l,c∈l'){x y:Nat}(he:aX H level l x y=true):aX H level l' x y=true:=by
 have hd:∀a b,orE (bG H) (wwE l) a b=true→orE (bG H) (wwE l') a b=true:=fun a b g=>by
  unfold orE at g⊢;rw[Bool.or_eq_true]at g⊢;exact g.imp id (Na h)
 show(orE (bG H) (wwE l') x y||(if level=1 then iT H.length (orE (bG H) (wwE l')) (rwE H l')else rwE H l') x y)=true;have he':(orE (bG H) (wwE l) x y||(if level=1 then iT H.length (orE (bG H) (wwE l)) (rwE H l)else rwE H l) x y)=true:=he;rw[Bool.or_eq_true]at he'⊢;rcases he' with g|g
 ·exact .inl (hd x y g)
 ·right;by_cases hl:level=1
  ·rw[if_pos hl]at g⊢;unfold iT at g⊢;rw[List.any_eq_true]at g⊢;obtain⟨b,hb,h2⟩:=g;rw[Bool.and_eq_true]at h2;exact⟨b,hb,by rw[hd x b h2.1,D6 h h2.2];rfl⟩
  ·rw[if_neg hl]at g⊢;exact D6 h g
theorem AO{E F:aj}(h:∀x y,E x y=true→F x y=true):∀(l:List Nat) (x y:Nat),iF E x l y=true→iF F x l y=true
 |[],x,y,hw=>h x y hw
 |a::l,x,y,hw=>by
  have hw':(E x a&&iF E a l y)=true:=hw;rw[Bool.and_eq_true]at hw';show(F x a&&iF F a l y)=true;rw[h x a hw'.1,AO h l a y hw'.2];rfl
theorem D7{n:Nat}{E F:aj}(h:∀x y,E x y=true→F x y=true)(hc:fV n E=true):fV n F=true:=by
 unfold fV at hc⊢;rw[List.any_eq_true]at hc⊢;obtain⟨x,hx,h2⟩:=hc;obtain⟨l,hl,hw⟩:=fO n x x h2;exact⟨x,hx,jQ n l.length l x x (Nat.le_refl _) hl (AO h l x x hw)⟩
def tL(H:List Txn)(level:Int)(l:List Cho):Bool:= !fV H.length (aX H level l)
theorem AQ{H:List Txn}{level:Int}{l l':List Cho}(h:∀c∈l,c∈l')(hg:tL H level l'=true):tL H level l=true:=by
 unfold tL at hg⊢;rw[Bool.not_eq_true']at hg⊢;rw[←Bool.not_eq_true]at hg⊢;exact fun hc=>hg (D7 (fun x y=>rQ h) hc)
theorem Gd(H:List Txn)(level:Int)(l:List Cho):(fD H.length (aX H level l)).isSome=tL H level l:=yu _ _
end Go.Inq
namespace Go.Proofs.YtfhnamomiaekdaaGreatDoor
open Go.RowKit Go.Inq
def Gf:List Cho→List Cho→Prop
 |[],[]=>True
 |p::P,c::C=>(c=p∨c=aL p)∧Gf P C
 |_,_=>False
theorem D8{f:Cho→Cho}:∀{P:List Cho},(∀p∈P,f p=p∨f p=aL p)→Gf P (P.map f)
 |[],_=>trivial
 |p::P,h=>⟨h p (by simp),D8 fun q hq=>h q (by simp[hq])⟩
theorem tN:∀{P C:List Cho},Gf P C→∀p∈P,p∈C∨aL p∈C
 |[],[],_,c,hc=>by cases hc
 |[],_::_,h,_,_=>h.elim
 |_::_,[],h,_,_=>h.elim
 |p::P,d::C,h,c,hc=>by
  rw[List.mem_cons]at hc;rcases hc with rfl|hc
  ·rcases h.1 with e|e
   ·exact .inl (by rw[←e];simp)
   ·exact .inr (by rw[←e];simp)
  ·rcases tN h.2 c hc with e|e
   ·exact .inl (by simp[e])
   ·exact .inr (by simp[e])
def Nb(H:List Txn)(level:Int):List Cho→List Cho→Bool
 |[],l=>tL H level l
 |c::P,l=>Nb H level P (l++[c])||Nb H level P (l++[aL c])
def hasB(H:List Txn)(level:Int):Bool:=Nb H level (aI H) []
set_option maxHeartbeats 1000000
theorem Gg{m:List Cho}{c:Cho}{a b:Nat}(h:c∈m)(ha:c.a=a)(hb:c.b=b):wwE m a b=true:=by
 unfold wwE;rw[List.any_eq_true];exact⟨c,h,by rw[ha,hb];simp⟩
theorem oZ{H:List Txn}{level:Int}{m:List Cho}{a b:Nat}(h:orE (bG H) (wwE m) a b=true):aX H level m a b=true:=by
 unfold aX;show(orE (bG H) (wwE m) a b||_)=true;rw[h];rfl
theorem HZ{H:List Txn}{a b:Int}(h:bD H [] a b=true):∃x y:Nat,a=x∧b=y∧x<H.length∧y<H.length∧bG H x y=true:=by
 unfold bD at h;rw[Bool.and_eq_true,iL]at h;obtain⟨⟨hr,x,y,rfl,rfl,hx,hy⟩,hd⟩:=h;refine⟨x,y,rfl,rfl,hx,hy,?_⟩;rw[Int.toNat_natCast,Int.toNat_natCast,mg hr (by simp) hy]at hd;unfold orE at hd;simpa[wwE]using hd
theorem OX{H:List Txn}{level:Int}{L:List Fct}{f:Fct}{m:List Cho}(hL:∀c∈av L,bO H c=true∧c∈m)(hin:aL f.c∈m)(h:aW H level L f=true):fV H.length (aX H level m)=true:=by
 have hone:=Go.Inq.holds_one h;obtain⟨hr,lU⟩:=iN.1 (Jj h);obtain⟨a,b,ha,hb,hab,han,hbn,hwa,hwb⟩:=je.1 hone;have hback:aX H level m b a=true:=oZ (by unfold orE;rw[Gg hin (show(aL f.c).a=b from hb) (show(aL f.c).b=a from ha)];simp);unfold aW qj at h;rw[Bool.and_eq_true]at h;have h:=h.2;split at h
 ·unfold axB at h;rw[Bool.and_eq_true]at h;obtain⟨x,y,e1,e2,-,-,hp⟩:=HZ h.2;obtain rfl:x=a:=(by omega);obtain rfl:y=b:=(by omega);exact Hr han hbn (oZ (by unfold orE;rw[hp];rfl)) hback
 ·split at h
  ·unfold zQ at h;simp only[Bool.and_eq_true]at h;obtain⟨-,h⟩:=h;split at h
   ·rename_i x y hx hy;simp only[Bool.and_eq_true,decide_eq_true_eq]at h;obtain⟨⟨h1,h2⟩,h3⟩:=h;have hxL:x.c∈av L:=(by unfold av;exact List.mem_map_of_mem (List.mem_of_getElem? hx));have hyL:y.c∈av L:=(by unfold av;exact List.mem_map_of_mem (List.mem_of_getElem? hy));have hxm:=(hL _ hxL).2;have hym:=(hL _ hyL).2;obtain⟨p,q,hp,hq,-,hpn,hqn,-,-⟩:=je.1 (hL _ hxL).1;rw[h3]at ha hb;dsimp only at ha hb;obtain rfl:p=a:=(by omega);have e1:aX H level m p q=true:=oZ (by unfold orE;rw[Gg hxm hp hq];simp);have e2:aX H level m q b=true:=oZ (by unfold orE;rw[Gg hym (show y.c.a=q by omega) hb];simp);exact Jf hpn hqn hbn e1 e2 hback
   ·cases h
  ·split at h
   ·unfold zR at h;simp only[Bool.and_eq_true,decide_eq_true_eq]at h;obtain⟨⟨⟨⟨⟨-,h1⟩,h2⟩,h3⟩,h4⟩,h5⟩:=h;obtain⟨x,y,e1,e2,-,hyn,hp⟩:=HZ h5;obtain rfl:x=a:=(by omega);rw[e2]at h1 h4;rw[Int.toNat_natCast]at h4;have hyx:y≠x:=fun e=>h1 (by rw[e,ha]);have hrw:rwE H m y x=true:=by
     unfold rwE;rw[Bool.or_eq_true];right;rw[List.any_eq_true];refine⟨_,hin,?_⟩;rw[show(aL f.c).b=f.c.a from rfl,show(aL f.c).a=f.c.b from rfl,show(aL f.c).key=f.c.key from rfl,decide_eq_true ha,decide_eq_true hyx,h4];rfl
    have hpd:orE (bG H) (wwE m) x y=true:=(by unfold orE;rw[hp];rfl);rcases lU with rfl|rfl
    ·have e3:aX H 0 m y x=true:=by
      show(orE (bG H) (wwE m) y x||rwE H m y x)=true;rw[hrw];simp
     exact Hr han hyn (oZ hpd) e3
    ·have e3:aX H 1 m x x=true:=by
      show(orE (bG H) (wwE m) x x||iT H.length (orE (bG H) (wwE m)) (rwE H m) x x)=true;have:iT H.length (orE (bG H) (wwE m)) (rwE H m) x x=true:=by
       unfold iT;rw[List.any_eq_true];exact⟨y,List.mem_range.2 hyn,by rw[hpd,hrw];rfl⟩
      rw[this];simp
     exact Ot han e3
   ·split at h
    ·unfold zS at h;rw[Bool.and_eq_true]at h;have ho:∀c∈av L++[aL f.c],bO H c=true:=fun c hc=>by
      rw[List.mem_append,List.mem_singleton]at hc;rcases hc with hc|rfl
      ·exact(hL c hc).1
      ·exact jg hone
     have hc:=LJ ho h.2;have hsub:∀c∈av L++[aL f.c],c∈m:=fun c hc=>by
      rw[List.mem_append,List.mem_singleton]at hc;rcases hc with hc|rfl
      ·exact(hL c hc).2
      ·exact hin
     exact D7 (fun x y=>rQ hsub) hc
    ·cases h
end Go.Proofs.YtfhnamomiaekdaaGreatDoor
namespace Go.Proofs.YtfhnamomiaekdaaGreatDoor
open Go Go.RowKit Go.Inq
def Kh(H:List Txn)(level:Int):Nat→Int→Int→List Fct→Say×List Fct×Nat
 |0,_,_,L=>(nQ,L,0)
 |n+1,a,i,L=>
  let r:=dG H level a i L
  if r.2.said=0 then
   let x:=Kh H level n r.1.1 r.1.2 (L++r.2.facts)
   (x.1,x.2.1,x.2.2+1)
  else(r.2,L++r.2.facts,1)
def RY(L:List Fct):Prop:=∀f∈L,f.cyc.length≤1000000
theorem AU{H:List Txn}{level:Int}{L:List Fct}{c:Cho}{f:Fct}(h:dL H level L c=some f):f.cyc=[]:=by
 unfold dL at h;have hm:=List.mem_of_find?_eq_some h;rw[List.mem_map]at hm;obtain⟨x,-,rfl⟩:=hm;rfl
theorem AV{H:List Txn}{level a i:Int}{L:List Fct}:(dG H level a i L).2.facts.length≤1∧RY (dG H level a i L).2.facts:=by
 unfold dG;split
 ·rename_i hg;have hr:aA H=true:=by
   simp only[Bool.and_eq_true]at hg;have h1:=hg.1.1;unfold jw at h1;simp only[Bool.and_eq_true]at h1;exact h1.1.1.1.1
  have hn:=((aB H).1 hr).1;have hfl:∀x,(aV H level x).length≤1000000:=fun x=>by
   unfold aV;rw[List.length_map];exact Nat.le_trans p8 (by omega)
  split
  ·obtain⟨-,h2⟩:=FC H level L;dsimp only;rw[h2];exact⟨by simp,fun f hf=>by cases hf⟩
  ·dsimp only;split
   ·exact⟨by simp[nQ],fun f hf=>by simp[nQ]at hf⟩
   ·dsimp only;generalize(aI H).getD a.toNat aY=p;refine⟨by rcases Jk H level L p with⟨-,h⟩|⟨-,h⟩<;>simp[h]<;>omega,?_⟩;unfold eG;split
    ·rename_i f hf;intro g hg;obtain rfl:g=f:=(by simpa using hg);rw[AU hf];simp
    ·split
     ·rename_i f hf;intro g hg;obtain rfl:g=f:=(by simpa using hg);rw[AU hf];simp
     ·dsimp only;split
      ·split
       ·intro g hg;simp[nQ]at hg
       ·intro g hg;obtain rfl:g=_:=(by simpa using hg);exact hfl _
      ·split
       ·intro g hg;obtain rfl:g=_:=(by simpa using hg);exact hfl _
       ·intro g hg;simp at hg
 ·exact⟨by simp[jv],fun f hf=>by simp[jv]at hf⟩
structure Nc(H:List Txn)(level:Int)(N k:Nat)(a i:Int)(L:List Fct)(F:Say×List Fct×Nat):Prop where
 le:k≤N
 len:L.length≤k
 cyc:RY L
 fin:F=((Kh H level (N-k) a i L).1,(Kh H level (N-k) a i L).2.1,(Kh H level (N-k) a i L).2.2+k)
theorem Nc.start{H:List Txn}{level:Int}{N:Nat}:Nc H level N 0 0 0 [] (Kh H level N 0 0 []):=
 ⟨Nat.zero_le _,by simp,fun f hf=>by simp at hf,by simp⟩
theorem Nc.step{H:List Txn}{level:Int}{N k:Nat}{a i:Int}{L:List Fct}{F:Say×List Fct×Nat}(h:Nc H level N k a i L F)(hk:k<N){r:(Int×Int)×Say}(hr:dG H level a i L=r):
 r.2.facts.length≤1∧(r.2.said=0→Nc H level N (k+1) r.1.1 r.1.2 (L++r.2.facts) F)∧(r.2.said≠0→F=(r.2,L++r.2.facts,k+1)):=by
 obtain⟨h1,h2⟩:=AV (H:=H) (level:=level) (a:=a) (i:=i) (L:=L);rw[hr]at h1 h2;have hf:=h.fin;rw[show N-k=(N-(k+1))+1 by omega]at hf;unfold Kh at hf;dsimp only at hf;rw[hr]at hf;have hl:=h.len;refine⟨h1,fun hs=>⟨hk,by rw[List.length_append];omega,fun f hm=> ?_,?_⟩,fun hs=> ?_⟩
 ·rcases List.mem_append.1 hm with g|g
  ·exact h.cyc f g
  ·exact h2 f g
 ·rw[if_pos hs]at hf;rw[hf];dsimp only;rw[show k+1=1+k by omega,←Nat.add_assoc]
 ·rw[if_neg hs]at hf;rw[hf,Nat.add_comm 1 k]
end Go.Proofs.YtfhnamomiaekdaaGreatDoor
namespace Go.Proofs.YtfhnamomiaekdaaGreatDoor
open Go.RowKit Go.Inq
set_option maxHeartbeats 8000000
attribute [local go_sem↓] Go.wp_at_zero Go.wp_at_succ
def Nf(w:World)(F:Say×List Fct×Nat)(e:Ending)(w':World):Prop:=∃v vf,e= .returned (.tuple #[v,vf,.int .i64 (F.2.2:Int)])∧uO w' w.heap.size v F.1∧gW w' w.heap.size vf F.2.1∧Below w.heap.size w w'
theorem Gh{W:World}{K:Nat→Prop}{g:Nat}{t0 t1:Txn}{vw0 vr0 vw1 vr1:Value}(h:Blk W g 109 #[.int .i64 t0.dJ,vw0,vr0,.int .i64 t1.dJ,vw1,vr1])(h0:aO W K vw0 t0.writes)(h1:ItS W K vr0 t0.reads)(h2:aO W K vw1 t1.writes)(h3:ItS W K vr1 t1.reads)(hK:K g):
 aC W K (.slice (some ⟨g,0,none⟩) 2 2) [t0,t1]:=
 Ci (l:=[t0,t1]) [[.int .i64 t0.dJ,vw0,vr0],[.int .i64 t1.dJ,vw1,vr1]] h rfl (fun i cs x q1 q2=>by
  match i with
  |0=>simp at q1 q2;subst q1 q2;exact⟨rfl,_,_,rfl,h0,h1⟩
  |1=>simp at q1 q2;subst q1 q2;exact⟨rfl,_,_,rfl,h2,h3⟩
  |i+2=>simp at q1) hK (by simp)
def exS:List Txn:=[⟨0,[2],[⟨2,-1⟩]⟩,⟨1,[2],[⟨2,0⟩]⟩]
theorem mK:aI exS=[⟨2,0,1⟩]:=by
 unfold aI;rw[xG (by decide)]
 kernel_rfl
def exF:Fct:=⟨⟨2,0,1⟩,4,0,0,[0,1]⟩
theorem QD:dG exS 0 0 0 []=((0,0),⟨0,[],[],[exF]⟩):=by
 unfold dG jw;rw[mK]
 kernel_rfl
theorem QE:dG exS 0 0 1 [exF]=((0,1),⟨1,[0,1],[],[]⟩):=by
 unfold dG jw dK mh;rw[mK]
 kernel_rfl
theorem QF:dG exS 0 1 0 []=((1,0),⟨3,[],[],[]⟩):=by
 unfold dG jw;rw[mK]
 kernel_rfl
theorem QG:jw exS 0 1=true:=by
 unfold jw;rw[mK]
 kernel_rfl
theorem QH:jw exS 0 2=false:=by
 unfold jw;rw[mK]
 kernel_rfl
structure Ki(w:World)(gs g:Nat)(x y:Int)(o:Say)(vf:Value):Prop where
 ks:Blk w gs 26 #[.int .i64 x,.int .i64 y]
 ko:∃vo vt,Blk w g 36 #[.int .i64 o.said,vo,vt,vf]
 fs:gW w 0 vf o.facts
theorem Ki.below{w w':World}{gs g:Nat}{x y:Int}{o:Say}{vf:Value}(h:Ki w gs g x y o vf)(hb:Below w.heap.size w w'):Ki w' gs g x y o vf:=by
 obtain⟨vo,vt,h2⟩:=h.ko;exact⟨h.ks.below hb h.ks.lt,⟨vo,vt,h2.below hb h2.lt⟩,h.fs.below hb⟩
theorem aU.any{w:World}{base:Nat}{v:Value}{l:List Int}(h:aU w base v l):∃A n c,v= .slice A n c:=by
 obtain⟨A,c,e⟩:=aU.form h;exact⟨A,_,c,e⟩
theorem bJ.any{w:World}{base:Nat}{v:Value}{l:List Nod}(h:bJ w base v l):∃A n c,v= .slice A n c:=by
 obtain⟨A,c,e⟩:=aN.form h;exact⟨A,_,c,e⟩
set_option maxRecDepth 100000 in
theorem D9(w:World)(hTB:iH w):Calls Tryz.prog 10 #[] w fun e w'=>e= .returned (.bool true)∧Below w.heap.size w w':=by
 have hE1:=hide QD;have hE2:=hide QE;have hE3:=hide QF;have hE4:=hide QG;have hE5:=hide QH;obtain⟨W1,hW1⟩:∃W1,w.alloc (.cells #[.int .i64 2] 3)=W1:=⟨_,rfl⟩;obtain⟨W2,hW2⟩:∃W2,W1.alloc (.cells #[.int .i64 2,.int .i64 (-1)] 106)=W2:=⟨_,rfl⟩;obtain⟨W3,hW3⟩:∃W3,W2.alloc (.cells #[.int .i64 2] 3)=W3:=⟨_,rfl⟩;obtain⟨W4,hW4⟩:∃W4,W3.alloc (.cells #[.int .i64 2,.int .i64 0] 106)=W4:=⟨_,rfl⟩;obtain⟨W5,hW5⟩:∃W5,W4.alloc (.cells #[.int .i64 0,.slice (some ⟨w.heap.size,0,none⟩) 1 1,.slice (some ⟨W1.heap.size,0,none⟩) 1 1,.int .i64 1,.slice (some ⟨W2.heap.size,0,none⟩) 1 1,.slice (some ⟨W3.heap.size,0,none⟩) 1 1] 109)=W5:=⟨_,rfl⟩;obtain⟨W6,hW6⟩:∃W6,W5.alloc (.cells #[.slice (some ⟨W4.heap.size,0,none⟩) 2 2] 24)=W6:=⟨_,rfl⟩;have s1:=aF hW1;have s2:=aF hW2;have s3:=aF hW3;have s4:=aF hW4;have s5:=aF hW5;have k1:=(((((Blk.newEq hW1).au hW2).au hW3).au hW4).au hW5).au hW6;have k2:=((((Blk.newEq hW2).au hW3).au hW4).au hW5).au hW6;have k3:=(((Blk.newEq hW3).au hW4).au hW5).au hW6;have k4:=((Blk.newEq hW4).au hW5).au hW6;have k5:=(Blk.newEq hW5).au hW6;have k6:=Blk.newEq hW6;have b6:=ah (ah (ah (ah (ah (ah (Below.refl w.heap.size w) hW1 (Nat.le_refl _)) hW2 (by omega)) hW3 (by omega)) hW4 (by omega)) hW5 (by omega)) hW6 (by omega);have hT:aC W6 (Old W6) (.slice (some ⟨W4.heap.size,0,none⟩) 2 2) exS:=
  Gh (t0:=⟨0,[2],[⟨2,-1⟩]⟩) (t1:=⟨1,[2],[⟨2,0⟩]⟩) k5 (aO.bT (l:=[2]) k1 k1.lt) (SlR.one k2 rfl rfl k2.lt) (aO.bT (l:=[2]) k3 k3.lt) (SlR.one k4 rfl rfl k4.lt) k5.lt
 replace hT:=hide hT;clear k1 k2 k3 k4 k5 s1 s2 s3 s4 s5;go_enter Tryz.func10,Tryz.ntmps10;go_upto_region 2 with fail;clear hW1 hW2 hW3 hW4 hW5 hW6;have hc:=nL (some ⟨W4.heap.size,0,none⟩) 2 exS 0 0 0 none 0 [] W6 hT.out ⟨by decide,by decide⟩ (eU.nil _ _ _ _) ⟨by simp,by simp⟩ (hTB.below b6);rw[hE1.out]at hc;have c0:=Blk.n0 k6;go_wp2_with fail;refine Calls.mono (by exact hc) ?_;clear hc c0;rintro e Z ⟨v,rfl,hv,b4⟩;obtain⟨vo,vt,vf,rfl,o1,o2,o3⟩:=hv;obtain⟨Ao,no,co,rfl⟩:=aU.any o1;obtain⟨At,nt,ct,rfl⟩:=bJ.any o2;obtain⟨Af,cf,rfl⟩:=aN.form o3;dsimp only[List.length_cons,List.length_nil,Nat.zero_add]at o3⊢;clear o1 o2;replace o3:=hide o3;go_upto_region 3 with fail;obtain⟨X,hX⟩:∃X,(Z.alloc (.cells #[.int .i64 0,.int .i64 0] 26)).alloc (.cells #[.int .i64 0,.slice Ao no co,.slice At nt ct,.slice Af 1 cf] 36)=X:=⟨_,rfl⟩;rw[hX];have q1:Ki X Z.heap.size (Z.heap.size+1) 0 0 ⟨0,[],[],[exF]⟩ (.slice Af 1 cf):=⟨Blk.jr hX,⟨_,_,Blk.iE hX⟩,(o3.out.below (aM hX)).base (Nat.zero_le _)⟩;have hbX:=hide (b4.trans ((aM hX).mono b4.size));clear hX b4 o3;generalize Z.heap.size=z1 at*;clear Z;replace k6:=k6.below hbX.out k6.lt;replace hT:=hide (hT.out.below hbX.out);replace b6:=b6.trans (hbX.out.mono b6.size);clear hbX hE1;generalize W5.heap.size=gh at*;generalize W4.heap.size=gt at*;obtain⟨vo1,vt1,ko1⟩:=q1.ko;have c0:=Blk.n0 k6;have y3:=Blk.n3 ko1;have hc:=nL (some ⟨gt,0,none⟩) 2 exS 0 0 1 Af cf [exF] X hT.out ⟨by decide,by decide⟩ q1.fs.s ⟨by simp,by simp[exF]⟩ (hTB.below b6);rw[hE2.out]at hc;replace hc:=hide hc;replace q1:=hide q1;clear ko1 hE2;go_wp2_with fail;refine Calls.mono (by exact hc.out) ?_;clear hc c0 y3;rintro e Z ⟨v,rfl,hv,b4⟩;obtain⟨vo,vt,vf,rfl,o1,o2,o3⟩:=hv;obtain⟨Ao,no,co,rfl⟩:=aU.any o1;obtain⟨At,nt,ct,rfl⟩:=bJ.any o2;obtain⟨Af,cf,rfl⟩:=aN.form o3;dsimp only[List.length_cons,List.length_nil,Nat.zero_add]at o3⊢;clear o1 o2;replace o3:=hide o3;go_upto_region 6 with fail;obtain⟨Y,hX⟩:∃Y,(Z.alloc (.cells #[.int .i64 0,.int .i64 1] 26)).alloc (.cells #[.int .i64 1,.slice Ao no co,.slice At nt ct,.slice Af 0 cf] 36)=Y:=⟨_,rfl⟩;rw[hX];have q2:Ki Y Z.heap.size (Z.heap.size+1) 0 1 ⟨1,[],[],[]⟩ (.slice Af 0 cf):=⟨Blk.jr hX,⟨_,_,Blk.iE hX⟩,(o3.out.below (aM hX)).base (Nat.zero_le _)⟩;have hbX:=hide (b4.trans ((aM hX).mono b4.size));clear hX b4 o3;generalize Z.heap.size=z2 at*;clear Z;replace k6:=k6.below hbX.out k6.lt;replace hT:=hide (hT.out.below hbX.out);replace q1:=hide (q1.out.below hbX.out);replace b6:=b6.trans (hbX.out.mono b6.size);clear hbX;have c0:=Blk.n0 k6;have hc:=nL (some ⟨gt,0,none⟩) 2 exS 0 1 0 none 0 [] Y hT.out ⟨by decide,by decide⟩ (eU.nil _ _ _ _) ⟨by simp,by simp⟩ (hTB.below b6);rw[hE3.out]at hc;replace hc:=hide hc;replace q2:=hide q2;clear hE3;go_wp2_with fail;refine Calls.mono (by exact hc.out) ?_;clear hc c0;rintro e Z ⟨v,rfl,hv,b4⟩;obtain⟨vo,vt,vf,rfl,o1,o2,o3⟩:=hv;obtain⟨Ao,no,co,rfl⟩:=aU.any o1;obtain⟨At,nt,ct,rfl⟩:=bJ.any o2;obtain⟨Af,cf,rfl⟩:=aN.form o3;dsimp only[List.length_cons,List.length_nil,Nat.zero_add]at o3⊢;clear o1 o2;replace o3:=hide o3;go_upto_region 7 with fail;obtain⟨V,hX⟩:∃V,(Z.alloc (.cells #[.int .i64 1,.int .i64 0] 26)).alloc (.cells #[.int .i64 3,.slice Ao no co,.slice At nt ct,.slice Af 0 cf] 36)=V:=⟨_,rfl⟩;rw[hX];have q3:Ki V Z.heap.size (Z.heap.size+1) 1 0 ⟨3,[],[],[]⟩ (.slice Af 0 cf):=⟨Blk.jr hX,⟨_,_,Blk.iE hX⟩,(o3.out.below (aM hX)).base (Nat.zero_le _)⟩;have hbX:=hide (b4.trans ((aM hX).mono b4.size));clear hX b4 o3;generalize Z.heap.size=z3 at*;clear Z;replace k6:=k6.below hbX.out k6.lt;replace hT:=hide (hT.out.below hbX.out);replace q1:=q1.out.below hbX.out;replace q2:=q2.out.below hbX.out;replace b6:=b6.trans (hbX.out.mono b6.size);clear hbX;obtain⟨va1,vb1,ko1⟩:=q1.ko;obtain⟨va2,vb2,ko2⟩:=q2.ko;obtain⟨va3,vb3,ko3⟩:=q3.ko;obtain⟨b,off,Ay,cy,e,-,d⟩:=eU.at_ (l:=[exF]) q1.fs.s (i:=0) (by simp);cases e;have c0:=k6.cell 0;have u0:=q1.ks.cell 0;have u1:=q1.ks.cell 1;have x0:=ko1.cell 0;have x3:=ko1.cell 3;have y0:=ko2.cell 0;have y3:=ko2.cell 3;have z0:=ko3.cell 0;have d0:=d.d0;have d1:=d.d1;have d2:=d.d2;have d3:=d.d3;simp only[exF,gA,gZ,gS,List.getElem_cons_zero,Nat.zero_mul,Nat.add_zero]at c0 u0 u1 x0 x3 y0 y3 z0 d0 d1 d2 d3;have hr1:=j6 (some ⟨gt,0,none⟩) 2 exS 0 1 V hT.out ⟨by decide,by decide⟩;have hr2:=hide (fun W (hb:Below V.heap.size V W)=>j6 (some ⟨gt,0,none⟩) 2 exS 0 2 W (hT.out.below hb) ⟨by decide,by decide⟩);rw[hE4.out]at hr1;replace hr1:=hide hr1;clear hE4 d ko1 ko2 ko3 q1 q2 q3 hT hTB;go_wp2_with fail;refine Calls.mono (by exact hr1.out) ?_;rintro e V1 ⟨rfl,hb1⟩;replace k6:=k6.below hb1 k6.lt;have hr3:=hr2.out V1 hb1;rw[hE5.out]at hr3;replace hr3:=hide hr3;replace b6:=b6.trans (hb1.mono b6.size);clear hr2 hr1 hb1 hE5 c0 u0 u1 x0 x3 y0 y3 z0 d0 d1 d2 d3;have c0:=Blk.n0 k6;go_wp2_with fail;refine Calls.mono (by exact hr3.out) ?_;rintro e V2 ⟨rfl,hb2⟩;go_wp2;go_ret;exact⟨rfl,b6.trans (hb2.mono b6.size)⟩
theorem Nf.v{w w':World}{F:Say×List Fct×Nat}{e:Ending}(h:Nf w F e w'):∃Ao no co At nt ct Af nf cf Am cm,e= .returned (.tuple #[.agg #[.int .i64 F.1.said,.slice Ao no co,.slice At nt ct,.slice Af nf cf],.slice Am F.2.1.length cm,.int .i64 (F.2.2:Int)])∧gW w' 0 (.slice Am F.2.1.length cm) F.2.1∧Below w.heap.size w w':=by
 obtain⟨v,vm,rfl,⟨vo,vt,vf,rfl,o1,o2,o3⟩,o4,hb⟩:=h;obtain⟨Ao,no,co,rfl⟩:=aU.any o1;obtain⟨At,nt,ct,rfl⟩:=bJ.any o2;obtain⟨Af,cf,rfl⟩:=aN.form o3;obtain⟨Am,cm,rfl⟩:=aN.form o4;exact⟨_,_,_,_,_,_,_,_,_,_,_,rfl,o4.base (Nat.zero_le _),hb⟩
set_option maxHeartbeats 2000000
def wR(N:Nat)(l:List Txn):Bool:=decide (l.length≤N)&&l.all fun t=>decide (t.writes.length≤20)&&decide (t.reads.length≤20)
theorem Gi{N:Nat}(hN:N≤40){l:List Txn}(h:wR N l=true):aD l:=by
 unfold wR at h;rw[Bool.and_eq_true,List.all_eq_true]at h;have h1:l.length≤N:=(by simpa using h.1);refine⟨by omega,fun t ht=> ?_⟩;have:=h.2 t ht;simp at this;omega
theorem Ng{N:Nat}{l:List Txn}{i:Nat}(hi:i<l.length)(h:20<l[i].writes.length∨20<l[i].reads.length):wR N l=false:=by
 rw[←Bool.not_eq_true];intro g;unfold wR at g;rw[Bool.and_eq_true,List.all_eq_true]at g;have:=g.2 _ (List.getElem_mem hi);simp at this;omega
theorem Kj{N:Nat}{l:List Txn}(h:N<l.length):wR N l=false:=by
 unfold wR;rw[show decide (l.length≤N)=false by simpa using h];rfl
theorem Kk{N:Nat}{l:List Txn}(h:l.length≤N)(hall:∀i (hi:i<l.length),l[i].writes.length≤20∧l[i].reads.length≤20):wR N l=true:=by
 unfold wR;rw[Bool.and_eq_true,List.all_eq_true];refine⟨by simpa using h,fun t ht=> ?_⟩;obtain⟨i,hi,rfl⟩:=List.getElem_of_mem ht;have:=hall i hi;simp;omega
set_option maxRecDepth 100000 in
theorem Kl(N:Nat)(A:Option Addr)(c:Nat)(H:List Txn)(w:World)(h:aC w (Old w) (.slice A H.length c) H)(hn:H.length≤maxLen)(hns:∀t∈H,t.writes.length≤maxLen∧t.reads.length≤maxLen):
 Calls Tryz.prog 33 #[.agg #[.slice A H.length c],.int .i64 (N:Int)] w fun e w'=>e= .returned (.bool (wR N H))∧Below w.heap.size w w':=by
 unfold maxLen at hn hns;have hA:Below w.heap.size w (w.alloc (.cells #[.slice A H.length c] 24)):=(Below.refl _ _).alloc (Nat.le_refl _) _;have kh:Blk (w.alloc (.cells #[.slice A H.length c] 24)) w.heap.size 24 #[.slice A H.length c]:=Blk.new _ _ _;have h1:=aC.below h hA;have y0:=Blk.n0 kh;have hl1:(0:Int)≤(H.length:Int):=Int.natCast_nonneg _;replace hns:=hide hns;by_cases hm:N<H.length
 ·have hr:=hide (Kj hm);have hmb:decide ((H.length:Int)>(N:Int))=true:=(by simp;omega);have TH:decide (N<H.length)=true:=(by simp;omega);clear hm;go_enter Tryz.func33,Tryz.ntmps33;go_wp2;go_ret;exact⟨by rw[hr.out];rfl,hA⟩
 ·have hmb:decide ((H.length:Int)>(N:Int))=false:=(by simp;omega);have TH:decide (N<H.length)=false:=(by simp;omega);have hbad:=hide (fun i=>Ng (N:=N) (l:=H) (i:=i));have hgood:=hide (Kk (N:=N) (l:=H) (by omega));go_enter Tryz.func33,Tryz.ntmps33;go_wp2_with fail;generalize w.alloc (.cells #[.slice A H.length c] 24)=W at*
  go_loop [5] (fun s5=>∃i:Nat,i≤H.length∧s5= .int .i64 i∧Hid (∀j (hj:j<H.length),j<i→H[j].writes.length≤20∧H[j].reads.length≤20)) (fun s5=>H.length-(intOf s5).toNat)
  case atStart=>exact⟨0,Nat.zero_le _,by go_num,fun j hj h=>absurd h (by omega)⟩
  case round=>
   obtain⟨i,hi,rfl,hall⟩:=hrel;have hi1:(0:Int)≤(i:Int):=Int.natCast_nonneg _;by_cases hlt:i<H.length
   ·have hi2:(i:Int)<(H.length:Int):=(by omega);obtain⟨b,off,Aw,cw,Ar,cr,rfl,hbK,d0,d1,d2,hws,hrs⟩:=aC.at_ h1 hlt;have hb:=hide (hbad.out i hlt);have hsm:=hns.out _ (List.getElem_mem hlt);have hst:Hid (H[i].writes.length≤20∧H[i].reads.length≤20→∀j (hj:j<H.length),j<i+1→H[j].writes.length≤20∧H[j].reads.length≤20):=fun g j hj hji=>by
     by_cases e:j=i
     ·subst e;exact g
     ·exact hall.out j hj (by omega)
    clear hall hws hrs;generalize H[i]=t at*;obtain⟨ts,ws,rs⟩:=t;dsimp only at*;by_cases g1:20<ws.length
    ·have g1b:decide ((ws.length:Int)>20)=true:=(by simp;omega);have hr:=hide (hb.out (.inl g1));clear g1 hb hst;go_wp2;go_ret;exact⟨by rw[hr.out];rfl,hA⟩
    ·have g1b:decide ((ws.length:Int)>20)=false:=(by simp;omega);by_cases g2:20<rs.length
     ·have g2b:decide ((rs.length:Int)>20)=true:=(by simp;omega);have hr:=hide (hb.out (.inr g2));clear g2 hb hst;go_wp2;go_ret;exact⟨by rw[hr.out];rfl,hA⟩
     ·have g2b:decide ((rs.length:Int)>20)=false:=(by simp;omega);have hr:=hide (hst.out ⟨by omega,by omega⟩);clear hb hst;go_wp2
      go_round
      case rel=>exact⟨i+1,by omega,by go_num,hr⟩
      case measure=>simp[intOf];omega
   ·have hr:=hide (hgood.out fun j hj=>hall.out j hj (by omega));go_wp2;go_ret;exact⟨by rw[hr.out];rfl,hA⟩
set_option maxHeartbeats 1000000
def uP(H:List Txn)(L:List Fct)(n:Nat):Bool:=wR n H&&decide (L.length≤30)&&L.all fun f=>decide (f.cyc.length≤40)
structure PU(H:List Txn)(L:List Fct)(n:Nat):Prop where
 hist:wR n H=true
 facts:L.length≤30
 QI:∀f∈L,f.cyc.length≤40
theorem uQ{H:List Txn}{L:List Fct}{n:Nat}:uP H L n=true↔PU H L n:=by
 unfold uP;simp only[Bool.and_eq_true,List.all_eq_true,decide_eq_true_eq];exact⟨fun h=>⟨h.1.1,h.1.2,h.2⟩,fun h=>⟨⟨h.hist,h.facts⟩,h.QI⟩⟩
theorem Nh{H:List Txn}{L:List Fct}{n:Nat}(h:¬PU H L n):uP H L n=false:=by
 rw[←Bool.not_eq_true,uQ];exact h
set_option maxRecDepth 100000 in
theorem Km (A:Option Addr) (c:Nat) (H:List Txn) (level x y:Int) (Al:Option Addr) (cl:Nat) (L:List Fct) (n:Nat) (w:World) (h:aC w (Old w) (.slice A H.length c) H) (hn:H.length≤maxLen) (hns:∀t∈H,t.writes.length≤maxLen∧t.reads.length≤maxLen)
 (hL:eU w (Old w) (.slice Al L.length cl) L) (hL1:L.length≤maxLen):
 Calls Tryz.prog 11 #[.agg #[.slice A H.length c,.int .i64 level,.int .i64 x,.int .i64 y,.slice Al L.length cl],.int .i64 (n:Int)] w fun e w'=>e= .returned (.bool (uP H L n))∧Below w.heap.size w w':=by
 obtain⟨W0,hW0⟩:∃W0,w.alloc (.cells #[.slice A H.length c,.int .i64 level,.int .i64 x,.int .i64 y,.slice Al L.length cl] 29)=W0:=⟨_,rfl⟩;have hB:=ah (Below.refl w.heap.size w) hW0 (Nat.le_refl _);have k0:=Blk.newEq hW0;have hfe:=hide (Kl n A c H W0 (h.below hB) hn hns);have hLs:=hide (fun W (hb:Below w.heap.size w W)=>hL.below hb);unfold maxLen at hL1;have hno:=hide (Nh (H:=H) (L:=L) (n:=n));have hyes:=hide (uQ (H:=H) (L:=L) (n:=n)).2;obtain⟨r,hr⟩:∃r,uP H L n=r:=⟨_,rfl⟩;rw[hr]at hno hyes;rw[hr];obtain⟨q,hq⟩:∃q,wR n H=q:=⟨_,rfl⟩;rw[hq]at hfe;replace hq:=hide hq;have c0:=Blk.n0 k0;clear h hr hL hns hn;go_enter Tryz.func11,Tryz.ntmps11;go_wp2_with fail;clear hW0;refine hfe.out.mono ?_;rintro e w1 ⟨rfl,hb1⟩;have hB1:=hB.trans (hb1.mono hB.size);replace k0:=k0.below hb1 k0.lt;clear hfe hb1 hB c0;have c4:=Blk.n4 k0;have hL2:=hLs.out w1 hB1;clear hLs k0;cases q with
 |false=>
  obtain rfl:=hno.out fun g=>(by have:=g.hist;rw[hq.out]at this;cases this);clear hno hyes hq hL2;go_wp2;go_ret;exact⟨rfl,hB1⟩
 |true=>
  by_cases hl:L.length≤30
  ·have g1:decide ((L.length:Int)>30)=false:=decide_eq_false (by omega);have g2:decide (30<L.length)=false:=decide_eq_false (by omega);have g3:decide (30<(L.length:Int))=false:=decide_eq_false (by omega);go_wp2_with fail;go_loopw [6] (fun s6 wr=>wr=w1∧∃k:Nat,k≤L.length∧s6= .int .i64 (k:Int)∧Hid (∀j (hj:j<L.length),j<k→L[j].cyc.length≤40)) (fun s6 _=>L.length-(intOf s6).toNat);case atStart=>exact⟨rfl,0,Nat.zero_le _,by go_num,hide (fun j hj h=>absurd h (Nat.not_lt_zero _))⟩
   case round=>
    obtain⟨hw,k,hk,rfl,hall⟩:=hrel;obtain rfl:w1=wr:=hw.symm;have hk1:(0:Int)≤(k:Int):=Int.natCast_nonneg _;by_cases hlt:k<L.length
    ·have hk2:(k:Int)<(L.length:Int):=(by omega);obtain⟨b,off,Ay,cy,rfl,-,d⟩:=hL2.at_ hlt;have d6:=d.d6;obtain⟨X,hX⟩:∃X,L[k].cyc.length=X:=⟨_,rfl⟩;rw[hX]at d6;replace hX:=hide hX;clear d hL2;by_cases hx:X≤40
     ·have g7:decide ((X:Int)>40)=false:=decide_eq_false (by omega);have g8:decide (40<X)=false:=decide_eq_false (by omega);have Ni:Hid (∀j (hj:j<L.length),j<k+1→L[j].cyc.length≤40):=hide fun j hj hjk=>by
       by_cases e:j=k
       ·subst e;rw[hX.out];exact hx
       ·exact hall.out j hj (by omega)
      clear hall hno hyes;go_wp2;go_roundw;case rel=>exact⟨by trivial,k+1,by omega,by go_num,Ni⟩
      case measure=>simp[intOf];omega
     ·have g7:decide ((X:Int)>40)=true:=decide_eq_true (by omega);have g8:decide (40<X)=true:=decide_eq_true (by omega);obtain rfl:=hno.out fun g=>(by have:=g.QI L[k] (List.getElem_mem hlt);rw[hX.out]at this;omega);clear hall hno hyes hx;go_wp2;go_ret;exact⟨rfl,hB1⟩
    ·obtain rfl:k=L.length:=(by omega);obtain rfl:=hyes.out ⟨hq.out,hl,fun f hf=>by
      obtain⟨j,hj,rfl⟩:=List.getElem_of_mem hf;exact hall.out j hj hj⟩
     clear hall hno hyes hL2;go_wp2;go_ret;exact⟨rfl,hB1⟩
  ·have g1:decide ((L.length:Int)>30)=true:=decide_eq_true (by omega);have g2:decide (30<L.length)=true:=decide_eq_true (by omega);have g3:decide (30<(L.length:Int))=true:=decide_eq_true (by omega);obtain rfl:=hno.out fun g=>hl g.facts;clear hno hyes hq hL2 hl;go_wp2;go_ret;exact⟨rfl,hB1⟩
end Go.Proofs.YtfhnamomiaekdaaGreatDoor
namespace Go.Proofs.YtfhnamomiaekdaaGreatDoor
open Go.ChangeShapes Go.WideShapes Go.ChangeAt Go.RowKit Go.Inq
theorem own:ownKnob Tryz.prog.godebug=none:=by kernel_rfl
theorem laidOut:laidOutB Tryz.prog=true:=by kernel_rfl
theorem ku {H:Type} {enc:TypeId×Value→H} {a:Assume} {C:Checked} {os:Os} {f:FuncId} {fn:Func} {s:ChangeSpec} {conds:List PathCond} {apart fresh handsOn again:Bool} {X:World→Array Value→Prop}
 (hX:∀(w w':World) (args:Array Value),w.heap=w'.heap→X w args→X w' args)
 (own:ownKnob C.prog.godebug=none) (started:os.Started) (noInit:C.prog.inits.idxOf? f=none) (hfn:C.prog.funcs[f]?=some fn)
 (witness:∃(w:World) (tape:Tape) (i:Input),w.os=os∧(w.forCall tape i).Shaped C.prog∧i.vars=[]∧Input.okWide C.prog (w.forCall tape i) .any w.heap.size f i∧
  ((s.pre enc C.prog fn conds apart (w.forCall tape i).memory i.args∧X (w.forCall tape i).memory i.args)∧sizedMet enc C.prog fn (OpenSpec.ofChange s) apart (w.forCall tape i).memory i.args)∧a.holds C.prog (lone (Frame.enter C.prog f i.args .normal) [] (w.forCall tape i)))
 (contract:∀(W:World) (base:Nat) (args:Array Value) (ds gs:List (DataW H)) (before:List MemPlace),
  (∀(j:Nat) t v,fn.params[j]?=some t→args[j]?=some v→Value.okWide C.prog W .any base t v)→
  DataW.Whole enc C.prog fn.params.toList s.vars apart W args.toList ds gs before→
  X W args→W.ShapedOpen C.prog→
  Calls C.prog f args W fun e W'=>∃v,e= .returned v∧s.post enc C.prog fn apart fresh handsOn again W args v W'):
 ReturnsInHanded a C os f .any (fun w args=>(s.pre enc C.prog fn conds apart w args∧X w args)∧sizedMet enc C.prog fn (OpenSpec.ofChange s) apart w args) (s.post enc C.prog fn apart fresh handsOn again):=by
 refine returnsInHanded_of_calls own started noInit witness ?_;intro w tape i _ hsh _ hok hpre hholds;obtain⟨_,_,_,fn',hfn',_,_,_,_,hval⟩:=hok;have e:fn'=fn:=Option.some.inj (hfn'.symm.trans hfn);subst e;obtain⟨⟨⟨ds,gs,before,hw,hc⟩,hx⟩,hz⟩:=hpre;have hw':=DataW.Whole.of_heap (w':=w.forCall tape i) (by rfl) hw;refine(contract (w.forCall tape i) w.heap.size i.args ds gs before hval hw' (hX _ _ _ (by rfl) hx) hsh).mono fun e W' ⟨v,he,hp⟩=> ?_;subst he;exact ChangeSpec.post_blind hp
def uR(P:Program)(ts:List TypeId):Bool:=ts.all fun t=>P.readableRec t&&decide (t<P.types.size)
theorem Below.Nj{P:Program}(hl:laidOutB P=true){H:Type}{enc:TypeId×Value→H}{W W':World}(hb:Below W.heap.size W W'):∀(ts:List TypeId) (vs:List Value) (ds:List (DataW H)) (ps:List MemPlace),uR P ts=true→
 DataW.TrodAll enc P W 0 (fun _=>true) true ts vs ds ps→(∀x∈ps,x.block<W.heap.size)→DataW.TrodAll enc P W' 0 (fun b=>decide (b<W.heap.size)) true ts vs ds ps:=by
 intro ts
 induction ts with
 |nil=>
  intro vs ds ps _ h _;cases vs with
  |cons=>exact h.elim
  |nil=>
   cases ds with
   |cons=>exact h.elim
   |nil=>exact h
 |cons t ts ih=>
  intro vs ds ps hk h hlt;cases vs with
  |nil=>exact h.elim
  |cons v vs=>
   cases ds with
   |nil=>exact h.elim
   |cons d ds=>
    obtain⟨p,q,h1,h2,rfl⟩:=h;unfold uR at hk;rw[List.all_cons,Bool.and_eq_true,Bool.and_eq_true]at hk;exact⟨p,q,Below.trod hl hk.1.1 (of_decide_eq_true hk.1.2) h1 hb (fun x hx=>hlt x (List.mem_append.2 (.inl hx))),ih _ _ _ hk.2 h2 (fun x hx=>hlt x (List.mem_append.2 (.inr hx))),rfl⟩
theorem Below.trodAll {H:Type} {enc:TypeId×Value→H} {W W':World} (hb:Below W.heap.size W W') {ts:List TypeId} {vs:List Value} {ds:List (DataW H)} {ps:List MemPlace} (hk:uR Tryz.prog ts=true)
 (h:DataW.TrodAll enc Tryz.prog W 0 (fun _=>true) true ts vs ds ps) (hlt:∀x∈ps,x.block<W.heap.size):DataW.TrodAll enc Tryz.prog W' 0 (fun b=>decide (b<W.heap.size)) true ts vs ds ps:=
 Below.Nj laidOut hb ts vs ds ps hk h hlt
theorem iH.of{l:List (String×DataW Unit)}{W:World}(h:laidMetH Tryz.prog l W)(hp:laidMetH Tryz.prog l W=laidMet Tryz.prog l W)(hm:("math/bits.deBruijn64tab",Rows.laid_math_bits_deBruijn64tab)∈l):iH W:=by
 rw[hp]at h;obtain⟨g,t,cs,fuel,p,hg,ht,hv,hd⟩:=Lib.laidMet.reads h hm;obtain rfl:=Option.some.inj ((show Tryz.prog.globalNamed "math/bits.deBruijn64tab" =some 0 by kernel_rfl).symm.trans hg);obtain rfl:=Option.some.inj ((show(Tryz.prog.globals[0]?).map (·.type)=some 292 by kernel_rfl).symm.trans ht);have hc:=Lib.cells_of_tab (k:= .u8) (zs:=Lib.deBruijn64tab.map fun(x:Nat)=>(x:Int)) Tryz.underlying292 Tryz.underlying5 (by kernel_rfl) (by kernel_rfl) hd;intro j hj;rw[World.var?_cell hg hv j];have h1:cs.toList[j]?=some (.int .u8 (Lib.deBruijn64tab.getD j 0)):=by
  rw[hc,List.getElem?_map,List.getElem?_map,List.getElem?_eq_getElem hj];simp[List.getD_eq_getElem?_getD,List.getElem?_eq_getElem hj]
 simpa using h1
end Go.Proofs.YtfhnamomiaekdaaGreatDoor
namespace Go.Proofs.YtfhnamomiaekdaaGreatDoor
open Go.Joins Go.ChangeShapes Go.WideShapes Go.ChangeAt Go.RowKit Go.Deep Go.Inq
section
variable{H:Type}{enc:TypeId×Value→H}{w:World}{base:Nat}{spare:Nat→Bool}{held:Bool}
theorem p9 {α:Type} {size:Nat} {R:World→(Nat→Prop)→List Value→α→Prop} {te ts:TypeId} (P:α→Prop) (x0:α) (hT:Tryz.prog.underlying ts=some (.slice te)) (hC:Tryz.prog.cellsOf te=size) (hs0:0<size)
 (hop:∀n cs x,DataW.trod enc Tryz.prog w base spare held n te cs=some x→∃t,R w (Old w) cs t∧P t)
 {n:Nat} {v:Value} {x:DataW H×List MemPlace} (h:DataW.trod enc Tryz.prog w base spare held n ts [v]=some x):
 ∃(A:Option Addr) (c:Nat) (l:List α),v= .slice A l.length c∧SlR size R w (Old w) (.slice A l.length c) l∧l.length≤maxLen∧∀t∈l,P t:=by
 rcases open_slice hT h with⟨h1,_⟩|⟨a,len,cap,m,n',D,Pl,h1,_,hl,hm,hmm,hx,hi⟩
 ·injection h1 with h1
  exact⟨none,0,[],h1,SlR.nil _ _ _ _ _ _,Nat.zero_le _,fun t ht=>by simp at ht⟩
 ·injection h1 with h1
  subst h1;rw[hC]at hi;have hlm:len≤m:=(by rw[hmm];split<;>omega);have hex:∀i,∃p:α×List Value,i<len→p.2.length=size∧R w (Old w) p.2 p.1∧P p.1∧∀j u,p.2[j]?=some u→w.cell? (a.add (i*size+j))=some u:=fun i=>by
   by_cases hil:i<len
   ·obtain⟨cs,hc,ht⟩:=hi i (by omega);obtain⟨t,hR,hP⟩:=hop _ _ _ ht;obtain⟨_,hcl,hat⟩:=World.cells?_some hc;refine⟨(t,cs),fun _=>⟨by simpa using hcl,hR,hP,fun j u hj=> ?_⟩⟩;have hj4:j<size:=by
     rcases Nat.lt_or_ge j size with h|h
     ·exact h
     ·rw[List.getElem?_eq_none (by dsimp only;omega)]at hj;cases hj
    rw[←Go.Deep.add_add,hat j hj4];exact hj
   ·exact⟨(x0,[]),fun h=>absurd h hil⟩
  obtain⟨f,hf⟩:=Classical.axiomOfChoice hex;have hlen:((List.range len).map fun i=>(f i).1).length=len:=(by simp);refine⟨some a,cap,(List.range len).map fun i=>(f i).1,by rw[hlen],⟨some a,cap,(List.range len).map fun i=>(f i).2,rfl,by omega,by simp,fun i cs x h1 h2=> ?_,fun h0=> ?_⟩,by omega,fun t ht=> ?_⟩
  ·simp only[List.getElem?_map]at h1 h2;cases hr:(List.range len)[i]? with
   |none=>rw[hr]at h1;cases h1
   |some k=>
    rw[hr]at h1 h2;simp at h1 h2;subst h1 h2;have hk:k<len:=by
     rw[List.getElem?_eq_some_iff]at hr;obtain⟨h3,h4⟩:=hr;simp at h3 h4;omega
    exact⟨(hf k hk).1,(hf k hk).2.1⟩
  ·rw[hlen]at h0;obtain⟨g1,_,_,g4⟩:=hf 0 h0;have hc0:=g4 0 ((f 0).2[0]'(by omega)) (List.getElem?_eq_getElem (by omega));obtain⟨_,_,_,_,hs⟩:=World.shape?_of_cell? hc0;obtain⟨b,o,sp⟩:=a;have hsp:sp=none:=by
    cases sp with
    |none=>rfl
    |some q=>simp[Addr.add]at hs
   subst hsp;have hbl:b<w.heap.size:=(by have:=block_lt_of_cell hc0;rwa[Addr.add_lit]at this);refine⟨b,o,rfl,hbl,fun i j cs u h1 h2=> ?_⟩;simp only[List.getElem?_map]at h1;cases hr:(List.range len)[i]? with
   |none=>rw[hr]at h1;cases h1
   |some k=>
    rw[hr]at h1;simp at h1;subst h1;have hk:k=i∧i<len:=by
     rw[List.getElem?_eq_some_iff]at hr;obtain⟨h3,h4⟩:=hr;simp at h3 h4;exact⟨h4.symm,h3⟩
    have:=(hf i hk.2).2.2.2 j u (by rw[←hk.1];exact h2);rw[Addr.add_lit,←Nat.add_assoc]at this;exact this
  ·obtain⟨k,hk,rfl⟩:=List.mem_map.1 ht;exact(hf k (by simpa using hk)).2.2.1
theorem Nk{n:Nat}{cs:List Value}{x:DataW H×List MemPlace}(h:DataW.trod enc Tryz.prog w base spare held n 3 cs=some x):∃k:Int,Go.Inq.Flat Go.Inq.encI w (Old w) cs k∧True:=by
 obtain⟨k,e,_⟩:=DataW.trod_int Tryz.underlying3 h;exact⟨k,e,trivial⟩
theorem AX{n:Nat}{v:Value}{x:DataW H×List MemPlace}(h:DataW.trod enc Tryz.prog w base spare held n 33 [v]=some x):
 ∃(A:Option Addr) (c:Nat) (l:List Int),v= .slice A l.length c∧aO w (Old w) (.slice A l.length c) l∧l.length≤maxLen:=by
 obtain⟨A,c,l,h1,h2,h3,_⟩:=p9 (R:=Go.Inq.Flat Go.Inq.encI) (size:=1) (fun _=>True) 0 Tryz.underlying33 (by kernel_rfl) (by decide) (fun n cs x h=>Nk h) h;exact⟨A,c,l,h1,h2,h3⟩
theorem Kn{n:Nat}{cs:List Value}{x:DataW H×List MemPlace}(hC:Tryz.prog.cellsOf 106=2)(h:DataW.trod enc Tryz.prog w base spare held n 106 cs=some x):∃e:It,Go.Inq.Flat It.enc w (Old w) cs e∧True:=by
 obtain⟨y0,y1,n',_,hl,h0,h1⟩:=trod_struct2 Tryz.underlying106 h;rw[hC]at hl;have h31:Tryz.prog.cellsOf 3=1:=(by kernel_rfl);simp only[h31]at h0 h1
 match cs,hl with
 |[a,b],_=>
  obtain⟨k0,e0,_⟩:=DataW.trod_int Tryz.underlying3 h0;obtain⟨k1,e1,_⟩:=DataW.trod_int Tryz.underlying3 h1;simp at e0 e1;exact⟨⟨k0,k1⟩,by unfold Go.Inq.Flat;simp[It.enc,e0,e1],trivial⟩
theorem Gj{n:Nat}{v:Value}{x:DataW H×List MemPlace}(h:DataW.trod enc Tryz.prog w base spare held n 107 [v]=some x):
 ∃(A:Option Addr) (c:Nat) (l:List It),v= .slice A l.length c∧ItS w (Old w) (.slice A l.length c) l∧l.length≤maxLen:=by
 obtain⟨A,c,l,h1,h2,h3,_⟩:=p9 (R:=Go.Inq.Flat It.enc) (size:=2) (fun _=>True) ⟨0,0⟩ Tryz.underlying107 (by kernel_rfl) (by decide) (fun n cs x h=>Kn (by kernel_rfl) h) h;exact⟨A,c,l,h1,h2,h3⟩
theorem Nl{n:Nat}{cs:List Value}{x:DataW H×List MemPlace}(hC:Tryz.prog.cellsOf 109=3)(h:DataW.trod enc Tryz.prog w base spare held n 109 cs=some x):
 ∃t:Txn,zm w (Old w) cs t∧t.writes.length≤maxLen∧t.reads.length≤maxLen:=by
 obtain⟨y0,y1,y2,n',_,hl,h0,h1,h2⟩:=trod_struct3 Tryz.underlying109 h;rw[hC]at hl;have e1:Tryz.prog.cellsOf 3=1:=(by kernel_rfl);have e2:Tryz.prog.cellsOf 33=1:=(by kernel_rfl);have e3:Tryz.prog.cellsOf 107=1:=(by kernel_rfl);simp only[e1,e2,e3]at h0 h1 h2
 match cs,hl with
 |[a,b,c],_=>
  obtain⟨k0,e0,_⟩:=DataW.trod_int Tryz.underlying3 h0;simp at e0;have h1':DataW.trod enc Tryz.prog w base spare held n' 33 [b]=some y1:=(by simpa using h1);have h2':DataW.trod enc Tryz.prog w base spare held n' 107 [c]=some y2:=(by simpa using h2);obtain⟨A,c',l,hv,hev,hlen⟩:=AX h1';obtain⟨A2,c2',l2,hv2,TI,Lm⟩:=Gj h2';exact⟨⟨k0,l,l2⟩,⟨b,c,by rw[e0],by rw[hv];exact hev,by rw[hv2];exact TI⟩,hlen,Lm⟩
theorem Ko{n:Nat}{v:Value}{x:DataW H×List MemPlace}(h:DataW.trod enc Tryz.prog w base spare held n 22 [v]=some x):
 ∃(A:Option Addr) (c:Nat) (l:List Txn),v= .slice A l.length c∧aC w (Old w) (.slice A l.length c) l∧l.length≤maxLen∧∀t∈l,t.writes.length≤maxLen∧t.reads.length≤maxLen:=
 p9 (R:=zm) (size:=3) (fun t=>t.writes.length≤maxLen∧t.reads.length≤maxLen) ⟨0,[],[]⟩ Tryz.underlying22 (by kernel_rfl) (by decide) (fun n cs x h=>Nl (by kernel_rfl) h) h
theorem Kq{n:Nat}{cs:List Value}{x:DataW H×List MemPlace}(hC:Tryz.prog.cellsOf 24=1)(h:DataW.trod enc Tryz.prog w base spare held n 24 cs=some x):
 ∃(A:Option Addr) (c:Nat) (l:List Txn),cs=[.slice A l.length c]∧aC w (Old w) (.slice A l.length c) l∧l.length≤maxLen∧∀t∈l,t.writes.length≤maxLen∧t.reads.length≤maxLen:=by
 obtain⟨y0,n',_,hl,h0⟩:=trod_struct1 Tryz.underlying24 h;rw[hC]at hl;have e1:Tryz.prog.cellsOf 22=1:=(by kernel_rfl);simp only[e1]at h0
 match cs,hl with
 |[a],_=>
  have h0':DataW.trod enc Tryz.prog w base spare held n' 22 [a]=some y0:=(by simpa using h0);obtain⟨A,c,l,hv,h1,h2,h3⟩:=Ko h0';exact⟨A,c,l,by rw[hv],h1,h2,h3⟩
end
section
variable{H:Type}{enc:TypeId×Value→H}{w:World}{base:Nat}{spare:Nat→Bool}{held:Bool}
theorem Cj{P:Program}{t:TypeId}{f0 f1 f2 f3 f4:Field}{fuel:Nat}{cs:List Value}{x:DataW H×List MemPlace}(ht:P.underlying t=some (.struct #[f0,f1,f2,f3,f4]))(h:DataW.trod enc P w base spare held fuel t cs=some x):
 ∃y0 y1 y2 y3 y4 n,cs.length=P.cellsOf t∧DataW.trod enc P w base spare held n f0.type ((cs.drop f0.offset).take (P.cellsOf f0.type))=some y0∧
  DataW.trod enc P w base spare held n f1.type ((cs.drop f1.offset).take (P.cellsOf f1.type))=some y1∧DataW.trod enc P w base spare held n f2.type ((cs.drop f2.offset).take (P.cellsOf f2.type))=some y2∧
  DataW.trod enc P w base spare held n f3.type ((cs.drop f3.offset).take (P.cellsOf f3.type))=some y3∧DataW.trod enc P w base spare held n f4.type ((cs.drop f4.offset).take (P.cellsOf f4.type))=some y4:=by
 obtain⟨xs,n,_,rfl,hl,hlen,hf⟩:=DataW.trod_struct ht h
 match xs,hlen with
 |[y0,y1,y2,y3,y4],_=>exact⟨y0,y1,y2,y3,y4,n,hl,by simpa using hf 0 f0 rfl,by simpa using hf 1 f1 rfl,by simpa using hf 2 f2 rfl,by simpa using hf 3 f3 rfl,by simpa using hf 4 f4 rfl⟩
theorem Nn{n:Nat}{a b c:Value}{x:DataW H×List MemPlace}(h:DataW.trod enc Tryz.prog w base spare held n 102 [a,b,c]=some x):∃d:Cho,[a,b,c]=[.int .i64 d.key,.int .i64 d.a,.int .i64 d.b]:=by
 obtain⟨y0,y1,y2,n',_,hl,h0,h1,h2⟩:=trod_struct3 Tryz.underlying102 h;have e1:Tryz.prog.cellsOf 3=1:=(by kernel_rfl);simp only[e1]at h0 h1 h2;obtain⟨k0,g0,_⟩:=DataW.trod_int Tryz.underlying3 h0;obtain⟨k1,g1,_⟩:=DataW.trod_int Tryz.underlying3 h1;obtain⟨k2,g2,_⟩:=DataW.trod_int Tryz.underlying3 h2;simp at g0 g1 g2;exact⟨⟨k0,k1,k2⟩,by rw[g0,g1,g2]⟩
theorem Kr{n:Nat}{cs:List Value}{x:DataW H×List MemPlace}(hC:Tryz.prog.cellsOf 104=7)(h:DataW.trod enc Tryz.prog w base spare held n 104 cs=some x):∃f:Fct,jZ w (Old w) cs f:=by
 obtain⟨y0,y1,y2,y3,y4,n',hl,h0,h1,h2,h3,h4⟩:=Cj Tryz.underlying104 h;rw[hC]at hl;have e1:Tryz.prog.cellsOf 3=1:=(by kernel_rfl);have e2:Tryz.prog.cellsOf 102=3:=(by kernel_rfl);have e3:Tryz.prog.cellsOf 33=1:=(by kernel_rfl);simp only[e1,e2,e3]at h0 h1 h2 h3 h4
 match cs,hl with
 |[a,b,c,d,e,f,g],_=>
  obtain⟨ch,hch⟩:=Nn (a:=a) (b:=b) (c:=c) (by simpa using h0);simp only[List.cons.injEq,and_true]at hch;obtain⟨k1,g1,_⟩:=DataW.trod_int Tryz.underlying3 h1;obtain⟨k2,g2,_⟩:=DataW.trod_int Tryz.underlying3 h2;obtain⟨k3,g3,_⟩:=DataW.trod_int Tryz.underlying3 h3;simp at g1 g2 g3;have h4':DataW.trod enc Tryz.prog w base spare held n' 33 [g]=some y4:=(by simpa using h4);obtain⟨A,c',l,hv,hev,_⟩:=AX h4';exact⟨⟨ch,k1,k2,k3,l⟩,A,c',by rw[hch.1,hch.2.1,hch.2.2,g1,g2,g3,hv],hev⟩
theorem Gl{n:Nat}{v:Value}{x:DataW H×List MemPlace}(h:DataW.trod enc Tryz.prog w base spare held n 27 [v]=some x):
 ∃(A:Option Addr) (c:Nat) (l:List Fct),v= .slice A l.length c∧eU w (Old w) (.slice A l.length c) l∧l.length≤maxLen:=by
 obtain⟨A,c,l,h1,h2,h3,_⟩:=p9 (R:=jZ) (size:=7) (fun _=>True) ⟨⟨0,0,0⟩,0,0,0,[]⟩ Tryz.underlying27 (by kernel_rfl) (by decide) (fun n cs x h=>by obtain⟨f,hf⟩:=Kr (by kernel_rfl) h;exact⟨f,hf,trivial⟩) h;exact⟨A,c,l,h1,h2,h3⟩
end
section
variable{H:Type}{enc:TypeId×Value→H}{w:World}{base:Nat}{spare:Nat→Bool}{held:Bool}
theorem Np{n:Nat}{cs:List Value}{x:DataW H×List MemPlace}(hC:Tryz.prog.cellsOf 26=2)(h:DataW.trod enc Tryz.prog w base spare held n 26 cs=some x):∃a b:Int,cs=[.int .i64 a,.int .i64 b]:=by
 obtain⟨y0,y1,n',_,hl,h0,h1⟩:=trod_struct2 Tryz.underlying26 h;rw[hC]at hl;have e2:Tryz.prog.cellsOf 3=1:=(by kernel_rfl);simp only[e2]at h0 h1
 match cs,hl with
 |[a,b],_=>
  obtain⟨k0,g0,_⟩:=DataW.trod_int Tryz.underlying3 h0;obtain⟨k1,g1,_⟩:=DataW.trod_int Tryz.underlying3 h1;simp at g0 g1;exact⟨k0,k1,by rw[g0,g1]⟩
theorem Ea{n:Nat}{cs:List Value}{x:DataW H×List MemPlace}(hC:Tryz.prog.cellsOf 29=5)(h:DataW.trod enc Tryz.prog w base spare held n 29 cs=some x):
 ∃(A:Option Addr) (c:Nat) (Hs:List Txn) (level a b:Int) (Al:Option Addr) (cl:Nat) (L:List Fct),cs=[.slice A Hs.length c,.int .i64 level,.int .i64 a,.int .i64 b,.slice Al L.length cl]∧
  aC w (Old w) (.slice A Hs.length c) Hs∧Hs.length≤maxLen∧(∀t∈Hs,t.writes.length≤maxLen∧t.reads.length≤maxLen)∧eU w (Old w) (.slice Al L.length cl) L∧L.length≤maxLen:=by
 obtain⟨y0,y1,y2,y3,n',_,hl,h0,h1,h2,h3⟩:=trod_struct4 Tryz.underlying29 h;rw[hC]at hl;have e1:Tryz.prog.cellsOf 24=1:=(by kernel_rfl);have e2:Tryz.prog.cellsOf 3=1:=(by kernel_rfl);have e3:Tryz.prog.cellsOf 27=1:=(by kernel_rfl);have e4:Tryz.prog.cellsOf 26=2:=(by kernel_rfl);simp only[e1,e2,e3,e4]at h0 h1 h2 h3
 match cs,hl with
 |[a,b,c,d,e],_=>
  have h0':DataW.trod enc Tryz.prog w base spare held n' 24 [a]=some y0:=(by simpa using h0);obtain⟨a0,cap0,l0,he0,hl0,hn0,hm0⟩:=Kq (by kernel_rfl) h0';obtain⟨k1,g1,_⟩:=DataW.trod_int Tryz.underlying3 h1;simp at g1 he0;have h2':DataW.trod enc Tryz.prog w base spare held n' 26 [c,d]=some y2:=(by simpa using h2);have h3':DataW.trod enc Tryz.prog w base spare held n' 27 [e]=some y3:=(by simpa using h3);obtain⟨k2,k3,hs⟩:=Np (by kernel_rfl) h2';simp only[List.cons.injEq,and_true]at hs;obtain⟨A2,c2,l2,hv2,hf2,hn2⟩:=Gl h3';exact⟨a0,cap0,l0,k1,k2,k3,A2,c2,l2,by rw[he0,g1,hs.1,hs.2,hv2],hl0,hn0,hm0,hf2,hn2⟩
end
end Go.Proofs.YtfhnamomiaekdaaGreatDoor
namespace Go.Proofs.YtfhnamomiaekdaaGreatDoor
def Nq(P:Program)(fn:Func)(s:ChangeSpec)(c:OpenClaim):Bool:=
 c.wf (OpenSpec.ofChange s)&&laidOutB P&&mapsRowed P&&fn.params.all (P.readableRec ·)&&namedTie P c.named s.vars
def dL(P:Program)(fn:Func)(s:ChangeSpec)(c:OpenClaim):Bool:=
 (c.stops==[])&&(P.stops==[])&&(c.knobs==[])&&(P.stopKnobs==[])&&
 (c.maps==(fn.params.toList++s.plain.varTypes P).any (P.mapsRec ·))&&(c.ifaces==(fn.params.toList++s.plain.varTypes P).any (P.ifacesRec ·))&&(c.mapsOut==P.mapsAmong fn.resultTypes.toList)&&
 (c.loops==(fn.params.toList++s.plain.varTypes P).any (P.loopsFrom ·))&&(c.wideKeys==(fn.params.toList++s.plain.varTypes P++fn.resultTypes.toList).any (P.wideKeysFrom ·))&&
 s.vars.all (P.varReadable ·)&&fn.resultTypes.all (fun t=>P.readableRec t&&decide (t<P.types.size))&&(c.ifacesOut==fn.resultTypes.toList.any (P.ifacesRec ·))&&(c.loopsOut==fn.resultTypes.toList.any (P.loopsFrom ·))
def Nr(P:Program)(fn:Func)(s:ChangeSpec)(c:OpenClaim):Bool:=
 (c.plainKeys==P.plainKeys)&&c.shortTexts.isNone&&P.stopsHeard&&P.mayEnter&&(c.lifted==P.liftsFinal)&&(P.make==some c.make)&&(c.kinds==(if c.domain.isEmpty then[]else fn.params.toList.map fun t=>match P.underlying t with|some (.int k)=>some k|_=>none))&&(c.pinned==c.pinnedBy)&&
 (c.veiled==(fn.params.toList++s.plain.varTypes P++fn.resultTypes.toList).any (P.veiledRec ·))&&c.veiledFits P fn.params.toList (fn.params.toList++s.plain.varTypes P++fn.resultTypes.toList)
theorem Ck {P:Program} {f:FuncId} {fn:Func} {s:ChangeSpec} {c:OpenClaim} (he:Nq P fn s c=true)
 (ha:(c.inPlace==P.inPlace f)=true) (hb:(c.unfollowed==P.unfollowed f)=true) (hc:(c.recurses==P.recurses f)=true) (hd:(c.named==P.varsNamed f)=true)
 (hf:dL P fn s c=true) (hg:Nr P fn s c=true):joinedFacts P f fn s c=true:=by
 unfold Nq at he;unfold dL at hf;unfold Nr at hg;unfold joinedFacts;rw[Bool.and_eq_true]at he hf hg;simp only[Bool.and_eq_true,and_assoc]at he hf hg⊢;obtain⟨e1,e2,e3,e4,e5⟩:=he;obtain⟨f1,f2,f3,f4,f5,f6,f7,f8,f9,f10,f11,f12,f13⟩:=hf;obtain⟨g1,g2,g3,g4,g5,g6,g7,g8,g9,g10⟩:=hg;exact⟨e1,e2,e3,e4,e5,f1,f2,f3,f4,ha,hb,hc,hd,f5,f6,f7,f8,f9,f10,f11,f12,f13,g1,g2,g3,g4,g5,g6,g7,g8,g9,g10⟩
end Go.Proofs.YtfhnamomiaekdaaGreatDoor
namespace Go.Inq
inductive Tr where
 |leaf (n:Nod):Tr
 |fork (c:Cho) (l r:Tr):Tr
def Tr.flat:Tr→List Nod
 | .leaf n=>[n]
 | .fork c l r=>⟨c,[]⟩::(l.flat++r.flat)
def Tr.ok:Tr→Prop
 | .leaf n=>n.cyc≠[]
 | .fork _ l r=>l.ok∧r.ok
def Tr.leaves:Tr→Nat
 | .leaf _=>1
 | .fork _ l r=>l.leaves+r.leaves
def Tr.deep:Tr→Nat
 | .leaf _=>0
 | .fork _ l r=>1+max l.deep r.deep
def Tr.held(H:List Txn)(level:Int):Tr→List Cho→Bool
 | .leaf n,l=>decide (n.c=aY)&&iK H level l n.cyc
 | .fork c x y,l=>x.held H level (l++[c])&&y.held H level (l++[aL c])&&bO H c
def bP:Nat→List Nod→Option (Tr×List Nod)
 |0,_=>none
 |_+1,[]=>none
 |k+1,n::r=>if n.cyc≠[]then some (.leaf n,r)else match bP k r with
  |none=>none
  |some (x,r1)=>match bP k r1 with
   |none=>none
   |some (y,r2)=>some (.fork n.c x y,r2)
theorem jq:∀{k:Nat} {l r:List Nod} {t:Tr},bP k l=some (t,r)→l=t.flat++r∧t.ok
 |0,_,_,_,h=>by cases h
 |k+1,[],_,_,h=>by cases h
 |k+1,n::l,r,t,h=>by
  unfold bP at h;split at h
  ·rename_i hc;injection h with h
   injection h with h1 h2
   subst h1 h2;exact⟨rfl,hc⟩
  ·rename_i hc;split at h
   ·cases h
   ·rename_i x r1 h1;split at h
    ·cases h
    ·rename_i y r2 h2;injection h with h
     injection h with h3 h4
     subst h3 h4;obtain⟨e1,o1⟩:=jq h1;obtain⟨e2,o2⟩:=jq h2;refine⟨?_,o1,o2⟩;have hn:n=⟨n.c,[]⟩:=by
      have:n.cyc=[]:=Classical.byContradiction hc;cases n;simp at this⊢;exact this
     show n::l=(⟨n.c,[]⟩::(x.flat++y.flat))++r2;rw[e1,e2,←hn];simp
theorem Ns(t:Tr):0<t.flat.length:=by cases t<;>simp[Tr.flat]
theorem uS:∀(t:Tr) (r:List Nod) (k:Nat),t.ok→t.flat.length≤k→bP k (t.flat++r)=some (t,r)
 | .leaf n,r,k,ho,hk=>by
  obtain⟨k,rfl⟩:∃j,k=j+1:=⟨k-1,by simp[Tr.flat]at hk;omega⟩;show bP (k+1) (n::r)=_;unfold bP;rw[if_pos (show n.cyc≠[] from ho)]
 | .fork c x y,r,k,ho,hk=>by
  have hl:(Tr.fork c x y).flat.length=x.flat.length+y.flat.length+1:=(by simp[Tr.flat]);obtain⟨k,rfl⟩:∃j,k=j+1:=⟨k-1,by omega⟩;show bP (k+1) (⟨c,[]⟩::(x.flat++y.flat)++r)=_;rw[List.cons_append,List.append_assoc];unfold bP;rw[if_neg (by simp),uS x (y.flat++r) k ho.1 (by omega)];dsimp only;rw[uS y r k ho.2 (by omega)]
def nS(l:List Nod):Option Tr:=match bP l.length l with
 |some (t,[])=>some t
 |_=>none
theorem rR{l:List Nod}{t:Tr}:nS l=some t↔l=t.flat∧t.ok:=by
 unfold nS;constructor
 ·intro h;split at h
  ·rename_i t' h1;injection h with h
   subst h;obtain⟨e,o⟩:=jq h1;exact⟨by rw[e];simp,o⟩
  ·cases h
 ·rintro⟨rfl,ho⟩;have:=uS t [] t.flat.length ho (Nat.le_refl _);rw[List.append_nil]at this;rw[this]
def lI(H:List Txn)(level:Int)(l:List Cho)(tree:List Nod):Bool:=nE H level&&match nS tree with
 |some t=>t.held H level l
 |none=>false
theorem Kt{H:List Txn}{level:Int}{l:List Cho}{tree:List Nod}:lI H level l tree=true↔nE H level=true∧∃t:Tr,tree=t.flat∧t.ok∧t.held H level l=true:=by
 unfold lI;rw[Bool.and_eq_true];refine and_congr_right fun _=> ?_;constructor
 ·intro h;split at h
  ·rename_i t ht;obtain⟨e,o⟩:=rR.1 ht;exact⟨t,e,o,h⟩
  ·cases h
 ·rintro⟨t,e,o,h⟩;rw[rR.2 ⟨e,o⟩];exact h
structure Mk where
 c:Cho
 right:Bool
 done:List Nod
deriving DecidableEq
def Mk.chosen(m:Mk):Cho:=if m.right then aL m.c else m.c
def AY(path:List Mk):List Cho:=path.map Mk.chosen
def QJ(path:List Mk)(c:Cho):Bool:=path.any fun m=>decide (c=m.c)||decide (c=aL m.c)
def AZ(H:List Txn)(level:Int)(l:List Cho)(path:List Mk)(m:Mk):Bool:=
 !QJ path m.c&&bO H m.c&&if m.right then lI H level (l++AY path++[m.c]) m.done else decide (m.done=[])
def jL(H:List Txn)(level:Int)(l:List Cho)(path:List Mk)(n:Nat):Bool:=(List.range n).all fun i=>AZ H level l (path.take i) (path.getD i ⟨aY,false,[]⟩)
def Gm(H:List Txn)(level:Int)(L:List Fct)(path:List Mk):Bool:=decide (L.length+path.length<20000)&&dF H level L&&jL H level (av L) path path.length
theorem lJ{H:List Txn}{level:Int}{l:List Cho}{path:List Mk}:jL H level l path path.length=true↔∀i (hi:i<path.length),AZ H level l (path.take i) path[i]=true:=by
 unfold jL;rw[List.all_eq_true];constructor
 ·intro h i hi;have:=h i (List.mem_range.2 hi);rwa[iZ hi]at this
 ·intro h i hi;have hi:=List.mem_range.1 hi;rw[iZ hi];exact h i hi
theorem Gn{H:List Txn}{level:Int}{l:List Cho}{path:List Mk}(h:jL H level l path path.length=true)(n:Nat):jL H level l (path.take n) (path.take n).length=true:=by
 rw[lJ]at h⊢;intro i hi;rw[List.length_take]at hi;rw[List.take_take,Nat.min_eq_left (by omega),List.getElem_take];exact h i (by omega)
theorem Gp{H:List Txn}{level:Int}{l:List Cho}{path:List Mk}{m:Mk}:jL H level l (path++[m]) (path++[m]).length=(jL H level l path path.length&&AZ H level l path m):=by
 rw[Bool.eq_iff_iff,Bool.and_eq_true];constructor
 ·intro h;have h1:=Gn h path.length;rw[List.take_left]at h1;rw[lJ]at h;have h2:=h path.length (by simp);rw[List.take_left]at h2;simp at h2;exact⟨h1,h2⟩
 ·rintro⟨h1,h2⟩;rw[lJ]at h1⊢;intro i hi;rw[List.length_append,List.length_singleton]at hi;by_cases hl:i<path.length
  ·rw[List.take_append_of_le_length (by omega),List.getElem_append_left hl];exact h1 i hl
  ·obtain rfl:i=path.length:=(by omega);rw[List.take_left];simpa using h2
def yP(H:List Txn)(level:Int)(L:List Fct):List Mk→List Nod→List Mk×Say
 |[],tree=>([],⟨2,[],d9 H level L tree,[]⟩)
 |m::r,tree=>if m.right then yP H level L r (⟨m.c,[]⟩::(m.done++tree))else((⟨m.c,true,tree⟩::r).reverse,nQ)
def yQ(H:List Txn)(level:Int)(L:List Fct)(path:List Mk):List Mk×Say:=
 if Gm H level L path then
  let row:=av L++AY path
  if aV H level row≠[]then yP H level L path.reverse [⟨aY,aV H level row⟩]
  else match mh H row with
   |none=>(path,⟨1,(fD H.length (aX H level row)).getD [],[],[]⟩)
   |some p=>(path++[⟨p,false,[]⟩],nQ)
 else(path,jv)
end Go.Inq
namespace Go.Proofs.YtfhnamomiaekdaaGreatDoor
open Go.RowKit Go.Inq
set_option maxHeartbeats 1000000
theorem Nt{H:List Txn}{level:Int}{l:List Cho}{path:List Mk}{m:Mk}(h:AZ H level l path m=true):bO H m.c=true:=by
 unfold AZ at h;rw[Bool.and_eq_true,Bool.and_eq_true]at h;exact h.1.2
theorem Gq{H:List Txn}{m:Mk}(h:bO H m.c=true):bO H m.chosen=true:=by
 unfold Mk.chosen;split
 ·exact jg h
 ·exact h
theorem Nu{H:List Txn}{level:Int}{l:List Cho}{path:List Mk}(h:jL H level l path path.length=true):∀c∈AY path,bO H c=true:=fun c hc=>by
 unfold AY at hc;obtain⟨m,hm,rfl⟩:=List.mem_map.1 hc;obtain⟨i,hi,rfl⟩:=List.getElem_of_mem hm;exact Gq (Nt (lJ.1 h i hi))
structure RiP(H:List Txn)(level:Int)(L:List Fct)(path:List Mk):Prop where
 len:L.length+path.length<20000
 OY:dF H level L=true
 marks:jL H level (av L) path path.length=true
theorem Gs{H:List Txn}{level:Int}{L:List Fct}{path:List Mk}:Gm H level L path=true↔RiP H level L path:=by
 unfold Gm;rw[Bool.and_eq_true,Bool.and_eq_true,decide_eq_true_eq];exact⟨fun h=>⟨h.1.1,h.1.2,h.2⟩,fun h=>⟨⟨h.len,h.OY⟩,h.marks⟩⟩
section
variable{H:List Txn}{level:Int}{L:List Fct}{path:List Mk}
theorem RiP.one(h:RiP H level L path):∀c∈av L++AY path,bO H c=true:=fun c hc=>by
 rw[List.mem_append]at hc;exact hc.elim (jl h.OY c) (Nu h.marks c)
theorem RiP.snoc{m:Mk}(h:RiP H level L path)(hl:L.length+path.length+1<20000)(hm:AZ H level (av L) path m=true):RiP H level L (path++[m]):=
 ⟨by rw[List.length_append,List.length_singleton];omega,h.OY,by rw[Gp,h.marks,hm];rfl⟩
end
def OZ(H:List Txn)(level:Int)(L:List Fct):Nat→List Mk→List Mk×Say
 |0,path=>(path,nQ)
 |n+1,path=>if(yQ H level L path).2.said=0 then OZ H level L n (yQ H level L path).1 else yQ H level L path
def MkR(w:World)(K:Nat→Prop)(cs:List Value)(m:Mk):Prop:=∃A c,cs=[.int .i64 m.c.key,.int .i64 m.c.a,.int .i64 m.c.b,.bool m.right,.slice A m.done.length c]∧eX w K (.slice A m.done.length c) m.done
theorem MkR.aT:lN MkR:=fun _ _ _ _ _ _ h ha hk=>by
 obtain⟨A,c,h1,h2⟩:=h;exact⟨A,c,h1,eX.keep h2 ha hk⟩
def MkS(w:World)(K:Nat→Prop)(v:Value)(l:List Mk):Prop:=SlR 5 MkR w K v l
section
variable{w w':World}{K K':Nat→Prop}{v:Value}{l:List Mk}
theorem MkS.keep(h:MkS w K v l)(ha:Agree K w w')(hk:∀b,K b→K' b):MkS w' K' v l:=SlR.keep MkR.aT h ha hk
theorem MkS.below(h:MkS w (Old w) v l)(hb:Below w.heap.size w w'):MkS w' (Old w') v l:=SlR.below MkR.aT h hb
theorem MkS.fit(h:MkS w K v l)(hk:∀b,K b→K' b):MkS w K' v l:=SlR.fit MkR.aT h hk
theorem MkS.nil(w:World)(K:Nat→Prop)(A:Option Addr)(c:Nat):MkS w K (.slice A 0 c) []:=SlR.nil _ _ _ _ _ _
theorem MkS.take{A:Option Addr}{n c:Nat}(h:MkS w K (.slice A n c) l){k:Nat}(hk:k≤l.length):MkS w K (.slice A k c) (l.take k):=SlR.take h hk
theorem MkS.cap{A:Option Addr}{n c:Nat}(h:MkS w K (.slice A n c) l):l.length≤c:=by
 obtain⟨_,_,e,h1⟩:=SlR.len h;simp only[Value.slice.injEq]at e;omega
structure TJ(w:World)(K:Nat→Prop)(b o:Nat)(m:Mk)(Ay:Option Addr)(cy:Nat):Prop where
 d0:w.cell? ⟨b,o,none⟩=some (.int .i64 m.c.key)
 d1:w.cell? ⟨b,o+1,none⟩=some (.int .i64 m.c.a)
 d2:w.cell? ⟨b,o+2,none⟩=some (.int .i64 m.c.b)
 d3:w.cell? ⟨b,o+3,none⟩=some (.bool m.right)
 d4:w.cell? ⟨b,o+4,none⟩=some (.slice Ay m.done.length cy)
 done:eX w K (.slice Ay m.done.length cy) m.done
theorem MkS.at_{A:Option Addr}{n c:Nat}(h:MkS w K (.slice A n c) l){i:Nat}(hi:i<l.length):∃b off Ay cy,A=some ⟨b,off,none⟩∧K b∧TJ w K b (off+i*5) l[i] Ay cy:=by
 obtain⟨b,off,cs,hA,hK,-,⟨Ay,cy,rfl,hy⟩,hc⟩:=SlR.at_ h hi;exact⟨b,off,Ay,cy,hA,hK,hc 0 _ rfl,hc 1 _ rfl,hc 2 _ rfl,hc 3 _ rfl,hc 4 _ rfl,hy⟩
end
def fA(p:List Mk):Nat:=(p.map fun m=>1+m.done.length).sum
theorem Gt(p:List Mk)(m:Mk):fA (p++[m])=fA p+(1+m.done.length):=by unfold fA;rw[List.map_append,List.sum_append];simp
theorem Nv{p:List Mk}:p.length≤fA p:=by
 unfold fA
 induction p with
 |nil=>simp
 |cons m p ih=>simp only[List.map_cons,List.sum_cons,List.length_cons];omega
theorem Ku{p:List Mk}{m:Mk}(h:m∈p):1+m.done.length≤fA p:=by
 unfold fA
 induction p with
 |nil=>simp at h
 |cons x p ih=>
  simp only[List.map_cons,List.sum_cons];rcases List.mem_cons.1 h with rfl|h
  ·omega
  ·have:=ih h;omega
theorem Gu(p:List Mk)(i:Nat):fA (p.take i)≤fA p:=by
 conv=>rhs;rw[←List.take_append_drop i p]
 unfold fA;rw[List.map_append,List.sum_append];omega
def tO(l:List Nod):Prop:=∀n∈l,n.cyc.length≤1000000
def Cm(p:List Mk):Prop:=fA p≤50000000∧∀m∈p,tO m.done
theorem Cm.len{p:List Mk}(h:Cm p):p.length≤50000000:=Nat.le_trans Nv h.1
theorem Cm.done{p:List Mk}(h:Cm p){m:Mk}(hm:m∈p):Dl m.done:=⟨by have:=Ku hm;have:=h.1;omega,h.2 m hm⟩
theorem Cm.at_{p:List Mk}(h:Cm p){i:Nat}(hi:i<p.length):Dl p[i].done:=h.done (List.getElem_mem hi)
theorem Cm.take{p:List Mk}(h:Cm p)(i:Nat):Cm (p.take i):=⟨Nat.le_trans (Gu p i) h.1,fun m hm=>h.2 m (List.mem_of_mem_take hm)⟩
theorem A8(p:List Mk):fA p.reverse=fA p:=by
 unfold fA;rw[List.map_reverse,List.sum_reverse]
theorem rT(m:Mk)(p:List Mk):fA (m::p)=1+m.done.length+fA p:=by unfold fA;simp
theorem Kv{H:List Txn}{level:Int}{L:List Fct}:∀(r:List Mk) (tree:List Nod),tO tree→(∀m∈r,tO m.done)→
 fA (yP H level L r tree).1≤fA r+tree.length∧∀m∈(yP H level L r tree).1,tO m.done:=by
 intro r
 induction r with
 |nil=>intro tree _ _;exact⟨by simp[yP,fA],fun m hm=>by simp[yP]at hm⟩
 |cons m r ih=>
  intro tree ht hr;unfold yP;split
  ·obtain⟨h1,h2⟩:=ih (⟨m.c,[]⟩::(m.done++tree)) (fun n hn=>by
    rw[List.mem_cons,List.mem_append]at hn;rcases hn with rfl|hn|hn
    ·simp
    ·exact hr m (by simp) n hn
    ·exact ht n hn) fun m' hm'=>hr m' (by simp[hm'])
   refine⟨?_,h2⟩;rw[rT];simp only[List.length_cons,List.length_append]at h1;omega
  ·refine⟨?_,fun m' hm'=> ?_⟩
   ·dsimp only;rw[A8,rT,rT];dsimp only;omega
   ·dsimp only at hm';rw[List.mem_reverse,List.mem_cons]at hm';rcases hm' with rfl|hm'
    ·exact ht
    ·exact hr m' (by simp[hm'])
theorem mM{H:List Txn}(hr:aA H=true)(level:Int)(row:List Cho):(aV H level row).length≤1000000:=by
 have hn:=((aB H).1 hr).1;unfold aV;rw[List.length_map];exact Nat.le_trans p8 (by omega)
theorem Kw{H:List Txn}{level:Int}{L:List Fct}{path:List Mk}(h:∀m∈path,tO m.done):
 fA (yQ H level L path).1≤fA path+1∧∀m∈(yQ H level L path).1,tO m.done:=by
 unfold yQ;split
 ·rename_i hg;have hr:aA H=true:=(iN.1 (dO (Gs.1 hg).OY)).1;dsimp only;split
  ·obtain⟨h1,h2⟩:=Kv (H:=H) (level:=level) (L:=L) path.reverse [⟨aY,aV H level (av L++AY path)⟩] (fun n hn=>by
    rw[List.mem_singleton]at hn;subst hn;exact mM hr _ _) fun m hm=>h m (List.mem_reverse.1 hm)
   rw[A8]at h1;exact⟨h1,h2⟩
  ·split
   ·exact⟨by dsimp only;omega,h⟩
   ·refine⟨by dsimp only;rw[Gt];simp,fun m hm=> ?_⟩;dsimp only at hm;rw[List.mem_append,List.mem_singleton]at hm;rcases hm with hm|rfl
    ·exact h m hm
    ·intro n hn;simp at hn
 ·exact⟨by dsimp only;omega,h⟩
structure Nw(H:List Txn)(level:Int)(L:List Fct)(N k:Nat)(path:List Mk)(F:List Mk×Say):Prop where
 le:k≤N
 size:fA path≤k
 cyc:∀m∈path,tO m.done
 fin:F=OZ H level L (N-k) path
theorem Nw.start{H:List Txn}{level:Int}{L:List Fct}{N:Nat}:Nw H level L N 0 [] (OZ H level L N []):=⟨Nat.zero_le _,by simp[fA],fun m hm=>by simp at hm,rfl⟩
theorem Nw.step{H:List Txn}{level:Int}{L:List Fct}{N k:Nat}{path:List Mk}{F:List Mk×Say}(h:Nw H level L N k path F)(hk:k<N){r:List Mk×Say}(hr:yQ H level L path=r):
 (r.2.said=0→Nw H level L N (k+1) r.1 F)∧(r.2.said≠0→F=r):=by
 obtain⟨h1,h2⟩:=Kw (H:=H) (level:=level) (L:=L) h.cyc;rw[hr]at h1 h2;have hf:=h.fin;rw[show N-k=(N-(k+1))+1 by omega]at hf;unfold OZ at hf;rw[hr]at hf;have hs:=h.size;refine⟨fun g=>⟨hk,by omega,h2,?_⟩,fun g=> ?_⟩
 ·rw[if_pos g]at hf;exact hf
 ·rw[if_neg g]at hf;exact hf
theorem uT{l:List Int}{x:Int}{i:Nat}(h:l.idxOf? x=some i):dR l x=i:=by
 unfold dR;have:l.findIdx? (·==x)=some i:=h;rw[this]
theorem Cn{l:List Int}{x:Int}(h:l.idxOf? x=none):dR l x= -1:=by
 unfold dR;have:l.findIdx? (·==x)=none:=h;rw[this]
theorem Ky{l:List Int}{x:Int}(h0:l.contains x=false):dR l x= -1:=by
 refine Cn ?_;rw[List.idxOf?,List.findIdx?_eq_none_iff];intro y hy;rw[beq_eq_false_iff_ne];rintro rfl;rw[Bool.eq_false_iff]at h0;exact h0 (List.contains_iff_mem.2 hy)
theorem Ny{l:List Int}{x:Int}:dR l x<0↔l.contains x=false:=by
 constructor
 ·intro h;rw[Bool.eq_false_iff];intro hc;obtain⟨k,hk⟩:∃k,l.idxOf? x=some k:=by
   cases e:l.idxOf? x with
   |some k=>exact⟨k,rfl⟩
   |none=>
    rw[List.idxOf?,List.findIdx?_eq_none_iff]at e;have:=e x (List.contains_iff_mem.1 hc);simp at this
  rw[uT hk]at h;omega
 ·intro h;rw[Ky h];decide
theorem H6{l:List Int}{x:Int}(h:l.contains x=true):0≤dR l x:=by
 rcases Int.lt_or_le (dR l x) 0 with g|g
 ·rw[Ny,h]at g;cases g
 ·exact g
def bA(l:List Int)(n:Nat):Bool:=decide (l.length=n)&&(List.range n).all fun i=>l.contains (i:Int)
def ofC(order:List Int)(p:Cho):Cho:=if dR order p.a>dR order p.b then⟨p.key,p.b,p.a⟩else p
def ofL(H:List Txn)(order:List Int):List Cho:=(aI H).map (ofC order)
theorem A9{α β:Type}{f g:α→Option β}:∀{l:List α},(∀x∈l,f x=g x)→l.filterMap f=l.filterMap g
 |[],_=>rfl
 |x::l,h=>by
  rw[List.filterMap_cons,List.filterMap_cons,h x (by simp),A9 fun y hy=>h y (by simp[hy])]
theorem H7{H:List Txn}{order:List Int}(h:bA order H.length=true):ofL H order=P6 H order:=by
 unfold ofL P6;rw[←List.filterMap_eq_map];refine A9 fun p hp=> ?_;obtain⟨a,b,ha,hb,hab,hbn,-,-⟩:=qY hp;unfold bA at h;rw[Bool.and_eq_true,List.all_eq_true]at h;have h1:=h.2 a (List.mem_range.2 (by omega));have h2:=h.2 b (List.mem_range.2 hbn);rw[←ha]at h1;rw[←hb]at h2;have g1:=H6 h1;have g2:=H6 h2;unfold Pq ofC;show some (if _ then _ else _)=_;cases e1:order.idxOf? p.a with
 |none=>rw[Cn e1]at g1;omega
 |some i=>
  cases e2:order.idxOf? p.b with
  |none=>rw[Cn e2]at g2;omega
  |some j=>
   rw[uT e1,uT e2];dsimp only;by_cases hij:j<i
   ·rw[if_pos (by omega),if_pos hij]
   ·rw[if_neg (by omega),if_neg hij]
theorem Ba{l:List Int}{n j:Nat}(h:bA l n=true)(hj:j<l.length)(hm:∀k,k<n→∃i,∃hi:i<l.length,i≠j∧l[i]=(k:Int)):False:=by
 unfold bA at h;rw[Bool.and_eq_true]at h;have hl:=of_decide_eq_true h.1;have:=jJ (List.range n) ((l.eraseIdx j).map Int.toNat) List.nodup_range fun k hk=>by
  obtain⟨i,hi,hij,e⟩:=hm k (List.mem_range.1 hk);exact List.mem_map.2 ⟨l[i],List.mem_eraseIdx_iff_getElem.2 ⟨i,hi,hij,rfl⟩,by rw[e];simp⟩
 simp[List.length_eraseIdx,hj]at this;omega
theorem mO{l:List Int}{n k:Nat}(h:bA l n=true)(hk:k<n):(k:Int)∈l:=by
 unfold bA at h;rw[Bool.and_eq_true,List.all_eq_true]at h;exact List.contains_iff_mem.1 (h.2 k (List.mem_range.2 hk))
theorem Eb{l:List Int}{n:Nat}(h:bA l n=true):l.length=n:=by
 unfold bA at h;rw[Bool.and_eq_true]at h;exact of_decide_eq_true h.1
theorem jM{l:List Int}{n j:Nat}(h:bA l n=true)(hj:j<l.length):0≤l[j]∧l[j]<(n:Int):=by
 refine Classical.byContradiction fun hno=>Ba h hj fun k hk=> ?_;obtain⟨i,hi,e⟩:=List.getElem_of_mem (mO h hk);refine⟨i,hi,?_,e⟩;rintro rfl;omega
theorem qc{l:List Int}{n i j:Nat}(h:bA l n=true)(hij:i<j)(hj:j<l.length):l[i]'(by omega)≠l[j]:=by
 intro he;refine Ba h hj fun k hk=> ?_;obtain⟨m,hm,e⟩:=List.getElem_of_mem (mO h hk);by_cases hmj:m=j
 ·subst hmj;exact⟨i,by omega,by omega,by rw[he];exact e⟩
 ·exact⟨m,hm,hmj,e⟩
theorem yR{l:List Int}{n:Nat}(h:bA l n=true):l.Nodup:=by
 rw[List.nodup_iff_pairwise_ne,List.pairwise_iff_getElem];intro i j hi hj hij;exact qc h hij hj
theorem H8{l:List Int}{n:Nat}(hl:l.length=n)(hd:l.Nodup)(hb:∀x∈l,0≤x∧x<(n:Int)):bA l n=true:=by
 unfold bA;rw[decide_eq_true hl,Bool.true_and,List.all_eq_true];intro k hk;have hk:=List.mem_range.1 hk;rw[List.contains_iff_mem];refine Classical.byContradiction fun hno=> ?_;have hnd:(l.map Int.toNat).Nodup:=by
  rw[List.nodup_iff_pairwise_ne,List.pairwise_map];exact(List.nodup_iff_pairwise_ne.1 hd).imp_of_mem fun ha hb' hne e=>hne (by have:=hb _ ha;have:=hb _ hb';omega)
 have:=jJ (k::l.map Int.toNat) (List.range n) (List.nodup_cons.2 ⟨fun hm=>by
  obtain⟨y,hy,e⟩:=List.mem_map.1 hm;have:=hb y hy;exact hno (by rw[show(k:Int)=y by omega];exact hy),hnd⟩) fun x hx=>by
  rw[List.mem_cons]at hx;rw[List.mem_range];rcases hx with rfl|hx
  ·exact hk
  ·obtain⟨y,hy,rfl⟩:=List.mem_map.1 hx;have:=hb y hy;omega
 simp at this;omega
structure kD(n:Nat)(E:aj)(o:List Nat):Prop where
 t:Pt n E o
 len:o.length=n
 all:∀y,y<n→y∈o
theorem Ec{n:Nat}{E:aj}{o:List Nat}(ho:fD n E=some o):kD n E o:=by
 have ht:=jK n o ho;have hl:=iq ho;refine⟨ht,hl,fun y hy=>Classical.byContradiction fun hno=> ?_⟩;have:=jJ (y::o) (List.range n) (List.nodup_cons.2 ⟨hno,ht.nd⟩) (fun x hx=>by
  rw[List.mem_cons]at hx;rw[List.mem_range];rcases hx with rfl|hx
  ·exact hy
  ·exact ht.lt x hx)
 simp at this;omega
theorem kD.perm{n:Nat}{E:aj}{o:List Nat}(h:kD n E o):bA (o.map fun(x:Nat)=>(x:Int)) n=true:=by
 refine H8 (by rw[List.length_map];exact h.len) ?_ fun x hx=> ?_
 ·rw[List.nodup_iff_pairwise_ne,List.pairwise_map];exact(List.nodup_iff_pairwise_ne.1 h.t.nd).imp fun hne e=>hne (by omega)
 ·obtain⟨y,hy,rfl⟩:=List.mem_map.1 hx;have:=h.t.lt y hy;omega
theorem kD.at_{n:Nat}{E:aj}{o:List Nat}(h:kD n E o){x:Nat}(hx:x<n):∃hi:o.idxOf x<o.length,o[o.idxOf x]=x:=⟨List.idxOf_lt_length_of_mem (h.all x hx),List.getElem_idxOf _⟩
theorem kD.dR{n:Nat}{E:aj}{o:List Nat}(h:kD n E o){x:Nat}(hx:x<n):dR (o.map fun(x:Nat)=>(x:Int)) (x:Int)=o.idxOf x:=by
 obtain⟨hi,he⟩:=h.at_ hx;refine xI (by rw[List.length_map];exact hi) (by rw[List.getElem_map,he]) fun j hj hlt e=> ?_;rw[List.getElem_map]at e;have hnd:=List.pairwise_iff_getElem.1 (List.nodup_iff_pairwise_ne.1 h.t.nd) j (o.idxOf x) (by simpa using hj) hi hlt;exact hnd (by rw[he];omega)
theorem kD.up{n:Nat}{E:aj}{o:List Nat}(h:kD n E o){x y:Nat}(hx:x<n)(hy:y<n)(he:E x y=true):o.idxOf x<o.idxOf y:=(h.t.up y (h.all y hy) x hx he).2
theorem O4{H:List Txn}{m:List Cho}{E:aj}{o:List Nat}(hm:Gf (aI H) m)(ht:kD H.length E o)(hw:∀a b,wwE m a b=true→E a b=true):∀c∈P6 H (o.map fun(x:Nat)=>(x:Int)),c∈m:=by
 intro c hc;rw[←H7 ht.perm]at hc;unfold ofL at hc;obtain⟨p,hp,rfl⟩:=List.mem_map.1 hc;obtain⟨a,b,ha,hb,hab,hbn,-,-⟩:=qY hp;have hia:=ht.dR (x:=a) (by omega);have hib:=ht.dR (x:=b) hbn;unfold ofC;rw[ha,hb,hia,hib];have hin:∀q∈m,∀x y:Nat,q.a=x→q.b=y→x<H.length→y<H.length→o.idxOf x<o.idxOf y:=fun q hq x y hx hy hxn hyn=>ht.up hxn hyn (hw x y (by
  unfold wwE;rw[List.any_eq_true];exact⟨q,hq,by rw[hx,hy];simp⟩))
 rcases tN hm p hp with h|h
 ·have:=hin p h a b ha hb (by omega) hbn;rw[if_neg (by omega)];exact h
 ·have:=hin (aL p) h b a hb ha hbn (by omega);rw[if_pos (by omega)];have e:aL p=⟨p.key,b,a⟩:=(by unfold aL;rw[ha,hb]);rw[←e];exact h
theorem H9{H:List Txn}(hr:aA H=true){level:Int}{L:List Fct}{tree:List Nod}(h:tO tree):tO (d9 H level L tree)∧(d9 H level L tree).length=2*L.length+tree.length:=by
 unfold d9;refine⟨fun n hn=> ?_,by simp;omega⟩;rw[List.mem_append,List.mem_append]at hn;rcases hn with(hn|hn)|hn
 ·obtain⟨f,_,rfl⟩:=List.mem_map.1 hn;exact Nat.zero_le _
 ·exact h n hn
 ·obtain⟨k,_,rfl⟩:=List.mem_map.1 hn;exact mM hr _ _
theorem Kz{H:List Txn}(hr:aA H=true){E:aj}{o:List Nat}(h:fD H.length E=some o):(ay o).length≤1000000:=by
 have hn:=((aB H).1 hr).1;have:=iq (show bV H.length _ H.length=some o from h);rw[aK];omega
theorem Gv{H:List Txn}{level a i:Int}{L:List Fct}:Dl (dG H level a i L).2.tree∧(ay (dG H level a i L).2.order).length≤1000000:=by
 have h0:Dl []:=⟨Nat.zero_le _,by simp⟩;unfold dG;split
 ·rename_i hg;simp only[Bool.and_eq_true,decide_eq_true_eq]at hg;have hr:=(iN.1 (dO hg.2)).1;have hl:L.length<20000:=hg.1.2;split
  ·show Dl (dK H level L).tree∧(ay (dK H level L).order).length≤1000000;unfold dK;split
   ·exact⟨h0,Nat.zero_le _⟩
   ·split
    ·rename_i o ho;exact⟨h0,Kz hr ho⟩
    ·obtain⟨g1,g2⟩:=H9 hr (level:=level) (L:=L) (tree:=[⟨aY,aV H level (av L)⟩]) (by
      intro n hn;rw[List.mem_singleton]at hn;subst hn;exact mM hr _ _)
     exact⟨⟨by show(d9 _ _ _ _).length≤_;rw[g2,List.length_singleton];omega,g1⟩,Nat.zero_le _⟩
  ·dsimp only;split
   ·exact⟨h0,Nat.zero_le _⟩
   ·generalize(aI H).getD a.toNat aY=p;show Dl (eG H level L p).tree∧(ay (eG H level L p).order).length≤1000000;unfold eG;split
    ·exact⟨h0,Nat.zero_le _⟩
    ·split
     ·exact⟨h0,Nat.zero_le _⟩
     ·dsimp only;split
      ·split
       ·exact⟨h0,Nat.zero_le _⟩
       ·exact⟨h0,Nat.zero_le _⟩
      ·split
       ·exact⟨h0,Nat.zero_le _⟩
       ·obtain⟨g1,g2⟩:=H9 hr (level:=level) (L:=L) (tree:=[⟨p,[]⟩,⟨aY,aV H level (av L++[p])⟩,⟨aY,aV H level (av L++[aL p])⟩]) (by
         intro n hn;simp only[List.mem_cons,List.not_mem_nil,or_false]at hn;rcases hn with rfl|rfl|rfl
         ·exact Nat.zero_le _
         ·exact mM hr _ _
         ·exact mM hr _ _)
        exact⟨⟨by show(d9 _ _ _ _).length≤_;rw[g2];simp;omega,g1⟩,Nat.zero_le _⟩
 ·exact⟨h0,Nat.zero_le _⟩
def wrA(H:List Txn)(π:List Int)(key:Int)(i:Nat):Bool:=(aG H (π.getD i 0).toNat).writes.contains key
def fQ(H:List Txn)(π:List Int)(key:Int):Nat→Int
 |0=> -1
 |k+1=>if wrA H π key k then π.getD k 0 else fQ H π key k
theorem uU(H:List Txn)(π:List Int)(key:Int):∀k,(fQ H π key k= -1∧∀i,i<k→wrA H π key i=false)∨∃i,i<k∧fQ H π key k=π.getD i 0∧wrA H π key i=true∧∀j,i<j→j<k→wrA H π key j=false
 |0=> .inl ⟨rfl,fun i hi=>absurd hi (by omega)⟩
 |k+1=>by
  unfold fQ;cases h:wrA H π key k with
  |true=>
   rw[if_pos rfl];exact .inr ⟨k,by omega,rfl,h,fun j h1 h2=>absurd h1 (by omega)⟩
  |false=>
   rw[if_neg (by decide)];rcases uU H π key k with⟨h1,h2⟩|⟨i,h1,h2,h3,h4⟩
   ·refine .inl ⟨h1,fun i hi=> ?_⟩;by_cases e:i=k
    ·subst e;exact h
    ·exact h2 i (by omega)
   ·refine .inr ⟨i,by omega,h2,h3,fun j hj1 hj2=> ?_⟩;by_cases e:j=k
    ·subst e;exact h
    ·exact h4 j hj1 (by omega)
def gI(H:List Txn)(π:List Int)(t:Nat):List It:=(aG H t).reads.map fun r=>⟨r.a,fQ H π r.a (π.idxOf (t:Int))⟩
def vQ(H:List Txn)(π:List Int):Bool:=(List.range π.length).all fun i=>(List.range i).all fun k=> !(decide (π.getD k 0>π.getD i 0)&&decide ((aG H (π.getD k 0).toNat).dJ=(aG H (π.getD i 0).toNat).dJ))
def rU(H:List Txn)(π:List Int):Bool:=(List.range H.length).all fun t=>decide ((aG H t).reads=gI H π t)
def yS(H:List Txn)(π:List Int):Bool:=bA π H.length&&rU H π&&vQ H π
theorem lK{key:Int}{a b:Nat}:∀{l:List Nat},l.Pairwise (·<·)→a∈l→b∈l→a<b→(⟨key,a,b⟩:Cho)∈dV key l
 |[],_,h,_,_=>by cases h
 |x::r,hp,ha,hb,hab=>by
  rw[List.pairwise_cons]at hp;unfold dV;rw[List.mem_append];rw[List.mem_cons]at ha hb;rcases ha with rfl|ha
  ·rcases hb with rfl|hb
   ·omega
   ·exact .inl (List.mem_map.2 ⟨b,hb,rfl⟩)
  ·rcases hb with rfl|hb
   ·have:=hp.1 a ha;omega
   ·exact .inr (lK hp.2 ha hb hab)
theorem vR{H:List Txn}{key:Int}{a b:Nat}(hab:a<b)(hb:b<H.length)(ha1:key∈(aG H a).writes)(hb1:key∈(aG H b).writes):(⟨key,a,b⟩:Cho)∈aI H:=by
 unfold aI;refine List.mem_flatten.2 ⟨_,List.mem_map.2 ⟨key,?_,rfl⟩,lK (ig H key) (bL.2 ⟨by omega,ha1⟩) (bL.2 ⟨hb,hb1⟩) hab⟩;rw[aJ hb]at hb1;exact lY.2 ⟨_,List.getElem_mem hb,hb1⟩
theorem tQ{π:List Int}{n x:Nat}(h:bA π n=true)(hx:x<n):∃hi:π.idxOf (x:Int)<π.length,π[π.idxOf (x:Int)]=(x:Int):=⟨List.idxOf_lt_length_of_mem (mO h hx),List.getElem_idxOf _⟩
theorem Nz{π:List Int}{n x y:Nat}(h:bA π n=true)(hx:x<n)(hy:y<n)(he:π.idxOf (x:Int)=π.idxOf (y:Int)):x=y:=by
 obtain⟨h1,e1⟩:=tQ h hx;obtain⟨h2,e2⟩:=tQ h hy;have:π[π.idxOf (x:Int)]=π[π.idxOf (y:Int)]:=(by simp only[he]);omega
theorem pz{π:List Int}{n i:Nat}(h:bA π n=true)(hi:i<π.length):π.idxOf π[i]=i:=by
 have h1:π.idxOf π[i]<π.length:=List.idxOf_lt_length_of_mem (List.getElem_mem hi);have h2:π[π.idxOf π[i]]=π[i]:=List.getElem_idxOf _;rcases Nat.lt_trichotomy (π.idxOf π[i]) i with g|g|g
 ·exact absurd h2 (qc h g hi)
 ·exact g
 ·exact absurd h2.symm (qc h g h1)
theorem getD_at{π:List Int}{i:Nat}(hi:i<π.length):π.getD i 0=π[i]:=by rw[List.getD_eq_getElem?_getD,List.getElem?_eq_getElem hi,Option.getD_some]
theorem NA{H:List Txn}{m:List Cho}{o:List Nat}(hr:aA H=true)(hm:Gf (aI H) m)(ht:kD H.length (aX H 0 m) o):yS H (o.map fun(x:Nat)=>(x:Int))=true:=by
 have hp:=ht.perm;have hfull:∀x y,((bG H x y||wwE m x y)||rwE H m x y)=true→aX H 0 m x y=true:=fun x y h=>by
  unfold aX;rw[if_neg (by decide)];exact h
 generalize hπ:(o.map fun(x:Nat)=>(x:Int))=π at hp;have hpos:∀x,x<H.length→π.idxOf (x:Int)=o.idxOf x:=fun x hx=>by
  obtain⟨hi,he⟩:=ht.at_ hx;have hi2:o.idxOf x<π.length:=(by rw[←hπ,List.length_map];exact hi);have:π[o.idxOf x]=(x:Int):=(by subst hπ;rw[List.getElem_map,he]);rw[←this];exact pz hp hi2
 have hup:∀x y,x<H.length→y<H.length→((bG H x y||wwE m x y)||rwE H m x y)=true→π.idxOf (x:Int)<π.idxOf (y:Int):=fun x y hx hy h=>by
  rw[hpos x hx,hpos y hy];exact ht.up hx hy (hfull x y h)
 have hbd:∀i (hi:i<π.length),∃u:Nat,u<H.length∧π[i]=(u:Int)∧π.idxOf (u:Int)=i:=fun i hi=>by
  have h1:=jM hp hi;refine⟨π[i].toNat,by omega,by omega,?_⟩;rw[show((π[i].toNat:Nat):Int)=π[i] by omega];exact pz hp hi
 unfold yS;rw[hp,Bool.true_and,Bool.and_eq_true];constructor
 ·unfold rU;rw[List.all_eq_true];intro t ht2;have ht2:=List.mem_range.1 ht2;refine decide_eq_true ?_;unfold gI;refine List.ext_getElem (by simp) fun i h1 h2=> ?_;rw[List.getElem_map];generalize hrr:(aG H t).reads[i]=r;have hmem:r∈(aG H t).reads:=by rw[←hrr];exact List.getElem_mem h1
  suffices hs:r.b=fQ H π r.a (π.idxOf (t:Int)) by rw[←hs]
  obtain⟨it,et⟩:=tQ hp ht2;have hth:=(((aB H).1 hr).2 t ht2).there r (by rw[←aJ ht2];exact hmem);rcases uU H π r.a (π.idxOf (t:Int))with⟨g1,g2⟩|⟨j,g1,g2,g3,g4⟩
  ·rcases(gT H t r).1 hth with e|⟨k,hk,e1,e2,e3⟩
   ·rw[e,g1]
   ·exfalso;have hlt:=hup k t hk ht2 (by
     have:bG H k t=true:=by
      unfold bG orE wrE;rw[Bool.or_eq_true];right;rw[Bool.and_eq_true,List.any_eq_true];exact⟨decide_eq_true e2,r,hmem,decide_eq_true e1⟩
     rw[this];rfl)
    have:=g2 _ hlt;obtain⟨ik,ek⟩:=tQ hp hk;unfold wrA at this;rw[getD_at ik,ek,Int.toNat_natCast,aJ hk,List.contains_iff_mem.2 e3]at this;cases this
  ·have hjl:j<π.length:=(by omega);obtain⟨u,hu,eu,iu⟩:=hbd j hjl;have hut:u≠t:=fun e=>(by subst e;omega);unfold wrA at g3;rw[getD_at hjl,eu,Int.toNat_natCast,List.contains_iff_mem]at g3;rw[getD_at hjl,eu]at g2;rcases(gT H t r).1 hth with e|⟨k,hk,e1,e2,e3⟩
   ·exfalso;have hlt:=hup t u ht2 hu (by
     have:lZ H t u=true:=by
      unfold lZ;rw[Bool.and_eq_true,List.any_eq_true];exact⟨decide_eq_true hut.symm,r,hmem,by rw[Bool.and_eq_true,List.contains_iff_mem];exact⟨decide_eq_true e,g3⟩⟩
     unfold rwE;rw[this];simp)
    omega
   ·by_cases huk:u=k
    ·subst huk;rw[e1,g2]
    ·exfalso;have hlt:=hup k t hk ht2 (by
      have:bG H k t=true:=by
       unfold bG orE wrE;rw[Bool.or_eq_true];right;rw[Bool.and_eq_true,List.any_eq_true];exact⟨decide_eq_true e2,r,hmem,decide_eq_true e1⟩
      rw[this];rfl)
     obtain⟨ik,ek⟩:=tQ hp hk;have hkw:r.a∈(aG H k).writes:=(by rw[aJ hk];exact e3);have hku:π.idxOf (k:Int)<π.idxOf (u:Int):=by
      have hne:π.idxOf (k:Int)≠π.idxOf (u:Int):=fun e=>huk (Nz hp hk hu e).symm;refine Classical.byContradiction fun hno=> ?_;have:=g4 (π.idxOf (k:Int)) (by omega) hlt;unfold wrA at this;rw[getD_at ik,ek,Int.toNat_natCast,List.contains_iff_mem.2 hkw]at this;cases this
     have hch:(⟨r.a,k,u⟩:Cho)∈m∨(⟨r.a,u,k⟩:Cho)∈m:=by
      rcases Nat.lt_or_ge u k with g|g
      ·have:=tN hm _ (vR g hk g3 hkw);exact this.symm.imp id id
      ·exact tN hm _ (vR (show k<u by omega) hu hkw g3)
     rcases hch with hch|hch
     ·have:=hup t u ht2 hu (by
       have:rwE H m t u=true:=by
        unfold rwE;rw[Bool.or_eq_true];right;rw[List.any_eq_true];refine⟨_,hch,?_⟩;simp only[Bool.and_eq_true,List.any_eq_true];exact⟨⟨by simp,decide_eq_true hut.symm⟩,r,hmem,by simp,decide_eq_true e1⟩
       rw[this];simp)
      omega
     ·have:=hup u k hu hk (by
       have:wwE m u k=true:=by
        unfold wwE;rw[List.any_eq_true];exact⟨_,hch,by simp⟩
       rw[this];simp)
      omega
 ·unfold vQ;rw[List.all_eq_true];intro i hi;have hi:=List.mem_range.1 hi;rw[List.all_eq_true];intro k hk;have hk:=List.mem_range.1 hk;obtain⟨u,hu,eu,iu⟩:=hbd i hi;obtain⟨v,hv,ev,iv⟩:=hbd k (by omega);rw[getD_at hi,getD_at (show k<π.length by omega),eu,ev,Int.toNat_natCast,Int.toNat_natCast,Bool.not_eq_true',Bool.and_eq_false_iff];refine Classical.byContradiction fun hno=> ?_;simp only[decide_eq_false_iff_not,not_or,Classical.not_not]at hno;have:=hup u v hu hv (by
   have:soE H u v=true:=by
    unfold soE;rw[Bool.and_eq_true];exact⟨decide_eq_true (by omega),decide_eq_true hno.2.symm⟩
   unfold bG orE;rw[this];rfl)
  omega
def mkD(s:List Int)(x:Nat):Int:=s.getD x 0
theorem jN{s:List Int}{x:Nat}{v:Int}(hx:x<s.length)(y:Nat):mkD (s.set x v) y=if y=x then v else mkD s y:=by
 unfold mkD;rw[List.getD_eq_getElem?_getD,List.getD_eq_getElem?_getD,List.getElem?_set];by_cases e:x=y
 ·subst e;rw[if_pos rfl,if_pos hx,if_pos rfl];rfl
 ·rw[if_neg e,if_neg (fun h=>e h.symm)]
structure lW(n:Nat)(E:aj)(s:List Int):Prop where
 len:s.length=n
 val:∀x∈s,x=0∨x=1∨x=2
 ord:∃o:List Nat,o.Nodup∧(∀x,x∈o↔x<n∧mkD s x=2)∧∀i (hi:i<o.length) y,y<n→E o[i] y=true→y∈o.take i
theorem lW.start(n:Nat)(E:aj):lW n E (List.replicate n 0):=by
 refine⟨by simp,fun x hx=> .inl (List.eq_of_mem_replicate hx),[],List.nodup_nil,fun x=> ?_,fun i hi=>by cases hi⟩;constructor
 ·intro h;cases h
 ·rintro⟨h,h2⟩;unfold mkD at h2;rw[List.getD_eq_getElem?_getD,List.getElem?_replicate]at h2;split at h2<;>simp at h2
theorem lW.at_{n:Nat}{E:aj}{s:List Int}(h:lW n E s){x:Nat}(hx:x<n):mkD s x=s[x]'(by rw[h.len];exact hx):=by
 unfold mkD;rw[List.getD_eq_getElem?_getD,List.getElem?_eq_getElem (by rw[h.len];exact hx),Option.getD_some]
theorem lW.nU{n:Nat}{E:aj}{s:List Int}(h:lW n E s){x:Nat}(hx:x<n):mkD s x=0∨mkD s x=1∨mkD s x=2:=by
 rw[h.at_ hx];exact h.val _ (List.getElem_mem _)
theorem lW.begin{n:Nat}{E:aj}{s:List Int}(h:lW n E s){x:Nat}(hx:x<n)(h0:mkD s x=0):lW n E (s.set x 1):=by
 have hxs:x<s.length:=(by rw[h.len];exact hx);obtain⟨o,h1,h2,h3⟩:=h.ord;refine⟨by rw[List.length_set];exact h.len,fun y hy=> ?_,o,h1,fun y=> ?_,h3⟩
 ·rcases List.mem_or_eq_of_mem_set hy with e|e
  ·exact h.val y e
  ·exact .inr (.inl e)
 ·rw[h2 y,jN hxs];by_cases e:y=x
  ·subst e;rw[if_pos rfl,h0];simp
  ·rw[if_neg e]
theorem lW.done{n:Nat}{E:aj}{s:List Int}(h:lW n E s){x:Nat}(hx:x<n)(h0:mkD s x=1)(hs:∀y,y<n→E x y=true→mkD s y=2):lW n E (s.set x 2):=by
 have hxs:x<s.length:=(by rw[h.len];exact hx);obtain⟨o,h1,h2,h3⟩:=h.ord;have hxo:x∉o:=fun hm=>(by have:=((h2 x).1 hm).2;rw[h0]at this;cases this);refine⟨by rw[List.length_set];exact h.len,fun y hy=> ?_,o++[x],?_,fun y=> ?_,fun i hi y hy he=> ?_⟩
 ·rcases List.mem_or_eq_of_mem_set hy with e|e
  ·exact h.val y e
  ·exact .inr (.inr e)
 ·rw[List.nodup_append];refine⟨h1,by simp,fun a ha b hb e=> ?_⟩;rw[List.mem_singleton]at hb;subst e;subst hb;exact hxo ha
 ·rw[List.mem_append,List.mem_singleton,h2 y,jN hxs];by_cases e:y=x
  ·subst e;rw[if_pos rfl];simp[hx]
  ·rw[if_neg e];simp[e]
 ·rw[List.length_append,List.length_singleton]at hi;rcases Nat.lt_or_ge i o.length with hio|hio
  ·rw[List.getElem_append_left hio]at he;rw[List.take_append_of_le_length (by omega)];exact h3 i hio y hy he
  ·have hie:i=o.length:=(by omega);subst hie;rw[List.getElem_append_right (Nat.le_refl _)]at he;simp only[Nat.sub_self,List.getElem_cons_zero]at he;rw[List.take_append_of_le_length (Nat.le_refl _),List.take_length];exact(h2 y).2 ⟨hy,hs y hy he⟩
theorem lW.fine{n:Nat}{E:aj}{s:List Int}(h:lW n E s)(ha:∀x,x<n→mkD s x=2):fV n E=false:=by
 obtain⟨o,h1,h2,h3⟩:=h.ord;refine Da (fun x=>o.length-o.idxOf x) fun x y hx hy he=> ?_;have hxo:x∈o:=(h2 x).2 ⟨hx,ha x hx⟩;have hi:=List.idxOf_lt_length_of_mem hxo;have hm:=h3 (o.idxOf x) hi y hy (by rw[List.getElem_idxOf];exact he);obtain⟨j,hj,e⟩:=List.getElem_of_mem hm;rw[List.getElem_take]at e;rw[List.length_take]at hj;have hlt:o.idxOf y<o.idxOf x:=by
  have h4:o.idxOf y=j:=(by rw[←e];exact List.Nodup.idxOf_getElem h1 _ _);rw[h4];omega
 show o.length-o.idxOf x<o.length-o.idxOf y;omega
def pE(s:List Int):Nat:=s.count 0
theorem vS{s:List Int}{x:Nat}(hx:x<s.length)(h0:mkD s x=0):pE (s.set x 1)+1=pE s:=by
 unfold pE;have he:s[x]=0:=(by unfold mkD at h0;rw[List.getD_eq_getElem?_getD,List.getElem?_eq_getElem hx,Option.getD_some]at h0;exact h0);rw[List.count_set hx,he];have hp:0<s.count 0:=List.count_pos_iff.2 (by rw[←he];exact List.getElem_mem hx);simp;omega
structure nW(n:Nat)(E:aj)(s:List Int)(s':List Int):Prop where
 inv:lW n E s'
 grey:∀y,y<n→(mkD s' y=1↔mkD s y=1)
 black:∀y,y<n→mkD s y=2→mkD s' y=2
 zero:pE s'≤pE s
theorem nW.refl{n:Nat}{E:aj}{s:List Int}(h:lW n E s):nW n E s s:=⟨h,fun _ _=>Iff.rfl,fun _ _ h=>h,Nat.le_refl _⟩
theorem nW.trans{n:Nat}{E:aj}{a b c:List Int}(h:nW n E a b)(h':nW n E b c):nW n E a c:=⟨h'.inv,fun y hy=>(h'.grey y hy).trans (h.grey y hy),fun y hy hb=>h'.black y hy (h.black y hy hb),Nat.le_trans h'.zero h.zero⟩
theorem Gw{s:List Int}{x:Nat}(hx:x<s.length)(h0:mkD s x=1):pE (s.set x 2)≤pE s:=by
 unfold pE;have he:s[x]=1:=(by unfold mkD at h0;rw[List.getD_eq_getElem?_getD,List.getElem?_eq_getElem hx,Option.getD_some]at h0;exact h0);rw[List.count_set hx,he];simp
theorem nW.closed{n:Nat}{E:aj}{s t:List Int}{x:Nat}(hs:lW n E s)(hx:x<n)(h0:mkD s x=0)(h:nW n E (s.set x 1) t)(hb:∀y,y<n→E x y=true→mkD t y=2):nW n E s (t.set x 2)∧mkD (t.set x 2) x=2:=by
 have hxs:x<s.length:=(by rw[hs.len];exact hx);have hxt:x<t.length:=(by rw[h.inv.len];exact hx);have h1:mkD t x=1:=(h.grey x hx).2 (by rw[jN hxs,if_pos rfl]);refine⟨⟨h.inv.done hx h1 hb,fun y hy=> ?_,fun y hy h2=> ?_,?_⟩,by rw[jN hxt,if_pos rfl]⟩
 ·rw[jN hxt];by_cases e:y=x
  ·subst e;rw[if_pos rfl,h0];simp
  ·rw[if_neg e,h.grey y hy,jN hxs,if_neg e]
 ·rw[jN hxt];by_cases e:y=x
  ·rw[if_pos e]
  ·rw[if_neg e];exact h.black y hy (by rw[jN hxs,if_neg e];exact h2)
 ·refine Nat.le_trans (Gw hxt h1) (Nat.le_trans h.zero ?_);have:=vS hxs h0;omega
def pF(n:Nat)(E:aj)(s:List Int)(x:Nat):Prop:=∀g,g<n→mkD s g=1→uH n E g x=true
theorem pF.hit{n:Nat}{E:aj}{s:List Int}{x:Nat}(h:pF n E s x)(hx:x<n)(h1:mkD s x=1):fV n E=true:=by
 unfold fV;exact List.any_eq_true.2 ⟨x,List.mem_range.2 hx,h x hx h1⟩
theorem pF.next{n:Nat}{E:aj}{s t:List Int}{x y:Nat}(h:pF n E s x)(hl:s.length=n)(hx:x<n)(h2:nW n E (s.set x 1) t)(he:E x y=true):pF n E t y:=by
 intro g hg h1;have h3:=(h2.grey g hg).1 h1;rw[jN (by rw[hl];exact hx)]at h3;by_cases e:g=x
 ·subst e;exact pX he
 ·rw[if_neg e]at h3;exact yt hx (h g hg h3) (pX he)
theorem Ed{n:Nat}{E:aj}{s:List Int}{x:Nat}(h:∀g,g<n→mkD s g≠1):pF n E s x:=fun g hg h1=>absurd h1 (h g hg)
end Go.Proofs.YtfhnamomiaekdaaGreatDoor
