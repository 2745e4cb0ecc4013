/-
  Walks: layer 31: the laws' example.
-/
import Derived.Test.YtfhnamomiaekdaaGreatDoorProg
import Derived.Test.YtfhnamomiaekdaaGreatDoorRows
import Derived.Test.YtfhnamomiaekdaaGreatDoorCards
import Derived.Test.YtfhnamomiaekdaaGreatDoorTie
import Derived.ProofKit
import Derived.OpenShut
import Derived.LaidMore
import Derived.Lay
import Derived.SevenTiedAt
import Derived.Stop.Joined
import Derived.HandedShaped
import Derived.SliceStrings
import Derived.Deep.Slices
import Derived.Below
import Derived.Carry
import Derived.Lib.LaidU8
import Derived.Deep.Fields
import Derived.ChangeSame
import Derived.Lib.SmallJoins
import Derived.Deep.Strs
import Derived.JoinedOf
import Derived.Test.YtfhnamomiaekdaaGreatDoorV28
import Derived.Test.YtfhnamomiaekdaaGreatDoorV20
import Derived.Test.YtfhnamomiaekdaaGreatDoorV09
import Derived.Test.YtfhnamomiaekdaaGreatDoorV01
import Derived.Test.YtfhnamomiaekdaaGreatDoorV05
import Derived.Test.YtfhnamomiaekdaaGreatDoorV03
import Derived.Test.YtfhnamomiaekdaaGreatDoorV02
import Derived.Test.YtfhnamomiaekdaaGreatDoorV07
set_option linter.unusedVariables false
set_option linter.unusedSimpArgs false
namespace Go.Proofs.YtfhnamomiaekdaaGreatDoor
open Go.RowKit Go.Inq
set_option maxHeartbeats 8000000
attribute [local go_sem↓] Go.wp_at_zero Go.wp_at_succ
def exK:List Txn:=[⟨0,[2],[⟨2,-1⟩]⟩,⟨1,[2],[⟨2,-1⟩]⟩]
theorem vS:bB exK=[⟨2,0,1⟩]:=by
 unfold bB;rw[yC (by decide)]
 kernel_rfl
def A9:List Mk:=[⟨⟨2,0,1⟩,false,[]⟩]
def R6:List Nod:=[⟨⟨0,0,0⟩,[0]⟩]
def uK:List Mk:=[⟨⟨2,0,1⟩,true,R6⟩]
theorem R7:dJ exK 1 [] []=(A9,⟨0,[],[],[]⟩):=by
 unfold dJ j6;rw[vS]
 kernel_rfl
theorem R8:dJ exK 1 [] A9=(uK,⟨0,[],[],[]⟩):=by
 unfold dJ j6;rw[vS]
 kernel_rfl
theorem R9:dJ exK 1 [] uK=([],⟨2,[],[⟨⟨2,0,1⟩,[]⟩,⟨⟨0,0,0⟩,[0]⟩,⟨⟨0,0,0⟩,[1]⟩],[]⟩):=by
 unfold dJ j6;rw[vS]
 kernel_rfl
theorem Sb:eO exK 1 [] uK=true:=by kernel_rfl
theorem Sc:eO exK 2 [] uK=false:=by kernel_rfl
theorem Iy{W:World}{K:Nat→Prop}{g:Nat}{t0 t1:Txn}{vw0 vr0 vw1 vr1:Value}(h:Blk W g 109 #[.int .i64 t0.dM,vw0,vr0,.int .i64 t1.dM,vw1,vr1])(h0:aP W K vw0 t0.writes)(h1:ItS W K vr0 t0.reads)(h2:aP W K vw1 t1.writes)(h3:ItS W K vr1 t1.reads)(hK:K g):
 aD W K (.slice (some ⟨g,0,none⟩) 2 2) [t0,t1]:=
 Jz (l:=[t0,t1]) [[.int .i64 t0.dM,vw0,vr0],[.int .i64 t1.dM,vw1,vr1]] h rfl (fun i cs x q1 q2=>by
  match i with
  |0=>simp at q1 q2;subst q1 q2;exact⟨rfl,_,_,rfl,h0,h1⟩
  |1=>simp at q1 q2;subst q1 q2;exact⟨rfl,_,_,rfl,h2,h3⟩
  |i+2=>simp at q1) hK (by simp)
theorem Sd:pG A9:=⟨by decide,fun m hm=>by simp[A9]at hm;subst hm;intro n hn;simp at hn⟩
theorem Iz:pG uK:=⟨by decide,fun m hm=>by simp[uK]at hm;subst hm;intro n hn;simp[R6]at hn;subst hn;simp⟩
theorem OT:pG []:=⟨by decide,fun m hm=>by simp at hm⟩
theorem pY:Gm []:=⟨by simp,fun m hm=>by simp at hm⟩
theorem aY.TT{w:World}{base:Nat}{v:Value}{l:List Int}(h:aY w base v l):∃A n c,v= .slice A n c:=by
 obtain⟨A,c,e⟩:=aY.form h;exact⟨A,_,c,e⟩
theorem Dv.v{w w':World}{r:List Mk×Say}{e:Ending}(h:Dv w r e w'):∃Ap cp Ao no co At ct Af nf cf,e= .returned (.tuple #[.slice Ap r.1.length cp,.agg #[.int .i64 r.2.said,.slice Ao no co,.slice At r.2.tree.length ct,.slice Af nf cf]])∧MkO w' 0 (.slice Ap r.1.length cp) r.1∧Below w.heap.size w w':=by
 obtain⟨vp,vo,rfl,oM,⟨so,st,sf,rfl,s1,s2,s3⟩,hb⟩:=h;obtain⟨Ao,no,co,rfl⟩:=aY.TT s1;obtain⟨At,ct,rfl⟩:=aG.form s2;obtain⟨Af,cf,rfl⟩:=aG.form s3;obtain⟨Ap,cp,rfl⟩:=aG.form oM;exact⟨Ap,cp,Ao,no,co,At,ct,Af,_,cf,rfl,MkO.base oM (Nat.zero_le _),hb⟩
def vT(W:World)(g:Nat)(sd:Int)(nt:Nat):Prop:=∃v1 v2 v3 v4,Blk W g 36 #[.int .i64 sd,v1,.slice v2 nt v3,v4]
theorem vT.below{W W':World}{g:Nat}{sd:Int}{nt:Nat}(h:vT W g sd nt)(hb:Below W.heap.size W W'):vT W' g sd nt:=by
 obtain⟨v1,v2,v3,v4,h⟩:=h;exact⟨v1,v2,v3,v4,h.below hb h.lt⟩
set_option maxRecDepth 100000 in
theorem FB(w:World)(hTB:iV w):Calls Tryz.prog 19 #[] w fun e w'=>e= .returned (.bool true)∧Below w.heap.size w w':=by
 have hE1:=hide R7;have hE2:=hide R8;have hE3:=hide R9;have hE4:=hide Sb;have hE5:=hide Sc;obtain⟨W1,hW1⟩:∃W1,w.alloc (.cells #[.int .i64 2,.int .i64 (-1)] 106)=W1:=⟨_,rfl⟩;obtain⟨W2,hW2⟩:∃W2,W1.alloc (.cells #[.int .i64 2] 3)=W2:=⟨_,rfl⟩;obtain⟨W3,hW3⟩:∃W3,W2.alloc (.cells #[.int .i64 2] 3)=W3:=⟨_,rfl⟩;obtain⟨W4,hW4⟩:∃W4,W3.alloc (.cells #[.int .i64 0,.slice (some ⟨W1.heap.size,0,none⟩) 1 1,.slice (some ⟨w.heap.size,0,none⟩) 1 1,.int .i64 1,.slice (some ⟨W2.heap.size,0,none⟩) 1 1,.slice (some ⟨w.heap.size,0,none⟩) 1 1] 109)=W4:=⟨_,rfl⟩;obtain⟨W5,hW5⟩:∃W5,W4.alloc (.cells #[.slice (some ⟨W3.heap.size,0,none⟩) 2 2] 24)=W5:=⟨_,rfl⟩;have s1:=aA hW1;have s2:=aA hW2;have s3:=aA hW3;have s4:=aA hW4;have k1:=((((Blk.newEq hW1).au hW2).au hW3).au hW4).au hW5;have k2:=(((Blk.newEq hW2).au hW3).au hW4).au hW5;have k3:=((Blk.newEq hW3).au hW4).au hW5;have k4:=(Blk.newEq hW4).au hW5;have k6:=Blk.newEq hW5;have b6:=ah (ah (ah (ah (ah (Below.refl w.heap.size w) hW1 (Nat.le_refl _)) hW2 (by omega)) hW3 (by omega)) hW4 (by omega)) hW5 (by omega);have hT:aD W5 (Old W5) (.slice (some ⟨W3.heap.size,0,none⟩) 2 2) exK:=
  Iy (t0:=⟨0,[2],[⟨2,-1⟩]⟩) (t1:=⟨1,[2],[⟨2,-1⟩]⟩) k4 (aP.bZ (l:=[2]) k2 k2.lt) (SlR.one k1 rfl rfl k1.lt) (aP.bZ (l:=[2]) k3 k3.lt) (SlR.one k1 rfl rfl k1.lt) k4.lt
 replace hT:=hide hT;clear k1 k2 k3 k4 s1 s2 s3 s4;go_enter Tryz.func19,Tryz.ntmps19;go_upto_region 3 with fail;clear hW1 hW2 hW3 hW4 hW5;have hc:=nR (some ⟨W3.heap.size,0,none⟩) 2 exK 1 none 0 [] none 0 [] W5 hT.out ⟨by decide,by decide⟩ (eY.nil _ _ _ _) pY (MkS.nil _ _ _ _) OT (hTB.below b6);rw[hE1.out]at hc;replace hc:=hide hc;have c0:=Blk.n0 k6;clear hE1;go_wp2_with fail;refine Calls.mono (by exact hc.out) ?_;clear hc c0;rintro e Z ho;obtain⟨Apa,cpa,Ao,no,co,At,ct,Af,nf,cf,rfl,oMa,b4⟩:=ho.v;clear ho;dsimp only[A9,uK,List.length_cons,List.length_nil,Nat.zero_add,Nat.reduceAdd]at oMa⊢;replace oMa:=hide oMa;go_upto_region 4 with fail;obtain⟨X,hX⟩:∃X,Z.alloc (.cells #[.int .i64 0,.slice Ao no co,.slice At 0 ct,.slice Af nf cf] 36)=X:=⟨_,rfl⟩;rw[hX];have hbX:=hide (b4.trans ((ah (Below.refl Z.heap.size Z) hX (Nat.le_refl _)).mono b4.size));replace oMa:=hide (MkO.below oMa.out (ah (Below.refl Z.heap.size Z) hX (Nat.le_refl _)));have kOa:vT X Z.heap.size 0 0:=⟨_,_,_,_,Blk.newEq hX⟩;replace kOa:=hide kOa;clear hX b4;generalize Z.heap.size=z1 at*;clear Z;replace k6:=k6.below hbX.out k6.lt;replace hT:=hide (hT.out.below hbX.out);replace b6:=b6.trans (hbX.out.mono b6.size);clear hbX;generalize W4.heap.size=gh at*;generalize W3.heap.size=gt at*;have hc:=nR (some ⟨gt,0,none⟩) 2 exK 1 none 0 [] Apa cpa A9 X hT.out ⟨by decide,by decide⟩ (eY.nil _ _ _ _) pY (MkO.s oMa.out) Sd (hTB.below b6);rw[hE2.out]at hc;replace hc:=hide hc;have c0:=Blk.n0 k6;clear hE2;go_wp2_with fail;refine Calls.mono (by exact hc.out) ?_;clear hc c0;rintro e Z ho;obtain⟨Apb,cpb,Ao,no,co,At,ct,Af,nf,cf,rfl,oMb,b4⟩:=ho.v;clear ho;dsimp only[A9,uK,List.length_cons,List.length_nil,Nat.zero_add,Nat.reduceAdd]at oMb⊢;replace oMb:=hide oMb;go_upto_region 5 with fail;obtain⟨Y,hX⟩:∃Y,Z.alloc (.cells #[.int .i64 0,.slice Ao no co,.slice At 0 ct,.slice Af nf cf] 36)=Y:=⟨_,rfl⟩;rw[hX];have hbX:=hide (b4.trans ((ah (Below.refl Z.heap.size Z) hX (Nat.le_refl _)).mono b4.size));replace oMb:=hide (MkO.below oMb.out (ah (Below.refl Z.heap.size Z) hX (Nat.le_refl _)));have kOb:vT Y Z.heap.size 0 0:=⟨_,_,_,_,Blk.newEq hX⟩;replace kOb:=hide kOb;clear hX b4;generalize Z.heap.size=z2 at*;clear Z;replace k6:=k6.below hbX.out k6.lt;replace hT:=hide (hT.out.below hbX.out);replace oMa:=hide (oMa.out.below hbX.out);replace kOa:=hide (kOa.out.below hbX.out);replace b6:=b6.trans (hbX.out.mono b6.size);clear hbX;have hc:=nR (some ⟨gt,0,none⟩) 2 exK 1 none 0 [] Apb cpb uK Y hT.out ⟨by decide,by decide⟩ (eY.nil _ _ _ _) pY (MkO.s oMb.out) Iz (hTB.below b6);rw[hE3.out]at hc;replace hc:=hide hc;have c0:=Blk.n0 k6;clear hE3;go_wp2_with fail;refine Calls.mono (by exact hc.out) ?_;clear hc c0;rintro e Z ho;obtain⟨Apc,cpc,Ao,no,co,At,ct,Af,nf,cf,rfl,oMc,b4⟩:=ho.v;clear ho;dsimp only[A9,uK,List.length_cons,List.length_nil,Nat.zero_add,Nat.reduceAdd]at oMc⊢;replace oMc:=hide oMc;go_upto_region 6 with fail;obtain⟨V,hX⟩:∃V,Z.alloc (.cells #[.int .i64 2,.slice Ao no co,.slice At 3 ct,.slice Af nf cf] 36)=V:=⟨_,rfl⟩;rw[hX];have hbX:=hide (b4.trans ((ah (Below.refl Z.heap.size Z) hX (Nat.le_refl _)).mono b4.size));replace oMc:=hide (MkO.below oMc.out (ah (Below.refl Z.heap.size Z) hX (Nat.le_refl _)));have kOc:vT V Z.heap.size 2 3:=⟨_,_,_,_,Blk.newEq hX⟩;replace kOc:=hide kOc;clear hX b4;generalize Z.heap.size=z3 at*;clear Z;replace k6:=k6.below hbX.out k6.lt;replace hT:=hide (hT.out.below hbX.out);replace oMa:=oMa.out.below hbX.out;replace oMb:=oMb.out.below hbX.out;replace kOa:=kOa.out.below hbX.out;replace kOb:=kOb.out.below hbX.out;replace kOc:=kOc.out;replace b6:=b6.trans (hbX.out.mono b6.size);have hr1:=jB (some ⟨gt,0,none⟩) 2 exK 1 none 0 [] Apb cpb uK V hT.out ⟨by decide,by decide⟩ (eY.nil _ _ _ _) pY oMb.s Iz;have hr2:=hide (fun W (hb:Below V.heap.size V W)=>jB (some ⟨gt,0,none⟩) 2 exK 2 none 0 [] Apb cpb uK W (hT.out.below hb) ⟨by decide,by decide⟩ (eY.nil _ _ _ _) pY (oMb.s.below hb) Iz);rw[hE4.out]at hr1;rw[hE5.out]at hr2;replace hr1:=hide hr1;obtain⟨a1,a2,a3,a4,ka⟩:=kOa;obtain⟨b1,b2,b3,b4,kb⟩:=kOb;obtain⟨c1,c2,c3,c4,kc⟩:=kOc;obtain⟨bb,off,Ad,cd,e,-,d⟩:=MkS.at_ (l:=A9) oMa.s (i:=0) (by decide);cases e;obtain⟨bb2,off2,Ad2,cd2,e,-,d2⟩:=MkS.at_ (l:=uK) oMb.s (i:=0) (by decide);cases e;have x3:=d.d3;have y3:=d2.d3;have y4:=d2.d4;have u0:=ka.cell 0;have u1:=kb.cell 0;have u2:=kc.cell 0;have u3:=kc.cell 2;have c0:=k6.cell 0;simp only[A9,uK,R6,gA,gZ,gS,List.getElem_cons_zero,Nat.zero_mul,Nat.add_zero,Nat.zero_add,List.length_cons,List.length_nil]at x3 y3 y4 u0 u1 u2 u3 c0;clear hbX hTB hT oMa oMb oMc ka kb kc d d2 hE4 hE5;go_wp2_with fail;refine Calls.mono (by exact hr1.out) ?_;rintro e V1 ⟨rfl,hb1⟩;replace k6:=k6.below hb1 k6.lt;have hr3:=hide (hr2.out V1 hb1);replace b6:=b6.trans (hb1.mono b6.size);clear hr2 hr1 hb1 c0 x3 y3 y4 u0 u1 u2 u3;have c0:=Blk.n0 k6;go_wp2_with fail;refine Calls.mono (by exact hr3.out) ?_;rintro e V2 ⟨rfl,hb2⟩;go_wp2;go_ret;exact⟨rfl,b6.trans (hb2.mono b6.size)⟩
set_option maxHeartbeats 2000000
def xZ(N:Nat)(l:List Txn):Bool:=decide (l.length≤N)&&l.all fun t=>decide (t.writes.length≤20)&&decide (t.reads.length≤20)
theorem IB{N:Nat}(hN:N≤40){l:List Txn}(h:xZ N l=true):aH l:=by
 unfold xZ at h;rw[Bool.and_eq_true,List.all_eq_true]at h;have h1:l.length≤N:=(by simpa using h.1);refine⟨by omega,fun t ht=> ?_⟩;have:=h.2 t ht;simp at this;omega
theorem OU{N:Nat}{l:List Txn}{i:Nat}(hi:i<l.length)(h:20<l[i].writes.length∨20<l[i].reads.length):xZ N l=false:=by
 rw[←Bool.not_eq_true];intro g;unfold xZ at g;rw[Bool.and_eq_true,List.all_eq_true]at g;have:=g.2 _ (List.getElem_mem hi);simp at this;omega
theorem LG{N:Nat}{l:List Txn}(h:N<l.length):xZ N l=false:=by
 unfold xZ;rw[show decide (l.length≤N)=false by simpa using h];rfl
theorem LH{N:Nat}{l:List Txn}(h:l.length≤N)(hall:∀i (hi:i<l.length),l[i].writes.length≤20∧l[i].reads.length≤20):xZ N l=true:=by
 unfold xZ;rw[Bool.and_eq_true,List.all_eq_true];refine⟨by simpa using h,fun t ht=> ?_⟩;obtain⟨i,hi,rfl⟩:=List.getElem_of_mem ht;have:=hall i hi;simp;omega
set_option maxRecDepth 100000 in
theorem LJ(N:Nat)(A:Option Addr)(c:Nat)(H:List Txn)(w:World)(h:aD w (Old w) (.slice A H.length c) H)(hn:H.length≤maxLen)(hns:∀t∈H,t.writes.length≤maxLen∧t.reads.length≤maxLen):
 Calls Tryz.prog 33 #[.agg #[.slice A H.length c],.int .i64 (N:Int)] w fun e w'=>e= .returned (.bool (xZ N H))∧Below w.heap.size w w':=by
 unfold maxLen at hn hns;have hA:Below w.heap.size w (w.alloc (.cells #[.slice A H.length c] 24)):=(Below.refl _ _).alloc (Nat.le_refl _) _;have kh:Blk (w.alloc (.cells #[.slice A H.length c] 24)) w.heap.size 24 #[.slice A H.length c]:=Blk.new _ _ _;have h1:=aD.below h hA;have y0:=Blk.n0 kh;have hl1:(0:Int)≤(H.length:Int):=Int.natCast_nonneg _;replace hns:=hide hns;by_cases hm:N<H.length
 ·have hr:=hide (LG hm);have hmb:decide ((H.length:Int)>(N:Int))=true:=(by simp;omega);have Vk:decide (N<H.length)=true:=(by simp;omega);clear hm;go_enter Tryz.func33,Tryz.ntmps33;go_wp2;go_ret;exact⟨by rw[hr.out];rfl,hA⟩
 ·have hmb:decide ((H.length:Int)>(N:Int))=false:=(by simp;omega);have Vk:decide (N<H.length)=false:=(by simp;omega);have hbad:=hide (fun i=>OU (N:=N) (l:=H) (i:=i));have hgood:=hide (LH (N:=N) (l:=H) (by omega));go_enter Tryz.func33,Tryz.ntmps33;go_wp2_with fail;generalize w.alloc (.cells #[.slice A H.length c] 24)=W at*
  go_loop [5] (fun s5=>∃i:Nat,i≤H.length∧s5= .int .i64 i∧Hid (∀j (hj:j<H.length),j<i→H[j].writes.length≤20∧H[j].reads.length≤20)) (fun s5=>H.length-(intOf s5).toNat)
  case atStart=>exact⟨0,Nat.zero_le _,by go_num,fun j hj h=>absurd h (by omega)⟩
  case round=>
   obtain⟨i,hi,rfl,hall⟩:=hrel;have hi1:(0:Int)≤(i:Int):=Int.natCast_nonneg _;by_cases hlt:i<H.length
   ·have hi2:(i:Int)<(H.length:Int):=(by omega);obtain⟨b,off,Aw,cw,Ar,cr,rfl,hbK,d0,d1,d2,hws,hrs⟩:=aD.at_ h1 hlt;have hb:=hide (hbad.out i hlt);have hsm:=hns.out _ (List.getElem_mem hlt);have hst:Hid (H[i].writes.length≤20∧H[i].reads.length≤20→∀j (hj:j<H.length),j<i+1→H[j].writes.length≤20∧H[j].reads.length≤20):=fun g j hj hji=>by
     by_cases e:j=i
     ·subst e;exact g
     ·exact hall.out j hj (by omega)
    clear hall hws hrs;generalize H[i]=t at*;obtain⟨ts,ws,rs⟩:=t;dsimp only at*;by_cases g1:20<ws.length
    ·have g1b:decide ((ws.length:Int)>20)=true:=(by simp;omega);have hr:=hide (hb.out (.inl g1));clear g1 hb hst;go_wp2;go_ret;exact⟨by rw[hr.out];rfl,hA⟩
    ·have g1b:decide ((ws.length:Int)>20)=false:=(by simp;omega);by_cases g2:20<rs.length
     ·have g2b:decide ((rs.length:Int)>20)=true:=(by simp;omega);have hr:=hide (hb.out (.inr g2));clear g2 hb hst;go_wp2;go_ret;exact⟨by rw[hr.out];rfl,hA⟩
     ·have g2b:decide ((rs.length:Int)>20)=false:=(by simp;omega);have hr:=hide (hst.out ⟨by omega,by omega⟩);clear hb hst;go_wp2
      go_round
      case rel=>exact⟨i+1,by omega,by go_num,hr⟩
      case measure=>simp[intOf];omega
   ·have hr:=hide (hgood.out fun j hj=>hall.out j hj (by omega));go_wp2;go_ret;exact⟨by rw[hr.out];rfl,hA⟩
set_option maxHeartbeats 1000000
def vV(H:List Txn)(L:List Fct)(path:List Mk)(n:Nat):Bool:=xZ n H&&decide (L.length≤20)&&decide (path.length≤20)&&(L.all fun f=>decide (f.cyc.length≤40))&&path.all fun m=>decide (m.done.length≤80)&&m.done.all fun x=>decide (x.cyc.length≤40)
structure Ci(H:List Txn)(L:List Fct)(path:List Mk)(n:Nat):Prop where
 hist:xZ n H=true
 facts:L.length≤20
 len:path.length≤20
 Sg:∀f∈L,f.cyc.length≤40
 done:∀m∈path,m.done.length≤80
 Si:∀m∈path,∀x∈m.done,x.cyc.length≤40
theorem vW{H:List Txn}{L:List Fct}{path:List Mk}{n:Nat}:vV H L path n=true↔Ci H L path n:=by
 unfold vV;simp only[Bool.and_eq_true,List.all_eq_true,decide_eq_true_eq];exact⟨fun h=>⟨h.1.1.1.1,h.1.1.1.2,h.1.1.2,h.1.2,fun m hm=>(h.2 m hm).1,fun m hm=>(h.2 m hm).2⟩,fun h=>⟨⟨⟨⟨h.hist,h.facts⟩,h.len⟩,h.Sg⟩,fun m hm=>⟨h.done m hm,h.Si m hm⟩⟩⟩
theorem OV{H:List Txn}{L:List Fct}{path:List Mk}{n:Nat}(h:¬Ci H L path n):vV H L path n=false:=by
 rw[←Bool.not_eq_true,vW];exact h
set_option maxRecDepth 100000 in
theorem LK (A:Option Addr) (c:Nat) (H:List Txn) (level:Int) (Al:Option Addr) (cl:Nat) (L:List Fct) (Ap:Option Addr) (cp:Nat) (path:List Mk) (n:Nat) (w:World) (h:aD w (Old w) (.slice A H.length c) H) (hn:H.length≤maxLen) (hns:∀t∈H,t.writes.length≤maxLen∧t.reads.length≤maxLen) (hL:eY w (Old w) (.slice Al L.length cl) L) (hL1:L.length≤maxLen)
 (hP:MkS w (Old w) (.slice Ap path.length cp) path) (hP1:path.length≤maxLen):
 Calls Tryz.prog 20 #[.agg #[.slice A H.length c,.int .i64 level,.slice Al L.length cl,.slice Ap path.length cp],.int .i64 (n:Int)] w fun e w'=>e= .returned (.bool (vV H L path n))∧Below w.heap.size w w':=by
 obtain⟨W0,hW0⟩:∃W0,w.alloc (.cells #[.slice A H.length c,.int .i64 level,.slice Al L.length cl,.slice Ap path.length cp] 53)=W0:=⟨_,rfl⟩;have hB:=ah (Below.refl w.heap.size w) hW0 (Nat.le_refl _);have k0:=Blk.newEq hW0;have hfe:=hide (LJ n A c H W0 (h.below hB) hn hns);have hLs:=hide (fun W (hb:Below w.heap.size w W)=>hL.below hb);have hPs:=hide (fun W (hb:Below w.heap.size w W)=>hP.below hb);unfold maxLen at hL1 hP1;have hno:=hide (OV (H:=H) (L:=L) (path:=path) (n:=n));have hyes:=hide (vW (H:=H) (L:=L) (path:=path) (n:=n)).2;obtain⟨r,hr⟩:∃r,vV H L path n=r:=⟨_,rfl⟩;rw[hr]at hno hyes;rw[hr];obtain⟨q,hq⟩:∃q,xZ n H=q:=⟨_,rfl⟩;rw[hq]at hfe;replace hq:=hide hq;have c0:=Blk.n0 k0;clear h hr hL hP hns hn;go_enter Tryz.func20,Tryz.ntmps20;go_wp2_with fail;clear hW0;refine hfe.out.mono ?_;rintro e w1 ⟨rfl,hb1⟩;have hB1:=hB.trans (hb1.mono hB.size);replace k0:=k0.below hb1 k0.lt;clear hfe hb1 hB c0;have c2:=Blk.n2 k0;have c3:=Blk.n3 k0;have hL2:=hLs.out w1 hB1;have hP2:=hPs.out w1 hB1;clear hLs hPs k0;cases q with
 |false=>
  obtain rfl:=hno.out fun g=>(by have:=g.hist;rw[hq.out]at this;cases this);clear hno hyes hq hL2 hP2;go_wp2;go_ret;exact⟨rfl,hB1⟩
 |true=>
  by_cases hl:L.length≤20
  ·have g1:decide ((L.length:Int)>20)=false:=decide_eq_false (by omega);have g2:decide (20<L.length)=false:=decide_eq_false (by omega);have g3:decide (20<(L.length:Int))=false:=decide_eq_false (by omega);by_cases hp:path.length≤20
   ·have g4:decide ((path.length:Int)>20)=false:=decide_eq_false (by omega);have g5:decide (20<path.length)=false:=decide_eq_false (by omega);have g6:decide (20<(path.length:Int))=false:=decide_eq_false (by omega);go_wp2_with fail;go_loopw [6] (fun s6 wr=>wr=w1∧∃k:Nat,k≤L.length∧s6= .int .i64 (k:Int)∧Hid (∀j (hj:j<L.length),j<k→L[j].cyc.length≤40)) (fun s6 _=>L.length-(intOf s6).toNat);case atStart=>exact⟨rfl,0,Nat.zero_le _,by go_num,hide (fun j hj h=>absurd h (Nat.not_lt_zero _))⟩
    case round=>
     obtain⟨hw,k,hk,rfl,hall⟩:=hrel;obtain rfl:w1=wr:=hw.symm;have hk1:(0:Int)≤(k:Int):=Int.natCast_nonneg _;by_cases hlt:k<L.length
     ·have hk2:(k:Int)<(L.length:Int):=(by omega);obtain⟨b,off,Ay,cy,rfl,-,d⟩:=hL2.at_ hlt;have d6:=d.d6;obtain⟨X,hX⟩:∃X,L[k].cyc.length=X:=⟨_,rfl⟩;rw[hX]at d6;replace hX:=hide hX;clear d hP2 hL2;by_cases hx:X≤40
      ·have g7:decide ((X:Int)>40)=false:=decide_eq_false (by omega);have g8:decide (40<X)=false:=decide_eq_false (by omega);have iC:Hid (∀j (hj:j<L.length),j<k+1→L[j].cyc.length≤40):=hide fun j hj hjk=>by
        by_cases e:j=k
        ·subst e;rw[hX.out];exact hx
        ·exact hall.out j hj (by omega)
       clear hall hno hyes;go_wp2;go_roundw;case rel=>exact⟨by trivial,k+1,by omega,by go_num,iC⟩
       case measure=>simp[intOf];omega
      ·have g7:decide ((X:Int)>40)=true:=decide_eq_true (by omega);have g8:decide (40<X)=true:=decide_eq_true (by omega);obtain rfl:=hno.out fun g=>(by have:=g.Sg L[k] (List.getElem_mem hlt);rw[hX.out]at this;omega);clear hall hno hyes hx;go_wp2;go_ret;exact⟨rfl,hB1⟩
     ·obtain rfl:k=L.length:=(by omega);go_wp2_with fail;go_loopw [7,8] (fun s7 _ wr=>wr=w1∧∃k:Nat,k≤path.length∧s7= .int .i64 (k:Int)∧Hid (∀j (hj:j<path.length),j<k→path[j].done.length≤80∧∀x∈path[j].done,x.cyc.length≤40)) (fun s7 _ _=>path.length-(intOf s7).toNat);case atStart=>exact⟨rfl,0,Nat.zero_le _,by go_num,hide (fun j hj h=>absurd h (Nat.not_lt_zero _))⟩
      case round=>
       obtain⟨hw,k,hk2,rfl,hpa⟩:=hrel;obtain rfl:w1=wr:=hw.symm;have hk1:(0:Int)≤(k:Int):=Int.natCast_nonneg _;by_cases hlt:k<path.length
       ·have hk3:(k:Int)<(path.length:Int):=(by omega);obtain⟨b,off,Ad,cd,rfl,-,d⟩:=hP2.at_ hlt;have d4:=d.d4;have hD:=d.done;obtain⟨X,hX⟩:∃X,path[k]=X:=⟨_,rfl⟩;rw[hX]at d4 hD;replace hX:=hide hX;have hin:Hid (X∈path):=hide (by rw[←hX.out];exact List.getElem_mem hlt);obtain⟨Xc,Xr,Xd⟩:=X;dsimp only at d4 hD;clear d hP2 hL2;by_cases hx:Xd.length≤80
        ·have g7:decide ((Xd.length:Int)>80)=false:=decide_eq_false (by omega);have g8:decide (80<Xd.length)=false:=decide_eq_false (by omega);replace hD:=hide hD;go_wp2_with fail;go_loopw [8] (fun s8 wr=>wr=w1∧∃j:Nat,j≤Xd.length∧s8= .int .i64 (j:Int)∧Hid (∀i (hi:i<Xd.length),i<j→Xd[i].cyc.length≤40)) (fun s8 _=>Xd.length-(intOf s8).toNat);case atStart=>exact⟨rfl,0,Nat.zero_le _,by go_num,hide (fun j hj h=>absurd h (Nat.not_lt_zero _))⟩
         case round=>
          obtain⟨hw,j,hj,rfl,OW⟩:=hrel;obtain rfl:w1=wr:=hw.symm;have hj1:(0:Int)≤(j:Int):=Int.natCast_nonneg _;by_cases hjl:j<Xd.length
          ·have hj3:(j:Int)<(Xd.length:Int):=(by omega);obtain⟨b2,off2,Ay,cy,rfl,-,dd⟩:=bJ.at_ hD.out hjl;have e3:=dd.d3;obtain⟨Y,hY⟩:∃Y,Xd[j].cyc.length=Y:=⟨_,rfl⟩;rw[hY]at e3;replace hY:=hide hY;clear dd hD;by_cases hy:Y≤40
           ·have g9:decide ((Y:Int)>40)=false:=decide_eq_false (by omega);have g10:decide (40<Y)=false:=decide_eq_false (by omega);have iC:Hid (∀i (hi:i<Xd.length),i<j+1→Xd[i].cyc.length≤40):=hide fun i hi hij=>by
             by_cases e:i=j
             ·subst e;rw[hY.out];exact hy
             ·exact OW.out i hi (by omega)
            clear OW hno hyes hall hpa;go_wp2;go_roundw;case rel=>exact⟨by trivial,j+1,by omega,by go_num,iC⟩
            case measure=>simp[intOf];omega
           ·have g9:decide ((Y:Int)>40)=true:=decide_eq_true (by omega);have g10:decide (40<Y)=true:=decide_eq_true (by omega);obtain rfl:=hno.out fun g=>(by have:=g.Si _ hin.out Xd[j] (List.getElem_mem hjl);rw[hY.out]at this;omega);clear OW hno hyes hall hpa hy;go_wp2;go_ret;exact⟨rfl,hB1⟩
          ·obtain rfl:j=Xd.length:=(by omega);have iC:Hid (∀j (hj:j<path.length),j<k+1→path[j].done.length≤80∧∀x∈path[j].done,x.cyc.length≤40):=hide fun i hi hik=>by
            by_cases e:i=k
            ·subst e;rw[hX.out];refine⟨hx,fun x hx2=> ?_⟩;obtain⟨i2,hi2,rfl⟩:=List.getElem_of_mem hx2;exact OW.out i2 hi2 hi2
            ·exact hpa.out i hi (by omega)
           clear hno hyes hall hpa OW hD;go_wp2;go_roundw;case rel=>exact⟨by trivial,k+1,by omega,by go_num,iC⟩
           case measure=>simp[intOf];omega
        ·have g7:decide ((Xd.length:Int)>80)=true:=decide_eq_true (by omega);have g8:decide (80<Xd.length)=true:=decide_eq_true (by omega);obtain rfl:=hno.out fun g=>hx (g.done _ hin.out);clear hno hyes hall hpa hx hD;go_wp2;go_ret;exact⟨rfl,hB1⟩
       ·obtain rfl:k=path.length:=(by omega);obtain rfl:=hyes.out ⟨hq.out,hl,hp,fun f hf=>by
         obtain⟨i,hi,rfl⟩:=List.getElem_of_mem hf;exact hall.out i hi hi,fun m hm=>by
         obtain⟨i,hi,rfl⟩:=List.getElem_of_mem hm;exact(hpa.out i hi hi).1,fun m hm=>by
         obtain⟨i,hi,rfl⟩:=List.getElem_of_mem hm;exact(hpa.out i hi hi).2⟩
        clear hno hyes hall hpa hL2 hP2;go_wp2;go_ret;exact⟨rfl,hB1⟩
   ·have g4:decide ((path.length:Int)>20)=true:=decide_eq_true (by omega);have g5:decide (20<path.length)=true:=decide_eq_true (by omega);obtain rfl:=hno.out fun g=>hp g.len;clear hno hyes hq hL2 hP2 hp;go_wp2;go_ret;exact⟨rfl,hB1⟩
  ·have g1:decide ((L.length:Int)>20)=true:=decide_eq_true (by omega);have g2:decide (20<L.length)=true:=decide_eq_true (by omega);obtain rfl:=hno.out fun g=>hl g.facts;clear hno hyes hq hL2 hP2 hl;go_wp2;go_ret;exact⟨rfl,hB1⟩
theorem Cj{p:List Mk}(h:∀m∈p,m.done.length≤80):bY p≤81*p.length:=by
 unfold bY
 induction p with
 |nil=>simp
 |cons m p ih=>
  have h1:=h m (by simp);have h2:=ih fun x hx=>h x (by simp[hx]);simp only[List.map_cons,List.sum_cons,List.length_cons];omega
theorem Ci.Vl{H:List Txn}{L:List Fct}{path:List Mk}{n:Nat}(h:Ci H L path n):pG path:=
 ⟨by have:=Cj h.done;have:=h.len;omega,fun m hm x hx=>by have:=h.Si m hm x hx;omega⟩
theorem Ci.Vm{H:List Txn}{L:List Fct}{path:List Mk}{n:Nat}(h:Ci H L path n):Gm L:=
 ⟨by have:=h.facts;omega,fun f hf=>by have:=h.Sg f hf;omega⟩
end Go.Proofs.YtfhnamomiaekdaaGreatDoor
namespace Go.Proofs.YtfhnamomiaekdaaGreatDoor
open Go.ChangeShapes Go.WideShapes Go.ChangeAt Go.RowKit Go.Inq
theorem own:ownKnob Tryz.prog.godebug=none:=by kernel_rfl
theorem laidOut:laidOutB Tryz.prog=true:=by kernel_rfl
theorem kQ {H:Type} {enc:TypeId×Value→H} {a:Assume} {C:Checked} {os:Os} {f:FuncId} {fn:Func} {s:ChangeSpec} {conds:List PathCond} {apart fresh handsOn again:Bool} {X:World→Array Value→Prop}
 (hX:∀(w w':World) (args:Array Value),w.heap=w'.heap→X w args→X w' args)
 (own:ownKnob C.prog.godebug=none) (started:os.Started) (noInit:C.prog.inits.idxOf? f=none) (hfn:C.prog.funcs[f]?=some fn)
 (witness:∃(w:World) (tape:Tape) (i:Input),w.os=os∧(w.forCall tape i).Shaped C.prog∧i.vars=[]∧Input.okWide C.prog (w.forCall tape i) .any w.heap.size f i∧
  ((s.pre enc C.prog fn conds apart (w.forCall tape i).memory i.args∧X (w.forCall tape i).memory i.args)∧sizedMet enc C.prog fn (OpenSpec.ofChange s) apart (w.forCall tape i).memory i.args)∧a.holds C.prog (lone (Frame.enter C.prog f i.args .normal) [] (w.forCall tape i)))
 (contract:∀(W:World) (base:Nat) (args:Array Value) (ds gs:List (DataW H)) (before:List MemPlace),
  (∀(j:Nat) t v,fn.params[j]?=some t→args[j]?=some v→Value.okWide C.prog W .any base t v)→
  DataW.Whole enc C.prog fn.params.toList s.vars apart W args.toList ds gs before→
  X W args→W.ShapedOpen C.prog→
  Calls C.prog f args W fun e W'=>∃v,e= .returned v∧s.post enc C.prog fn apart fresh handsOn again W args v W'):
 ReturnsInHanded a C os f .any (fun w args=>(s.pre enc C.prog fn conds apart w args∧X w args)∧sizedMet enc C.prog fn (OpenSpec.ofChange s) apart w args) (s.post enc C.prog fn apart fresh handsOn again):=by
 refine returnsInHanded_of_calls own started noInit witness ?_;intro w tape i _ hsh _ hok hpre hholds;obtain⟨_,_,_,fn',hfn',_,_,_,_,hval⟩:=hok;have e:fn'=fn:=Option.some.inj (hfn'.symm.trans hfn);subst e;obtain⟨⟨⟨ds,gs,before,hw,hc⟩,hx⟩,hz⟩:=hpre;have hw':=DataW.Whole.of_heap (w':=w.forCall tape i) (by rfl) hw;refine(contract (w.forCall tape i) w.heap.size i.args ds gs before hval hw' (hX _ _ _ (by rfl) hx) hsh).mono fun e W' ⟨v,he,hp⟩=> ?_;subst he;exact ChangeSpec.post_blind hp
def vX(P:Program)(ts:List TypeId):Bool:=ts.all fun t=>P.readableRec t&&decide (t<P.types.size)
theorem Below.OX{P:Program}(hl:laidOutB P=true){H:Type}{enc:TypeId×Value→H}{W W':World}(hb:Below W.heap.size W W'):∀(ts:List TypeId) (vs:List Value) (ds:List (DataW H)) (ps:List MemPlace),vX P ts=true→
 DataW.TrodAll enc P W 0 (fun _=>true) true ts vs ds ps→(∀x∈ps,x.block<W.heap.size)→DataW.TrodAll enc P W' 0 (fun b=>decide (b<W.heap.size)) true ts vs ds ps:=by
 intro ts
 induction ts with
 |nil=>
  intro vs ds ps _ h _;cases vs with
  |cons=>exact h.elim
  |nil=>
   cases ds with
   |cons=>exact h.elim
   |nil=>exact h
 |cons t ts ih=>
  intro vs ds ps hk h hlt;cases vs with
  |nil=>exact h.elim
  |cons v vs=>
   cases ds with
   |nil=>exact h.elim
   |cons d ds=>
    obtain⟨p,q,h1,h2,rfl⟩:=h;unfold vX at hk;rw[List.all_cons,Bool.and_eq_true,Bool.and_eq_true]at hk;exact⟨p,q,Below.trod hl hk.1.1 (of_decide_eq_true hk.1.2) h1 hb (fun x hx=>hlt x (List.mem_append.2 (.inl hx))),ih _ _ _ hk.2 h2 (fun x hx=>hlt x (List.mem_append.2 (.inr hx))),rfl⟩
theorem Below.trodAll {H:Type} {enc:TypeId×Value→H} {W W':World} (hb:Below W.heap.size W W') {ts:List TypeId} {vs:List Value} {ds:List (DataW H)} {ps:List MemPlace} (hk:vX Tryz.prog ts=true)
 (h:DataW.TrodAll enc Tryz.prog W 0 (fun _=>true) true ts vs ds ps) (hlt:∀x∈ps,x.block<W.heap.size):DataW.TrodAll enc Tryz.prog W' 0 (fun b=>decide (b<W.heap.size)) true ts vs ds ps:=
 Below.OX laidOut hb ts vs ds ps hk h hlt
theorem iV.of{l:List (String×DataW Unit)}{W:World}(h:laidMetH Tryz.prog l W)(hp:laidMetH Tryz.prog l W=laidMet Tryz.prog l W)(hm:("math/bits.deBruijn64tab",Rows.laid_math_bits_deBruijn64tab)∈l):iV W:=by
 rw[hp]at h;obtain⟨g,t,cs,fuel,p,hg,ht,hv,hd⟩:=Lib.laidMet.reads h hm;obtain rfl:=Option.some.inj ((show Tryz.prog.globalNamed "math/bits.deBruijn64tab" =some 0 by kernel_rfl).symm.trans hg);obtain rfl:=Option.some.inj ((show(Tryz.prog.globals[0]?).map (·.type)=some 292 by kernel_rfl).symm.trans ht);have hc:=Lib.cells_of_tab (k:= .u8) (zs:=Lib.deBruijn64tab.map fun(x:Nat)=>(x:Int)) Tryz.underlying292 Tryz.underlying5 (by kernel_rfl) (by kernel_rfl) hd;intro j hj;rw[World.var?_cell hg hv j];have h1:cs.toList[j]?=some (.int .u8 (Lib.deBruijn64tab.getD j 0)):=by
  rw[hc,List.getElem?_map,List.getElem?_map,List.getElem?_eq_getElem hj];simp[List.getD_eq_getElem?_getD,List.getElem?_eq_getElem hj]
 simpa using h1
end Go.Proofs.YtfhnamomiaekdaaGreatDoor
namespace Go.Proofs.YtfhnamomiaekdaaGreatDoor
open Go.Joins Go.ChangeShapes Go.WideShapes Go.ChangeAt Go.RowKit Go.Deep Go.Inq
section
variable{H:Type}{enc:TypeId×Value→H}{w:World}{base:Nat}{spare:Nat→Bool}{held:Bool}
theorem jY {α:Type} {size:Nat} {R:World→(Nat→Prop)→List Value→α→Prop} {te ts:TypeId} (P:α→Prop) (x0:α) (hT:Tryz.prog.underlying ts=some (.slice te)) (hC:Tryz.prog.cellsOf te=size) (hs0:0<size)
 (hop:∀n cs x,DataW.trod enc Tryz.prog w base spare held n te cs=some x→∃t,R w (Old w) cs t∧P t)
 {n:Nat} {v:Value} {x:DataW H×List MemPlace} (h:DataW.trod enc Tryz.prog w base spare held n ts [v]=some x):
 ∃(A:Option Addr) (c:Nat) (l:List α),v= .slice A l.length c∧SlR size R w (Old w) (.slice A l.length c) l∧l.length≤maxLen∧∀t∈l,P t:=by
 rcases open_slice hT h with⟨h1,_⟩|⟨a,len,cap,m,n',D,Pl,h1,_,hl,hm,hmm,hx,hi⟩
 ·injection h1 with h1
  exact⟨none,0,[],h1,SlR.nil _ _ _ _ _ _,Nat.zero_le _,fun t ht=>by simp at ht⟩
 ·injection h1 with h1
  subst h1;rw[hC]at hi;have hlm:len≤m:=(by rw[hmm];split<;>omega);have hex:∀i,∃p:α×List Value,i<len→p.2.length=size∧R w (Old w) p.2 p.1∧P p.1∧∀j u,p.2[j]?=some u→w.cell? (a.add (i*size+j))=some u:=fun i=>by
   by_cases hil:i<len
   ·obtain⟨cs,hc,ht⟩:=hi i (by omega);obtain⟨t,hR,hP⟩:=hop _ _ _ ht;obtain⟨_,hcl,hat⟩:=World.cells?_some hc;refine⟨(t,cs),fun _=>⟨by simpa using hcl,hR,hP,fun j u hj=> ?_⟩⟩;have hj4:j<size:=by
     rcases Nat.lt_or_ge j size with h|h
     ·exact h
     ·rw[List.getElem?_eq_none (by dsimp only;omega)]at hj;cases hj
    rw[←Go.Deep.add_add,hat j hj4];exact hj
   ·exact⟨(x0,[]),fun h=>absurd h hil⟩
  obtain⟨f,hf⟩:=Classical.axiomOfChoice hex;have hlen:((List.range len).map fun i=>(f i).1).length=len:=(by simp);refine⟨some a,cap,(List.range len).map fun i=>(f i).1,by rw[hlen],⟨some a,cap,(List.range len).map fun i=>(f i).2,rfl,by omega,by simp,fun i cs x h1 h2=> ?_,fun h0=> ?_⟩,by omega,fun t ht=> ?_⟩
  ·simp only[List.getElem?_map]at h1 h2;cases hr:(List.range len)[i]? with
   |none=>rw[hr]at h1;cases h1
   |some k=>
    rw[hr]at h1 h2;simp at h1 h2;subst h1 h2;have hk:k<len:=by
     rw[List.getElem?_eq_some_iff]at hr;obtain⟨h3,h4⟩:=hr;simp at h3 h4;omega
    exact⟨(hf k hk).1,(hf k hk).2.1⟩
  ·rw[hlen]at h0;obtain⟨g1,_,_,g4⟩:=hf 0 h0;have hc0:=g4 0 ((f 0).2[0]'(by omega)) (List.getElem?_eq_getElem (by omega));obtain⟨_,_,_,_,hs⟩:=World.shape?_of_cell? hc0;obtain⟨b,o,sp⟩:=a;have hsp:sp=none:=by
    cases sp with
    |none=>rfl
    |some q=>simp[Addr.add]at hs
   subst hsp;have hbl:b<w.heap.size:=(by have:=block_lt_of_cell hc0;rwa[Addr.add_lit]at this);refine⟨b,o,rfl,hbl,fun i j cs u h1 h2=> ?_⟩;simp only[List.getElem?_map]at h1;cases hr:(List.range len)[i]? with
   |none=>rw[hr]at h1;cases h1
   |some k=>
    rw[hr]at h1;simp at h1;subst h1;have hk:k=i∧i<len:=by
     rw[List.getElem?_eq_some_iff]at hr;obtain⟨h3,h4⟩:=hr;simp at h3 h4;exact⟨h4.symm,h3⟩
    have:=(hf i hk.2).2.2.2 j u (by rw[←hk.1];exact h2);rw[Addr.add_lit,←Nat.add_assoc]at this;exact this
  ·obtain⟨k,hk,rfl⟩:=List.mem_map.1 ht;exact(hf k (by simpa using hk)).2.2.1
theorem OY{n:Nat}{cs:List Value}{x:DataW H×List MemPlace}(h:DataW.trod enc Tryz.prog w base spare held n 3 cs=some x):∃k:Int,Go.Inq.Flat Go.Inq.encI w (Old w) cs k∧True:=by
 obtain⟨k,e,_⟩:=DataW.trod_int Tryz.underlying3 h;exact⟨k,e,trivial⟩
theorem vY{n:Nat}{v:Value}{x:DataW H×List MemPlace}(h:DataW.trod enc Tryz.prog w base spare held n 33 [v]=some x):
 ∃(A:Option Addr) (c:Nat) (l:List Int),v= .slice A l.length c∧aP w (Old w) (.slice A l.length c) l∧l.length≤maxLen:=by
 obtain⟨A,c,l,h1,h2,h3,_⟩:=jY (R:=Go.Inq.Flat Go.Inq.encI) (size:=1) (fun _=>True) 0 Tryz.underlying33 (by kernel_rfl) (by decide) (fun n cs x h=>OY h) h;exact⟨A,c,l,h1,h2,h3⟩
theorem LM{n:Nat}{cs:List Value}{x:DataW H×List MemPlace}(hC:Tryz.prog.cellsOf 106=2)(h:DataW.trod enc Tryz.prog w base spare held n 106 cs=some x):∃e:It,Go.Inq.Flat It.enc w (Old w) cs e∧True:=by
 obtain⟨y0,y1,n',_,hl,h0,h1⟩:=trod_struct2 Tryz.underlying106 h;rw[hC]at hl;have h31:Tryz.prog.cellsOf 3=1:=(by kernel_rfl);simp only[h31]at h0 h1
 match cs,hl with
 |[a,b],_=>
  obtain⟨k0,e0,_⟩:=DataW.trod_int Tryz.underlying3 h0;obtain⟨k1,e1,_⟩:=DataW.trod_int Tryz.underlying3 h1;simp at e0 e1;exact⟨⟨k0,k1⟩,by unfold Go.Inq.Flat;simp[It.enc,e0,e1],trivial⟩
theorem IC{n:Nat}{v:Value}{x:DataW H×List MemPlace}(h:DataW.trod enc Tryz.prog w base spare held n 107 [v]=some x):
 ∃(A:Option Addr) (c:Nat) (l:List It),v= .slice A l.length c∧ItS w (Old w) (.slice A l.length c) l∧l.length≤maxLen:=by
 obtain⟨A,c,l,h1,h2,h3,_⟩:=jY (R:=Go.Inq.Flat It.enc) (size:=2) (fun _=>True) ⟨0,0⟩ Tryz.underlying107 (by kernel_rfl) (by decide) (fun n cs x h=>LM (by kernel_rfl) h) h;exact⟨A,c,l,h1,h2,h3⟩
theorem OZ{n:Nat}{cs:List Value}{x:DataW H×List MemPlace}(hC:Tryz.prog.cellsOf 109=3)(h:DataW.trod enc Tryz.prog w base spare held n 109 cs=some x):
 ∃t:Txn,AJ w (Old w) cs t∧t.writes.length≤maxLen∧t.reads.length≤maxLen:=by
 obtain⟨y0,y1,y2,n',_,hl,h0,h1,h2⟩:=trod_struct3 Tryz.underlying109 h;rw[hC]at hl;have e1:Tryz.prog.cellsOf 3=1:=(by kernel_rfl);have e2:Tryz.prog.cellsOf 33=1:=(by kernel_rfl);have e3:Tryz.prog.cellsOf 107=1:=(by kernel_rfl);simp only[e1,e2,e3]at h0 h1 h2
 match cs,hl with
 |[a,b,c],_=>
  obtain⟨k0,e0,_⟩:=DataW.trod_int Tryz.underlying3 h0;simp at e0;have h1':DataW.trod enc Tryz.prog w base spare held n' 33 [b]=some y1:=(by simpa using h1);have h2':DataW.trod enc Tryz.prog w base spare held n' 107 [c]=some y2:=(by simpa using h2);obtain⟨A,c',l,hv,hev,hlen⟩:=vY h1';obtain⟨A2,c2',l2,hv2,Vn,Np⟩:=IC h2';exact⟨⟨k0,l,l2⟩,⟨b,c,by rw[e0],by rw[hv];exact hev,by rw[hv2];exact Vn⟩,hlen,Np⟩
theorem LP{n:Nat}{v:Value}{x:DataW H×List MemPlace}(h:DataW.trod enc Tryz.prog w base spare held n 22 [v]=some x):
 ∃(A:Option Addr) (c:Nat) (l:List Txn),v= .slice A l.length c∧aD w (Old w) (.slice A l.length c) l∧l.length≤maxLen∧∀t∈l,t.writes.length≤maxLen∧t.reads.length≤maxLen:=
 jY (R:=AJ) (size:=3) (fun t=>t.writes.length≤maxLen∧t.reads.length≤maxLen) ⟨0,[],[]⟩ Tryz.underlying22 (by kernel_rfl) (by decide) (fun n cs x h=>OZ (by kernel_rfl) h) h
theorem LQ{n:Nat}{cs:List Value}{x:DataW H×List MemPlace}(hC:Tryz.prog.cellsOf 24=1)(h:DataW.trod enc Tryz.prog w base spare held n 24 cs=some x):
 ∃(A:Option Addr) (c:Nat) (l:List Txn),cs=[.slice A l.length c]∧aD w (Old w) (.slice A l.length c) l∧l.length≤maxLen∧∀t∈l,t.writes.length≤maxLen∧t.reads.length≤maxLen:=by
 obtain⟨y0,n',_,hl,h0⟩:=trod_struct1 Tryz.underlying24 h;rw[hC]at hl;have e1:Tryz.prog.cellsOf 22=1:=(by kernel_rfl);simp only[e1]at h0
 match cs,hl with
 |[a],_=>
  have h0':DataW.trod enc Tryz.prog w base spare held n' 22 [a]=some y0:=(by simpa using h0);obtain⟨A,c,l,hv,h1,h2,h3⟩:=LP h0';exact⟨A,c,l,by rw[hv],h1,h2,h3⟩
end
section
variable{H:Type}{enc:TypeId×Value→H}{w:World}{base:Nat}{spare:Nat→Bool}{held:Bool}
theorem Dw{P:Program}{t:TypeId}{f0 f1 f2 f3 f4:Field}{fuel:Nat}{cs:List Value}{x:DataW H×List MemPlace}(ht:P.underlying t=some (.struct #[f0,f1,f2,f3,f4]))(h:DataW.trod enc P w base spare held fuel t cs=some x):
 ∃y0 y1 y2 y3 y4 n,cs.length=P.cellsOf t∧DataW.trod enc P w base spare held n f0.type ((cs.drop f0.offset).take (P.cellsOf f0.type))=some y0∧
  DataW.trod enc P w base spare held n f1.type ((cs.drop f1.offset).take (P.cellsOf f1.type))=some y1∧DataW.trod enc P w base spare held n f2.type ((cs.drop f2.offset).take (P.cellsOf f2.type))=some y2∧
  DataW.trod enc P w base spare held n f3.type ((cs.drop f3.offset).take (P.cellsOf f3.type))=some y3∧DataW.trod enc P w base spare held n f4.type ((cs.drop f4.offset).take (P.cellsOf f4.type))=some y4:=by
 obtain⟨xs,n,_,rfl,hl,hlen,hf⟩:=DataW.trod_struct ht h
 match xs,hlen with
 |[y0,y1,y2,y3,y4],_=>exact⟨y0,y1,y2,y3,y4,n,hl,by simpa using hf 0 f0 rfl,by simpa using hf 1 f1 rfl,by simpa using hf 2 f2 rfl,by simpa using hf 3 f3 rfl,by simpa using hf 4 f4 rfl⟩
theorem zH{n:Nat}{a b c:Value}{x:DataW H×List MemPlace}(h:DataW.trod enc Tryz.prog w base spare held n 102 [a,b,c]=some x):∃d:Cho,[a,b,c]=[.int .i64 d.key,.int .i64 d.a,.int .i64 d.b]:=by
 obtain⟨y0,y1,y2,n',_,hl,h0,h1,h2⟩:=trod_struct3 Tryz.underlying102 h;have e1:Tryz.prog.cellsOf 3=1:=(by kernel_rfl);simp only[e1]at h0 h1 h2;obtain⟨k0,g0,_⟩:=DataW.trod_int Tryz.underlying3 h0;obtain⟨k1,g1,_⟩:=DataW.trod_int Tryz.underlying3 h1;obtain⟨k2,g2,_⟩:=DataW.trod_int Tryz.underlying3 h2;simp at g0 g1 g2;exact⟨⟨k0,k1,k2⟩,by rw[g0,g1,g2]⟩
theorem LU{n:Nat}{cs:List Value}{x:DataW H×List MemPlace}(hC:Tryz.prog.cellsOf 104=7)(h:DataW.trod enc Tryz.prog w base spare held n 104 cs=some x):∃f:Fct,u6 w (Old w) cs f:=by
 obtain⟨y0,y1,y2,y3,y4,n',hl,h0,h1,h2,h3,h4⟩:=Dw Tryz.underlying104 h;rw[hC]at hl;have e1:Tryz.prog.cellsOf 3=1:=(by kernel_rfl);have e2:Tryz.prog.cellsOf 102=3:=(by kernel_rfl);have e3:Tryz.prog.cellsOf 33=1:=(by kernel_rfl);simp only[e1,e2,e3]at h0 h1 h2 h3 h4
 match cs,hl with
 |[a,b,c,d,e,f,g],_=>
  obtain⟨ch,hch⟩:=zH (a:=a) (b:=b) (c:=c) (by simpa using h0);simp only[List.cons.injEq,and_true]at hch;obtain⟨k1,g1,_⟩:=DataW.trod_int Tryz.underlying3 h1;obtain⟨k2,g2,_⟩:=DataW.trod_int Tryz.underlying3 h2;obtain⟨k3,g3,_⟩:=DataW.trod_int Tryz.underlying3 h3;simp at g1 g2 g3;have h4':DataW.trod enc Tryz.prog w base spare held n' 33 [g]=some y4:=(by simpa using h4);obtain⟨A,c',l,hv,hev,_⟩:=vY h4';exact⟨⟨ch,k1,k2,k3,l⟩,A,c',by rw[hch.1,hch.2.1,hch.2.2,g1,g2,g3,hv],hev⟩
theorem IE{n:Nat}{v:Value}{x:DataW H×List MemPlace}(h:DataW.trod enc Tryz.prog w base spare held n 27 [v]=some x):
 ∃(A:Option Addr) (c:Nat) (l:List Fct),v= .slice A l.length c∧eY w (Old w) (.slice A l.length c) l∧l.length≤maxLen:=by
 obtain⟨A,c,l,h1,h2,h3,_⟩:=jY (R:=u6) (size:=7) (fun _=>True) ⟨⟨0,0,0⟩,0,0,0,[]⟩ Tryz.underlying27 (by kernel_rfl) (by decide) (fun n cs x h=>by obtain⟨f,hf⟩:=LU (by kernel_rfl) h;exact⟨f,hf,trivial⟩) h;exact⟨A,c,l,h1,h2,h3⟩
end
section
variable{H:Type}{enc:TypeId×Value→H}{w:World}{base:Nat}{spare:Nat→Bool}{held:Bool}
theorem LV{n:Nat}{cs:List Value}{x:DataW H×List MemPlace}(hC:Tryz.prog.cellsOf 125=4)(h:DataW.trod enc Tryz.prog w base spare held n 125 cs=some x):∃f:Nod,fE w (Old w) cs f∧True:=by
 obtain⟨y0,y1,n',_,hl,h0,h1⟩:=trod_struct2 Tryz.underlying125 h;rw[hC]at hl;have e2:Tryz.prog.cellsOf 102=3:=(by kernel_rfl);have e3:Tryz.prog.cellsOf 33=1:=(by kernel_rfl);simp only[e2,e3]at h0 h1
 match cs,hl with
 |[a,b,c,d],_=>
  obtain⟨ch,hch⟩:=zH (a:=a) (b:=b) (c:=c) (by simpa using h0);simp only[List.cons.injEq,and_true]at hch;have h1':DataW.trod enc Tryz.prog w base spare held n' 33 [d]=some y1:=(by simpa using h1);obtain⟨A,c',l,hv,hev,_⟩:=vY h1';exact⟨⟨ch,l⟩,⟨A,c',by rw[hch.1,hch.2.1,hch.2.2,hv],hev⟩,trivial⟩
theorem IG{n:Nat}{v:Value}{x:DataW H×List MemPlace}(h:DataW.trod enc Tryz.prog w base spare held n 34 [v]=some x):
 ∃(A:Option Addr) (c:Nat) (l:List Nod),v= .slice A l.length c∧bJ w (Old w) (.slice A l.length c) l∧l.length≤maxLen:=by
 obtain⟨A,c,l,h1,h2,h3,_⟩:=jY (R:=fE) (size:=4) (fun _=>True) ⟨⟨0,0,0⟩,[]⟩ Tryz.underlying34 (by kernel_rfl) (by decide) (fun n cs x h=>LV (by kernel_rfl) h) h;exact⟨A,c,l,h1,h2,h3⟩
theorem LW{n:Nat}{cs:List Value}{x:DataW H×List MemPlace}(hC:Tryz.prog.cellsOf 129=5)(h:DataW.trod enc Tryz.prog w base spare held n 129 cs=some x):∃f:Mk,MkR w (Old w) cs f∧True:=by
 obtain⟨y0,y1,y2,n',_,hl,h0,h1,h2⟩:=trod_struct3 Tryz.underlying129 h;rw[hC]at hl;have e1:Tryz.prog.cellsOf 4=1:=(by kernel_rfl);have e2:Tryz.prog.cellsOf 102=3:=(by kernel_rfl);have e3:Tryz.prog.cellsOf 34=1:=(by kernel_rfl);simp only[e1,e2,e3]at h0 h1 h2
 match cs,hl with
 |[a,b,c,d,e],_=>
  obtain⟨ch,hch⟩:=zH (a:=a) (b:=b) (c:=c) (by simpa using h0);simp only[List.cons.injEq,and_true]at hch;obtain⟨k1,g1,_⟩:=DataW.trod_bool Tryz.underlying4 h1;simp at g1;have h2':DataW.trod enc Tryz.prog w base spare held n' 34 [e]=some y2:=(by simpa using h2);obtain⟨A,c',l,hv,hev,_⟩:=IG h2';exact⟨⟨ch,k1,l⟩,⟨A,c',by rw[hch.1,hch.2.1,hch.2.2,g1,hv],hev⟩,trivial⟩
theorem II{n:Nat}{v:Value}{x:DataW H×List MemPlace}(h:DataW.trod enc Tryz.prog w base spare held n 51 [v]=some x):
 ∃(A:Option Addr) (c:Nat) (l:List Mk),v= .slice A l.length c∧MkS w (Old w) (.slice A l.length c) l∧l.length≤maxLen:=by
 obtain⟨A,c,l,h1,h2,h3,_⟩:=jY (R:=MkR) (size:=5) (fun _=>True) ⟨⟨0,0,0⟩,false,[]⟩ Tryz.underlying51 (by kernel_rfl) (by decide) (fun n cs x h=>LW (by kernel_rfl) h) h;exact⟨A,c,l,h1,h2,h3⟩
theorem FC{n:Nat}{cs:List Value}{x:DataW H×List MemPlace}(hC:Tryz.prog.cellsOf 53=4)(h:DataW.trod enc Tryz.prog w base spare held n 53 cs=some x):
 ∃(A:Option Addr) (c:Nat) (Hs:List Txn) (level:Int) (Al:Option Addr) (cl:Nat) (L:List Fct) (Ap:Option Addr) (cp:Nat) (path:List Mk),cs=[.slice A Hs.length c,.int .i64 level,.slice Al L.length cl,.slice Ap path.length cp]∧
  aD w (Old w) (.slice A Hs.length c) Hs∧Hs.length≤maxLen∧(∀t∈Hs,t.writes.length≤maxLen∧t.reads.length≤maxLen)∧eY w (Old w) (.slice Al L.length cl) L∧L.length≤maxLen∧MkS w (Old w) (.slice Ap path.length cp) path∧path.length≤maxLen:=by
 obtain⟨y0,y1,y2,y3,n',_,hl,h0,h1,h2,h3⟩:=trod_struct4 Tryz.underlying53 h;rw[hC]at hl;have e1:Tryz.prog.cellsOf 24=1:=(by kernel_rfl);have e2:Tryz.prog.cellsOf 3=1:=(by kernel_rfl);have e3:Tryz.prog.cellsOf 27=1:=(by kernel_rfl);have e4:Tryz.prog.cellsOf 51=1:=(by kernel_rfl);simp only[e1,e2,e3,e4]at h0 h1 h2 h3
 match cs,hl with
 |[a,b,c,d],_=>
  have h0':DataW.trod enc Tryz.prog w base spare held n' 24 [a]=some y0:=(by simpa using h0);obtain⟨a0,cap0,l0,he0,hl0,hn0,hm0⟩:=LQ (by kernel_rfl) h0';obtain⟨k1,g1,_⟩:=DataW.trod_int Tryz.underlying3 h1;simp at g1 he0;have h2':DataW.trod enc Tryz.prog w base spare held n' 27 [c]=some y2:=(by simpa using h2);have h3':DataW.trod enc Tryz.prog w base spare held n' 51 [d]=some y3:=(by simpa using h3);obtain⟨A2,c2,l2,hv2,hf2,hn2⟩:=IE h2';obtain⟨A3,c3,l3,hv3,hf3,hn3⟩:=II h3';exact⟨a0,cap0,l0,k1,A2,c2,l2,A3,c3,l3,by rw[he0,g1,hv2,hv3],hl0,hn0,hm0,hf2,hn2,hf3,hn3⟩
end
end Go.Proofs.YtfhnamomiaekdaaGreatDoor
namespace Go.Proofs.YtfhnamomiaekdaaGreatDoor
def O4(P:Program)(fn:Func)(s:ChangeSpec)(c:OpenClaim):Bool:=
 c.wf (OpenSpec.ofChange s)&&laidOutB P&&mapsRowed P&&fn.params.all (P.readableRec ·)&&namedTie P c.named s.vars
def Dx(P:Program)(fn:Func)(s:ChangeSpec)(c:OpenClaim):Bool:=
 (c.stops==[])&&(P.stops==[])&&(c.knobs==[])&&(P.stopKnobs==[])&&
 (c.maps==(fn.params.toList++s.plain.varTypes P).any (P.mapsRec ·))&&(c.ifaces==(fn.params.toList++s.plain.varTypes P).any (P.ifacesRec ·))&&(c.mapsOut==P.mapsAmong fn.resultTypes.toList)&&
 (c.loops==(fn.params.toList++s.plain.varTypes P).any (P.loopsFrom ·))&&(c.wideKeys==(fn.params.toList++s.plain.varTypes P++fn.resultTypes.toList).any (P.wideKeysFrom ·))&&
 s.vars.all (P.varReadable ·)&&fn.resultTypes.all (fun t=>P.readableRec t&&decide (t<P.types.size))&&(c.ifacesOut==fn.resultTypes.toList.any (P.ifacesRec ·))&&(c.loopsOut==fn.resultTypes.toList.any (P.loopsFrom ·))
def O5(P:Program)(fn:Func)(s:ChangeSpec)(c:OpenClaim):Bool:=
 (c.plainKeys==P.plainKeys)&&c.shortTexts.isNone&&P.stopsHeard&&P.mayEnter&&(c.lifted==P.liftsFinal)&&(P.make==some c.make)&&(c.kinds==(if c.domain.isEmpty then[]else fn.params.toList.map fun t=>match P.underlying t with|some (.int k)=>some k|_=>none))&&(c.pinned==c.pinnedBy)&&
 (c.veiled==(fn.params.toList++s.plain.varTypes P++fn.resultTypes.toList).any (P.veiledRec ·))&&c.veiledFits P fn.params.toList (fn.params.toList++s.plain.varTypes P++fn.resultTypes.toList)
theorem Dy {P:Program} {f:FuncId} {fn:Func} {s:ChangeSpec} {c:OpenClaim} (he:O4 P fn s c=true)
 (ha:(c.inPlace==P.inPlace f)=true) (hb:(c.unfollowed==P.unfollowed f)=true) (hc:(c.recurses==P.recurses f)=true) (hd:(c.named==P.varsNamed f)=true)
 (hf:Dx P fn s c=true) (hg:O5 P fn s c=true):joinedFacts P f fn s c=true:=by
 unfold O4 at he;unfold Dx at hf;unfold O5 at hg;unfold joinedFacts;rw[Bool.and_eq_true]at he hf hg;simp only[Bool.and_eq_true,and_assoc]at he hf hg⊢;obtain⟨e1,e2,e3,e4,e5⟩:=he;obtain⟨f1,f2,f3,f4,f5,f6,f7,f8,f9,f10,f11,f12,f13⟩:=hf;obtain⟨g1,g2,g3,g4,g5,g6,g7,g8,g9,g10⟩:=hg;exact⟨e1,e2,e3,e4,e5,f1,f2,f3,f4,ha,hb,hc,hd,f5,f6,f7,f8,f9,f10,f11,f12,f13,g1,g2,g3,g4,g5,g6,g7,g8,g9,g10⟩
end Go.Proofs.YtfhnamomiaekdaaGreatDoor
namespace Go.Proofs.YtfhnamomiaekdaaGreatDoor
open Go Go.RowKit Go.Inq
def LX(H:List Txn)(level:Int):Nat→Int→Int→List Fct→Say×List Fct×Nat
 |0,_,_,L=>(nY,L,0)
 |n+1,a,i,L=>
  let r:=Ec H level a i L
  if r.2.said=0 then
   let x:=LX H level n r.1.1 r.1.2 (L++r.2.facts)
   (x.1,x.2.1,x.2.2+1)
  else(r.2,L++r.2.facts,1)
def TU(L:List Fct):Prop:=∀f∈L,f.cyc.length≤1000000
theorem Ck{H:List Txn}{level:Int}{L:List Fct}{c:Cho}{f:Fct}(h:Jo H level L c=some f):f.cyc=[]:=by
 unfold Jo at h;have hm:=List.mem_of_find?_eq_some h;rw[List.mem_map]at hm;obtain⟨x,-,rfl⟩:=hm;rfl
theorem LY{H:List Txn}{level a i:Int}{L:List Fct}:(Ec H level a i L).2.facts.length≤1∧TU (Ec H level a i L).2.facts:=by
 unfold Ec;split
 ·rename_i hg;have hr:ay H=true:=by
   simp only[Bool.and_eq_true]at hg;have h1:=hg.1.1;unfold SH at h1;simp only[Bool.and_eq_true]at h1;exact h1.1.1.1.1
  have hn:=((aB H).1 hr).1;have hfl:∀x,(dI H level x).length≤1000000:=fun x=>by
   unfold dI;rw[List.length_map];exact Nat.le_trans Bt (by omega)
  split
  ·obtain⟨-,h2⟩:=Gl H level L;dsimp only;rw[h2];exact⟨by simp,fun f hf=>by cases hf⟩
  ·dsimp only;split
   ·exact⟨by simp[nY],fun f hf=>by simp[nY]at hf⟩
   ·dsimp only;generalize(bB H).getD a.toNat dw=p;refine⟨by rcases J9 H level L p with⟨-,h⟩|⟨-,h⟩<;>simp[h]<;>omega,?_⟩;unfold Gh;split
    ·rename_i f hf;intro g hg;obtain rfl:g=f:=(by simpa using hg);rw[Ck hf];simp
    ·split
     ·rename_i f hf;intro g hg;obtain rfl:g=f:=(by simpa using hg);rw[Ck hf];simp
     ·dsimp only;split
      ·split
       ·intro g hg;simp[nY]at hg
       ·intro g hg;obtain rfl:g=_:=(by simpa using hg);exact hfl _
      ·split
       ·intro g hg;obtain rfl:g=_:=(by simpa using hg);exact hfl _
       ·intro g hg;simp at hg
 ·exact⟨by simp[oN],fun f hf=>by simp[oN]at hf⟩
structure O6(H:List Txn)(level:Int)(N k:Nat)(a i:Int)(L:List Fct)(F:Say×List Fct×Nat):Prop where
 le:k≤N
 len:L.length≤k
 cyc:TU L
 fin:F=((LX H level (N-k) a i L).1,(LX H level (N-k) a i L).2.1,(LX H level (N-k) a i L).2.2+k)
theorem O6.start{H:List Txn}{level:Int}{N:Nat}:O6 H level N 0 0 0 [] (LX H level N 0 0 []):=
 ⟨Nat.zero_le _,by simp,fun f hf=>by simp at hf,by simp⟩
theorem O6.step{H:List Txn}{level:Int}{N k:Nat}{a i:Int}{L:List Fct}{F:Say×List Fct×Nat}(h:O6 H level N k a i L F)(hk:k<N){r:(Int×Int)×Say}(hr:Ec H level a i L=r):
 r.2.facts.length≤1∧(r.2.said=0→O6 H level N (k+1) r.1.1 r.1.2 (L++r.2.facts) F)∧(r.2.said≠0→F=(r.2,L++r.2.facts,k+1)):=by
 obtain⟨h1,h2⟩:=LY (H:=H) (level:=level) (a:=a) (i:=i) (L:=L);rw[hr]at h1 h2;have hf:=h.fin;rw[show N-k=(N-(k+1))+1 by omega]at hf;unfold LX at hf;dsimp only at hf;rw[hr]at hf;have hl:=h.len;refine⟨h1,fun hs=>⟨hk,by rw[List.length_append];omega,fun f hm=> ?_,?_⟩,fun hs=> ?_⟩
 ·rcases List.mem_append.1 hm with g|g
  ·exact h.cyc f g
  ·exact h2 f g
 ·rw[if_pos hs]at hf;rw[hf];dsimp only;rw[show k+1=1+k by omega,←Nat.add_assoc]
 ·rw[if_neg hs]at hf;rw[hf,Nat.add_comm 1 k]
end Go.Proofs.YtfhnamomiaekdaaGreatDoor
namespace Go.Proofs.YtfhnamomiaekdaaGreatDoor
open Go.RowKit Go.Inq
theorem vZ{l:List Int}{x:Int}{i:Nat}(h:l.idxOf? x=some i):dQ l x=i:=by
 unfold dQ;have:l.findIdx? (·==x)=some i:=h;rw[this]
theorem Dz{l:List Int}{x:Int}(h:l.idxOf? x=none):dQ l x= -1:=by
 unfold dQ;have:l.findIdx? (·==x)=none:=h;rw[this]
theorem LZ{l:List Int}{x:Int}(h0:l.contains x=false):dQ l x= -1:=by
 refine Dz ?_;rw[List.idxOf?,List.findIdx?_eq_none_iff];intro y hy;rw[beq_eq_false_iff_ne];rintro rfl;rw[Bool.eq_false_iff]at h0;exact h0 (List.contains_iff_mem.2 hy)
theorem O7{l:List Int}{x:Int}:dQ l x<0↔l.contains x=false:=by
 constructor
 ·intro h;rw[Bool.eq_false_iff];intro hc;obtain⟨k,hk⟩:∃k,l.idxOf? x=some k:=by
   cases e:l.idxOf? x with
   |some k=>exact⟨k,rfl⟩
   |none=>
    rw[List.idxOf?,List.findIdx?_eq_none_iff]at e;have:=e x (List.contains_iff_mem.1 hc);simp at this
  rw[vZ hk]at h;omega
 ·intro h;rw[LZ h];decide
theorem JE{l:List Int}{x:Int}(h:l.contains x=true):0≤dQ l x:=by
 rcases Int.lt_or_le (dQ l x) 0 with g|g
 ·rw[O7,h]at g;cases g
 ·exact g
def bg(l:List Int)(n:Nat):Bool:=decide (l.length=n)&&(List.range n).all fun i=>l.contains (i:Int)
def ofC(order:List Int)(p:Cho):Cho:=if dQ order p.a>dQ order p.b then⟨p.key,p.b,p.a⟩else p
def ofL(H:List Txn)(order:List Int):List Cho:=(bB H).map (ofC order)
theorem Cm{α β:Type}{f g:α→Option β}:∀{l:List α},(∀x∈l,f x=g x)→l.filterMap f=l.filterMap g
 |[],_=>rfl
 |x::l,h=>by
  rw[List.filterMap_cons,List.filterMap_cons,h x (by simp),Cm fun y hy=>h y (by simp[hy])]
theorem JF{H:List Txn}{order:List Int}(h:bg order H.length=true):ofL H order=Ri H order:=by
 unfold ofL Ri;rw[←List.filterMap_eq_map];refine Cm fun p hp=> ?_;obtain⟨a,b,ha,hb,hab,hbn,-,-⟩:=rO hp;unfold bg at h;rw[Bool.and_eq_true,List.all_eq_true]at h;have h1:=h.2 a (List.mem_range.2 (by omega));have h2:=h.2 b (List.mem_range.2 hbn);rw[←ha]at h1;rw[←hb]at h2;have g1:=JE h1;have g2:=JE h2;unfold QO ofC;show some (if _ then _ else _)=_;cases e1:order.idxOf? p.a with
 |none=>rw[Dz e1]at g1;omega
 |some i=>
  cases e2:order.idxOf? p.b with
  |none=>rw[Dz e2]at g2;omega
  |some j=>
   rw[vZ e1,vZ e2];dsimp only;by_cases hij:j<i
   ·rw[if_pos (by omega),if_pos hij]
   ·rw[if_neg (by omega),if_neg hij]
theorem Cn{l:List Int}{n j:Nat}(h:bg l n=true)(hj:j<l.length)(hm:∀k,k<n→∃i,∃hi:i<l.length,i≠j∧l[i]=(k:Int)):False:=by
 unfold bg at h;rw[Bool.and_eq_true]at h;have hl:=of_decide_eq_true h.1;have:=jM (List.range n) ((l.eraseIdx j).map Int.toNat) List.nodup_range fun k hk=>by
  obtain⟨i,hi,hij,e⟩:=hm k (List.mem_range.1 hk);exact List.mem_map.2 ⟨l[i],List.mem_eraseIdx_iff_getElem.2 ⟨i,hi,hij,rfl⟩,by rw[e];simp⟩
 simp[List.length_eraseIdx,hj]at this;omega
theorem mQ{l:List Int}{n k:Nat}(h:bg l n=true)(hk:k<n):(k:Int)∈l:=by
 unfold bg at h;rw[Bool.and_eq_true,List.all_eq_true]at h;exact List.contains_iff_mem.1 (h.2 k (List.mem_range.2 hk))
theorem FD{l:List Int}{n:Nat}(h:bg l n=true):l.length=n:=by
 unfold bg at h;rw[Bool.and_eq_true]at h;exact of_decide_eq_true h.1
theorem jU{l:List Int}{n j:Nat}(h:bg l n=true)(hj:j<l.length):0≤l[j]∧l[j]<(n:Int):=by
 refine Classical.byContradiction fun hno=>Cn h hj fun k hk=> ?_;obtain⟨i,hi,e⟩:=List.getElem_of_mem (mQ h hk);refine⟨i,hi,?_,e⟩;rintro rfl;omega
theorem qK{l:List Int}{n i j:Nat}(h:bg l n=true)(hij:i<j)(hj:j<l.length):l[i]'(by omega)≠l[j]:=by
 intro he;refine Cn h hj fun k hk=> ?_;obtain⟨m,hm,e⟩:=List.getElem_of_mem (mQ h hk);by_cases hmj:m=j
 ·subst hmj;exact⟨i,by omega,by omega,by rw[he];exact e⟩
 ·exact⟨m,hm,hmj,e⟩
theorem zI{l:List Int}{n:Nat}(h:bg l n=true):l.Nodup:=by
 rw[List.nodup_iff_pairwise_ne,List.pairwise_iff_getElem];intro i j hi hj hij;exact qK h hij hj
theorem JG{l:List Int}{n:Nat}(hl:l.length=n)(hd:l.Nodup)(hb:∀x∈l,0≤x∧x<(n:Int)):bg l n=true:=by
 unfold bg;rw[decide_eq_true hl,Bool.true_and,List.all_eq_true];intro k hk;have hk:=List.mem_range.1 hk;rw[List.contains_iff_mem];refine Classical.byContradiction fun hno=> ?_;have hnd:(l.map Int.toNat).Nodup:=by
  rw[List.nodup_iff_pairwise_ne,List.pairwise_map];exact(List.nodup_iff_pairwise_ne.1 hd).imp_of_mem fun ha hb' hne e=>hne (by have:=hb _ ha;have:=hb _ hb';omega)
 have:=jM (k::l.map Int.toNat) (List.range n) (List.nodup_cons.2 ⟨fun hm=>by
  obtain⟨y,hy,e⟩:=List.mem_map.1 hm;have:=hb y hy;exact hno (by rw[show(k:Int)=y by omega];exact hy),hnd⟩) fun x hx=>by
  rw[List.mem_cons]at hx;rw[List.mem_range];rcases hx with rfl|hx
  ·exact hk
  ·obtain⟨y,hy,rfl⟩:=List.mem_map.1 hx;have:=hb y hy;omega
 simp at this;omega
structure kS(n:Nat)(E:aj)(o:List Nat):Prop where
 t:QS n E o
 len:o.length=n
 all:∀y,y<n→y∈o
theorem FE{n:Nat}{E:aj}{o:List Nat}(ho:fH n E=some o):kS n E o:=by
 have ht:=jN n o ho;have hl:=ig ho;refine⟨ht,hl,fun y hy=>Classical.byContradiction fun hno=> ?_⟩;have:=jM (y::o) (List.range n) (List.nodup_cons.2 ⟨hno,ht.nd⟩) (fun x hx=>by
  rw[List.mem_cons]at hx;rw[List.mem_range];rcases hx with rfl|hx
  ·exact hy
  ·exact ht.lt x hx)
 simp at this;omega
theorem kS.perm{n:Nat}{E:aj}{o:List Nat}(h:kS n E o):bg (o.map fun(x:Nat)=>(x:Int)) n=true:=by
 refine JG (by rw[List.length_map];exact h.len) ?_ fun x hx=> ?_
 ·rw[List.nodup_iff_pairwise_ne,List.pairwise_map];exact(List.nodup_iff_pairwise_ne.1 h.t.nd).imp fun hne e=>hne (by omega)
 ·obtain⟨y,hy,rfl⟩:=List.mem_map.1 hx;have:=h.t.lt y hy;omega
theorem kS.at_{n:Nat}{E:aj}{o:List Nat}(h:kS n E o){x:Nat}(hx:x<n):∃hi:o.idxOf x<o.length,o[o.idxOf x]=x:=⟨List.idxOf_lt_length_of_mem (h.all x hx),List.getElem_idxOf _⟩
theorem kS.dQ{n:Nat}{E:aj}{o:List Nat}(h:kS n E o){x:Nat}(hx:x<n):dQ (o.map fun(x:Nat)=>(x:Int)) (x:Int)=o.idxOf x:=by
 obtain⟨hi,he⟩:=h.at_ hx;refine y7 (by rw[List.length_map];exact hi) (by rw[List.getElem_map,he]) fun j hj hlt e=> ?_;rw[List.getElem_map]at e;have hnd:=List.pairwise_iff_getElem.1 (List.nodup_iff_pairwise_ne.1 h.t.nd) j (o.idxOf x) (by simpa using hj) hi hlt;exact hnd (by rw[he];omega)
theorem kS.up{n:Nat}{E:aj}{o:List Nat}(h:kS n E o){x y:Nat}(hx:x<n)(hy:y<n)(he:E x y=true):o.idxOf x<o.idxOf y:=(h.t.up y (h.all y hy) x hx he).2
theorem Qz{H:List Txn}{m:List Cho}{E:aj}{o:List Nat}(hm:Gz (bB H) m)(ht:kS H.length E o)(hw:∀a b,wwE m a b=true→E a b=true):∀c∈Ri H (o.map fun(x:Nat)=>(x:Int)),c∈m:=by
 intro c hc;rw[←JF ht.perm]at hc;unfold ofL at hc;obtain⟨p,hp,rfl⟩:=List.mem_map.1 hc;obtain⟨a,b,ha,hb,hab,hbn,-,-⟩:=rO hp;have hia:=ht.dQ (x:=a) (by omega);have hib:=ht.dQ (x:=b) hbn;unfold ofC;rw[ha,hb,hia,hib];have hin:∀q∈m,∀x y:Nat,q.a=x→q.b=y→x<H.length→y<H.length→o.idxOf x<o.idxOf y:=fun q hq x y hx hy hxn hyn=>ht.up hxn hyn (hw x y (by
  unfold wwE;rw[List.any_eq_true];exact⟨q,hq,by rw[hx,hy];simp⟩))
 rcases tZ hm p hp with h|h
 ·have:=hin p h a b ha hb (by omega) hbn;rw[if_neg (by omega)];exact h
 ·have:=hin (aQ p) h b a hb ha hbn (by omega);rw[if_pos (by omega)];have e:aQ p=⟨p.key,b,a⟩:=(by unfold aQ;rw[ha,hb]);rw[←e];exact h
theorem QA{H:List Txn}(hr:ay H=true){level:Int}{L:List Fct}{tree:List Nod}(h:kW tree):kW (fI H level L tree)∧(fI H level L tree).length=2*L.length+tree.length:=by
 unfold fI;refine⟨fun n hn=> ?_,by simp;omega⟩;rw[List.mem_append,List.mem_append]at hn;rcases hn with(hn|hn)|hn
 ·obtain⟨f,_,rfl⟩:=List.mem_map.1 hn;exact Nat.zero_le _
 ·exact h n hn
 ·obtain⟨k,_,rfl⟩:=List.mem_map.1 hn;exact qH hr _ _
theorem L6{H:List Txn}(hr:ay H=true){E:aj}{o:List Nat}(h:fH H.length E=some o):(aC o).length≤1000000:=by
 have hn:=((aB H).1 hr).1;have:=ig (show bV H.length _ H.length=some o from h);rw[aK];omega
theorem zJ{H:List Txn}(hr:ay H=true){level:Int}{L:List Fct}(hl:L.length<20000):∀(r:List Mk) (tree:List Nod),kW tree→(∀m∈r,kW m.done)→bY r+tree.length≤60000000→
 u7 (eD H level L r tree).2.tree∧(eD H level L r tree).2.order=[]
 |[],tree,h,_,hs=>by
  obtain⟨g1,g2⟩:=QA hr (level:=level) (L:=L) h;exact⟨⟨by show(fI _ _ _ _).length≤_;rw[g2];omega,g1⟩,rfl⟩
 |m::r,tree,h,hm,hs=>by
  rw[nJ]at hs;unfold eD;split
  ·refine zJ hr hl r _ ?_ (fun x hx=>hm x (List.mem_cons_of_mem _ hx)) (by simp;omega);intro n hn;simp only[List.mem_cons,List.mem_append]at hn;rcases hn with rfl|hn|hn
   ·exact Nat.zero_le _
   ·exact hm m (List.mem_cons_self ..) n hn
   ·exact h n hn
  ·exact⟨⟨Nat.zero_le _,by simp[nY]⟩,rfl⟩
theorem IJ{H:List Txn}{level:Int}{L:List Fct}{path:List Mk}(h:∀m∈path,kW m.done)(hs:bY path≤50000000):
 u7 (dJ H level L path).2.tree∧(aC (dJ H level L path).2.order).length≤1000000:=by
 have h0:u7 []:=⟨Nat.zero_le _,by simp⟩;unfold dJ;split
 ·rename_i hg;have hR:=eP.1 hg;have hr:=(fT.1 (dF hR.xQ)).1;dsimp only;split
  ·obtain⟨g1,g2⟩:=zJ hr (level:=level) (show L.length<20000 by have:=hR.len;omega) path.reverse [⟨dw,dI H level (av L++aW path)⟩] (by
    intro n hn;rw[List.mem_singleton]at hn;subst hn;exact qH hr _ _) (fun m hm=>h m (List.mem_reverse.1 hm)) (by rw[vD,List.length_singleton];omega)
   exact⟨g1,by rw[g2];exact Nat.zero_le _⟩
  ·split
   ·refine⟨h0,?_⟩;dsimp only;cases ho:fH H.length (bI H level (av L++aW path))with
    |none=>exact Nat.zero_le _
    |some o=>exact L6 hr ho
   ·exact⟨h0,Nat.zero_le _⟩
 ·exact⟨h0,Nat.zero_le _⟩
def wrA(H:List Txn)(π:List Int)(key:Int)(i:Nat):Bool:=(aI H (π.getD i 0).toNat).writes.contains key
def fV(H:List Txn)(π:List Int)(key:Int):Nat→Int
 |0=> -1
 |k+1=>if wrA H π key k then π.getD k 0 else fV H π key k
theorem wh(H:List Txn)(π:List Int)(key:Int):∀k,(fV H π key k= -1∧∀i,i<k→wrA H π key i=false)∨∃i,i<k∧fV H π key k=π.getD i 0∧wrA H π key i=true∧∀j,i<j→j<k→wrA H π key j=false
 |0=> .inl ⟨rfl,fun i hi=>absurd hi (by omega)⟩
 |k+1=>by
  unfold fV;cases h:wrA H π key k with
  |true=>
   rw[if_pos rfl];exact .inr ⟨k,by omega,rfl,h,fun j h1 h2=>absurd h1 (by omega)⟩
  |false=>
   rw[if_neg (by decide)];rcases wh H π key k with⟨h1,h2⟩|⟨i,h1,h2,h3,h4⟩
   ·refine .inl ⟨h1,fun i hi=> ?_⟩;by_cases e:i=k
    ·subst e;exact h
    ·exact h2 i (by omega)
   ·refine .inr ⟨i,by omega,h2,h3,fun j hj1 hj2=> ?_⟩;by_cases e:j=k
    ·subst e;exact h
    ·exact h4 j hj1 (by omega)
def gI(H:List Txn)(π:List Int)(t:Nat):List It:=(aI H t).reads.map fun r=>⟨r.a,fV H π r.a (π.idxOf (t:Int))⟩
def wW(H:List Txn)(π:List Int):Bool:=(List.range π.length).all fun i=>(List.range i).all fun k=> !(decide (π.getD k 0>π.getD i 0)&&decide ((aI H (π.getD k 0).toNat).dM=(aI H (π.getD i 0).toNat).dM))
def sN(H:List Txn)(π:List Int):Bool:=(List.range H.length).all fun t=>decide ((aI H t).reads=gI H π t)
def zK(H:List Txn)(π:List Int):Bool:=bg π H.length&&sN H π&&wW H π
theorem lS{key:Int}{a b:Nat}:∀{l:List Nat},l.Pairwise (·<·)→a∈l→b∈l→a<b→(⟨key,a,b⟩:Cho)∈dS key l
 |[],_,h,_,_=>by cases h
 |x::r,hp,ha,hb,hab=>by
  rw[List.pairwise_cons]at hp;unfold dS;rw[List.mem_append];rw[List.mem_cons]at ha hb;rcases ha with rfl|ha
  ·rcases hb with rfl|hb
   ·omega
   ·exact .inl (List.mem_map.2 ⟨b,hb,rfl⟩)
  ·rcases hb with rfl|hb
   ·have:=hp.1 a ha;omega
   ·exact .inr (lS hp.2 ha hb hab)
theorem wY{H:List Txn}{key:Int}{a b:Nat}(hab:a<b)(hb:b<H.length)(ha1:key∈(aI H a).writes)(hb1:key∈(aI H b).writes):(⟨key,a,b⟩:Cho)∈bB H:=by
 unfold bB;refine List.mem_flatten.2 ⟨_,List.mem_map.2 ⟨key,?_,rfl⟩,lS (gY H key) (bM.2 ⟨by omega,ha1⟩) (bM.2 ⟨hb,hb1⟩) hab⟩;rw[aJ hb]at hb1;exact l8.2 ⟨_,List.getElem_mem hb,hb1⟩
theorem uL{π:List Int}{n x:Nat}(h:bg π n=true)(hx:x<n):∃hi:π.idxOf (x:Int)<π.length,π[π.idxOf (x:Int)]=(x:Int):=⟨List.idxOf_lt_length_of_mem (mQ h hx),List.getElem_idxOf _⟩
theorem O8{π:List Int}{n x y:Nat}(h:bg π n=true)(hx:x<n)(hy:y<n)(he:π.idxOf (x:Int)=π.idxOf (y:Int)):x=y:=by
 obtain⟨h1,e1⟩:=uL h hx;obtain⟨h2,e2⟩:=uL h hy;have:π[π.idxOf (x:Int)]=π[π.idxOf (y:Int)]:=(by simp only[he]);omega
theorem p8{π:List Int}{n i:Nat}(h:bg π n=true)(hi:i<π.length):π.idxOf π[i]=i:=by
 have h1:π.idxOf π[i]<π.length:=List.idxOf_lt_length_of_mem (List.getElem_mem hi);have h2:π[π.idxOf π[i]]=π[i]:=List.getElem_idxOf _;rcases Nat.lt_trichotomy (π.idxOf π[i]) i with g|g|g
 ·exact absurd h2 (qK h g hi)
 ·exact g
 ·exact absurd h2.symm (qK h g h1)
theorem getD_at{π:List Int}{i:Nat}(hi:i<π.length):π.getD i 0=π[i]:=by rw[List.getD_eq_getElem?_getD,List.getElem?_eq_getElem hi,Option.getD_some]
theorem O9{H:List Txn}{m:List Cho}{o:List Nat}(hr:ay H=true)(hm:Gz (bB H) m)(ht:kS H.length (bI H 0 m) o):zK H (o.map fun(x:Nat)=>(x:Int))=true:=by
 have hp:=ht.perm;have hfull:∀x y,((bE H x y||wwE m x y)||rwE H m x y)=true→bI H 0 m x y=true:=fun x y h=>by
  unfold bI;rw[if_neg (by decide)];exact h
 generalize hπ:(o.map fun(x:Nat)=>(x:Int))=π at hp;have hpos:∀x,x<H.length→π.idxOf (x:Int)=o.idxOf x:=fun x hx=>by
  obtain⟨hi,he⟩:=ht.at_ hx;have hi2:o.idxOf x<π.length:=(by rw[←hπ,List.length_map];exact hi);have:π[o.idxOf x]=(x:Int):=(by subst hπ;rw[List.getElem_map,he]);rw[←this];exact p8 hp hi2
 have hup:∀x y,x<H.length→y<H.length→((bE H x y||wwE m x y)||rwE H m x y)=true→π.idxOf (x:Int)<π.idxOf (y:Int):=fun x y hx hy h=>by
  rw[hpos x hx,hpos y hy];exact ht.up hx hy (hfull x y h)
 have hbd:∀i (hi:i<π.length),∃u:Nat,u<H.length∧π[i]=(u:Int)∧π.idxOf (u:Int)=i:=fun i hi=>by
  have h1:=jU hp hi;refine⟨π[i].toNat,by omega,by omega,?_⟩;rw[show((π[i].toNat:Nat):Int)=π[i] by omega];exact p8 hp hi
 unfold zK;rw[hp,Bool.true_and,Bool.and_eq_true];constructor
 ·unfold sN;rw[List.all_eq_true];intro t ht2;have ht2:=List.mem_range.1 ht2;refine decide_eq_true ?_;unfold gI;refine List.ext_getElem (by simp) fun i h1 h2=> ?_;rw[List.getElem_map];generalize hrr:(aI H t).reads[i]=r;have hmem:r∈(aI H t).reads:=by rw[←hrr];exact List.getElem_mem h1
  suffices hs:r.b=fV H π r.a (π.idxOf (t:Int)) by rw[←hs]
  obtain⟨it,et⟩:=uL hp ht2;have hth:=(((aB H).1 hr).2 t ht2).there r (by rw[←aJ ht2];exact hmem);rcases wh H π r.a (π.idxOf (t:Int))with⟨g1,g2⟩|⟨j,g1,g2,g3,g4⟩
  ·rcases(gQ H t r).1 hth with e|⟨k,hk,e1,e2,e3⟩
   ·rw[e,g1]
   ·exfalso;have hlt:=hup k t hk ht2 (by
     have:bE H k t=true:=by
      unfold bE orE wrE;rw[Bool.or_eq_true];right;rw[Bool.and_eq_true,List.any_eq_true];exact⟨decide_eq_true e2,r,hmem,decide_eq_true e1⟩
     rw[this];rfl)
    have:=g2 _ hlt;obtain⟨ik,ek⟩:=uL hp hk;unfold wrA at this;rw[getD_at ik,ek,Int.toNat_natCast,aJ hk,List.contains_iff_mem.2 e3]at this;cases this
  ·have hjl:j<π.length:=(by omega);obtain⟨u,hu,eu,iu⟩:=hbd j hjl;have hut:u≠t:=fun e=>(by subst e;omega);unfold wrA at g3;rw[getD_at hjl,eu,Int.toNat_natCast,List.contains_iff_mem]at g3;rw[getD_at hjl,eu]at g2;rcases(gQ H t r).1 hth with e|⟨k,hk,e1,e2,e3⟩
   ·exfalso;have hlt:=hup t u ht2 hu (by
     have:l9 H t u=true:=by
      unfold l9;rw[Bool.and_eq_true,List.any_eq_true];exact⟨decide_eq_true hut.symm,r,hmem,by rw[Bool.and_eq_true,List.contains_iff_mem];exact⟨decide_eq_true e,g3⟩⟩
     unfold rwE;rw[this];simp)
    omega
   ·by_cases huk:u=k
    ·subst huk;rw[e1,g2]
    ·exfalso;have hlt:=hup k t hk ht2 (by
      have:bE H k t=true:=by
       unfold bE orE wrE;rw[Bool.or_eq_true];right;rw[Bool.and_eq_true,List.any_eq_true];exact⟨decide_eq_true e2,r,hmem,decide_eq_true e1⟩
      rw[this];rfl)
     obtain⟨ik,ek⟩:=uL hp hk;have hkw:r.a∈(aI H k).writes:=(by rw[aJ hk];exact e3);have hku:π.idxOf (k:Int)<π.idxOf (u:Int):=by
      have hne:π.idxOf (k:Int)≠π.idxOf (u:Int):=fun e=>huk (O8 hp hk hu e).symm;refine Classical.byContradiction fun hno=> ?_;have:=g4 (π.idxOf (k:Int)) (by omega) hlt;unfold wrA at this;rw[getD_at ik,ek,Int.toNat_natCast,List.contains_iff_mem.2 hkw]at this;cases this
     have hch:(⟨r.a,k,u⟩:Cho)∈m∨(⟨r.a,u,k⟩:Cho)∈m:=by
      rcases Nat.lt_or_ge u k with g|g
      ·have:=tZ hm _ (wY g hk g3 hkw);exact this.symm.imp id id
      ·exact tZ hm _ (wY (show k<u by omega) hu hkw g3)
     rcases hch with hch|hch
     ·have:=hup t u ht2 hu (by
       have:rwE H m t u=true:=by
        unfold rwE;rw[Bool.or_eq_true];right;rw[List.any_eq_true];refine⟨_,hch,?_⟩;simp only[Bool.and_eq_true,List.any_eq_true];exact⟨⟨by simp,decide_eq_true hut.symm⟩,r,hmem,by simp,decide_eq_true e1⟩
       rw[this];simp)
      omega
     ·have:=hup u k hu hk (by
       have:wwE m u k=true:=by
        unfold wwE;rw[List.any_eq_true];exact⟨_,hch,by simp⟩
       rw[this];simp)
      omega
 ·unfold wW;rw[List.all_eq_true];intro i hi;have hi:=List.mem_range.1 hi;rw[List.all_eq_true];intro k hk;have hk:=List.mem_range.1 hk;obtain⟨u,hu,eu,iu⟩:=hbd i hi;obtain⟨v,hv,ev,iv⟩:=hbd k (by omega);rw[getD_at hi,getD_at (show k<π.length by omega),eu,ev,Int.toNat_natCast,Int.toNat_natCast,Bool.not_eq_true',Bool.and_eq_false_iff];refine Classical.byContradiction fun hno=> ?_;simp only[decide_eq_false_iff_not,not_or,Classical.not_not]at hno;have:=hup u v hu hv (by
   have:soE H u v=true:=by
    unfold soE;rw[Bool.and_eq_true];exact⟨decide_eq_true (by omega),decide_eq_true hno.2.symm⟩
   unfold bE orE;rw[this];rfl)
  omega
def mkD(s:List Int)(x:Nat):Int:=s.getD x 0
theorem jV{s:List Int}{x:Nat}{v:Int}(hx:x<s.length)(y:Nat):mkD (s.set x v) y=if y=x then v else mkD s y:=by
 unfold mkD;rw[List.getD_eq_getElem?_getD,List.getD_eq_getElem?_getD,List.getElem?_set];by_cases e:x=y
 ·subst e;rw[if_pos rfl,if_pos hx,if_pos rfl];rfl
 ·rw[if_neg e,if_neg (fun h=>e h.symm)]
structure l6(n:Nat)(E:aj)(s:List Int):Prop where
 len:s.length=n
 val:∀x∈s,x=0∨x=1∨x=2
 ord:∃o:List Nat,o.Nodup∧(∀x,x∈o↔x<n∧mkD s x=2)∧∀i (hi:i<o.length) y,y<n→E o[i] y=true→y∈o.take i
theorem l6.start(n:Nat)(E:aj):l6 n E (List.replicate n 0):=by
 refine⟨by simp,fun x hx=> .inl (List.eq_of_mem_replicate hx),[],List.nodup_nil,fun x=> ?_,fun i hi=>by cases hi⟩;constructor
 ·intro h;cases h
 ·rintro⟨h,h2⟩;unfold mkD at h2;rw[List.getD_eq_getElem?_getD,List.getElem?_replicate]at h2;split at h2<;>simp at h2
theorem l6.at_{n:Nat}{E:aj}{s:List Int}(h:l6 n E s){x:Nat}(hx:x<n):mkD s x=s[x]'(by rw[h.len];exact hx):=by
 unfold mkD;rw[List.getD_eq_getElem?_getD,List.getElem?_eq_getElem (by rw[h.len];exact hx),Option.getD_some]
theorem l6.jF{n:Nat}{E:aj}{s:List Int}(h:l6 n E s){x:Nat}(hx:x<n):mkD s x=0∨mkD s x=1∨mkD s x=2:=by
 rw[h.at_ hx];exact h.val _ (List.getElem_mem _)
theorem l6.begin{n:Nat}{E:aj}{s:List Int}(h:l6 n E s){x:Nat}(hx:x<n)(h0:mkD s x=0):l6 n E (s.set x 1):=by
 have hxs:x<s.length:=(by rw[h.len];exact hx);obtain⟨o,h1,h2,h3⟩:=h.ord;refine⟨by rw[List.length_set];exact h.len,fun y hy=> ?_,o,h1,fun y=> ?_,h3⟩
 ·rcases List.mem_or_eq_of_mem_set hy with e|e
  ·exact h.val y e
  ·exact .inr (.inl e)
 ·rw[h2 y,jV hxs];by_cases e:y=x
  ·subst e;rw[if_pos rfl,h0];simp
  ·rw[if_neg e]
theorem l6.done{n:Nat}{E:aj}{s:List Int}(h:l6 n E s){x:Nat}(hx:x<n)(h0:mkD s x=1)(hs:∀y,y<n→E x y=true→mkD s y=2):l6 n E (s.set x 2):=by
 have hxs:x<s.length:=(by rw[h.len];exact hx);obtain⟨o,h1,h2,h3⟩:=h.ord;have hxo:x∉o:=fun hm=>(by have:=((h2 x).1 hm).2;rw[h0]at this;cases this);refine⟨by rw[List.length_set];exact h.len,fun y hy=> ?_,o++[x],?_,fun y=> ?_,fun i hi y hy he=> ?_⟩
 ·rcases List.mem_or_eq_of_mem_set hy with e|e
  ·exact h.val y e
  ·exact .inr (.inr e)
 ·rw[List.nodup_append];refine⟨h1,by simp,fun a ha b hb e=> ?_⟩;rw[List.mem_singleton]at hb;subst e;subst hb;exact hxo ha
 ·rw[List.mem_append,List.mem_singleton,h2 y,jV hxs];by_cases e:y=x
  ·subst e;rw[if_pos rfl];simp[hx]
  ·rw[if_neg e];simp[e]
 ·rw[List.length_append,List.length_singleton]at hi;rcases Nat.lt_or_ge i o.length with hio|hio
  ·rw[List.getElem_append_left hio]at he;rw[List.take_append_of_le_length (by omega)];exact h3 i hio y hy he
  ·have hie:i=o.length:=(by omega);subst hie;rw[List.getElem_append_right (Nat.le_refl _)]at he;simp only[Nat.sub_self,List.getElem_cons_zero]at he;rw[List.take_append_of_le_length (Nat.le_refl _),List.take_length];exact(h2 y).2 ⟨hy,hs y hy he⟩
theorem l6.fine{n:Nat}{E:aj}{s:List Int}(h:l6 n E s)(ha:∀x,x<n→mkD s x=2):gu n E=false:=by
 obtain⟨o,h1,h2,h3⟩:=h.ord;refine DX (fun x=>o.length-o.idxOf x) fun x y hx hy he=> ?_;have hxo:x∈o:=(h2 x).2 ⟨hx,ha x hx⟩;have hi:=List.idxOf_lt_length_of_mem hxo;have hm:=h3 (o.idxOf x) hi y hy (by rw[List.getElem_idxOf];exact he);obtain⟨j,hj,e⟩:=List.getElem_of_mem hm;rw[List.getElem_take]at e;rw[List.length_take]at hj;have hlt:o.idxOf y<o.idxOf x:=by
  have h4:o.idxOf y=j:=(by rw[←e];exact List.Nodup.idxOf_getElem h1 _ _);rw[h4];omega
 show o.length-o.idxOf x<o.length-o.idxOf y;omega
def p9(s:List Int):Nat:=s.count 0
theorem wZ{s:List Int}{x:Nat}(hx:x<s.length)(h0:mkD s x=0):p9 (s.set x 1)+1=p9 s:=by
 unfold p9;have he:s[x]=0:=(by unfold mkD at h0;rw[List.getD_eq_getElem?_getD,List.getElem?_eq_getElem hx,Option.getD_some]at h0;exact h0);rw[List.count_set hx,he];have hp:0<s.count 0:=List.count_pos_iff.2 (by rw[←he];exact List.getElem_mem hx);simp;omega
structure oC(n:Nat)(E:aj)(s:List Int)(s':List Int):Prop where
 inv:l6 n E s'
 grey:∀y,y<n→(mkD s' y=1↔mkD s y=1)
 black:∀y,y<n→mkD s y=2→mkD s' y=2
 zero:p9 s'≤p9 s
theorem oC.refl{n:Nat}{E:aj}{s:List Int}(h:l6 n E s):oC n E s s:=⟨h,fun _ _=>Iff.rfl,fun _ _ h=>h,Nat.le_refl _⟩
theorem oC.trans{n:Nat}{E:aj}{a b c:List Int}(h:oC n E a b)(h':oC n E b c):oC n E a c:=⟨h'.inv,fun y hy=>(h'.grey y hy).trans (h.grey y hy),fun y hy hb=>h'.black y hy (h.black y hy hb),Nat.le_trans h'.zero h.zero⟩
theorem IK{s:List Int}{x:Nat}(hx:x<s.length)(h0:mkD s x=1):p9 (s.set x 2)≤p9 s:=by
 unfold p9;have he:s[x]=1:=(by unfold mkD at h0;rw[List.getD_eq_getElem?_getD,List.getElem?_eq_getElem hx,Option.getD_some]at h0;exact h0);rw[List.count_set hx,he];simp
theorem oC.closed{n:Nat}{E:aj}{s t:List Int}{x:Nat}(hs:l6 n E s)(hx:x<n)(h0:mkD s x=0)(h:oC n E (s.set x 1) t)(hb:∀y,y<n→E x y=true→mkD t y=2):oC n E s (t.set x 2)∧mkD (t.set x 2) x=2:=by
 have hxs:x<s.length:=(by rw[hs.len];exact hx);have hxt:x<t.length:=(by rw[h.inv.len];exact hx);have h1:mkD t x=1:=(h.grey x hx).2 (by rw[jV hxs,if_pos rfl]);refine⟨⟨h.inv.done hx h1 hb,fun y hy=> ?_,fun y hy h2=> ?_,?_⟩,by rw[jV hxt,if_pos rfl]⟩
 ·rw[jV hxt];by_cases e:y=x
  ·subst e;rw[if_pos rfl,h0];simp
  ·rw[if_neg e,h.grey y hy,jV hxs,if_neg e]
 ·rw[jV hxt];by_cases e:y=x
  ·rw[if_pos e]
  ·rw[if_neg e];exact h.black y hy (by rw[jV hxs,if_neg e];exact h2)
 ·refine Nat.le_trans (IK hxt h1) (Nat.le_trans h.zero ?_);have:=wZ hxs h0;omega
def qc(n:Nat)(E:aj)(s:List Int)(x:Nat):Prop:=∀g,g<n→mkD s g=1→uY n E g x=true
theorem qc.hit{n:Nat}{E:aj}{s:List Int}{x:Nat}(h:qc n E s x)(hx:x<n)(h1:mkD s x=1):gu n E=true:=by
 unfold gu;exact List.any_eq_true.2 ⟨x,List.mem_range.2 hx,h x hx h1⟩
theorem qc.next{n:Nat}{E:aj}{s t:List Int}{x y:Nat}(h:qc n E s x)(hl:s.length=n)(hx:x<n)(h2:oC n E (s.set x 1) t)(he:E x y=true):qc n E t y:=by
 intro g hg h1;have h3:=(h2.grey g hg).1 h1;rw[jV (by rw[hl];exact hx)]at h3;by_cases e:g=x
 ·subst e;exact qB he
 ·rw[if_neg e]at h3;exact yH hx (h g hg h3) (qB he)
theorem FH{n:Nat}{E:aj}{s:List Int}{x:Nat}(h:∀g,g<n→mkD s g≠1):qc n E s x:=fun g hg h1=>absurd h1 (h g hg)
structure aT where
 key:Int
 l:List Int
deriving DecidableEq
def jC(l:List Nat):List Int:=l.map fun(x:Nat)=>(x:Int)
def qd(l:List Int):List Int:=l.mergeSort fun x y=>decide (x≤y)
def zL(H:List Txn)(π:List Int)(k:Int):aT:=⟨k,π.filter fun t=>(aI H t.toNat).writes.contains k⟩
def gJ(H:List Txn)(π:List Int):List aT:=if ay H=true∧bg π H.length=true then(cZ H).map (zL H π)else[]
def fO(H:List Txn)(R:List aT):Bool:=ay H&&decide (R.map (·.key)=cZ H)&&R.all fun r=>decide (qd r.l=jC (bG H r.key))
def Vo(H:List Txn)(r:aT):List Cho:=(dS r.key (bG H r.key)).map (ofC r.l)
def uM(H:List Txn)(R:List aT):List Cho:=if fO H R then(R.map (Vo H)).flatten else[]
theorem zM(l:List Int):(qd l).Pairwise (·≤·):=by
 unfold qd;refine(List.pairwise_mergeSort (le:=fun x y=>decide (x≤y)) (fun a b c h1 h2=> ?_) (fun a b=> ?_) l).imp fun h=>by simpa using h
 ·rw[decide_eq_true_eq]at h1 h2⊢;omega
 ·rw[Bool.or_eq_true,decide_eq_true_eq,decide_eq_true_eq];omega
theorem nS(l:List Int):(qd l).Perm l:=List.mergeSort_perm l _
theorem wm:∀{a b:List Int},a.Pairwise (·≤·)→b.Pairwise (·≤·)→a.Perm b→a=b
 |[],b,_,_,h=>by rw[h.nil_eq]
 |x::a,[],_,_,h=>by have:=h.length_eq;simp at this
 |x::a,y::b,ha,hb,h=>by
  rw[List.pairwise_cons]at ha hb;have hx:x∈y::b:=h.mem_iff.1 (by simp);have hy:y∈x::a:=h.mem_iff.2 (by simp);have hxy:x=y:=by
   rw[List.mem_cons]at hx hy;rcases hx with rfl|hx
   ·rfl
   ·rcases hy with rfl|hy
    ·rfl
    ·have h1:=hb.1 x hx;have h2:=ha.1 y hy;omega
  subst hxy;rw[wm ha.2 hb.2 ((List.perm_cons x).1 h)]
theorem Co{l:List Nat}(h:l.Pairwise (·<·)):(jC l).Pairwise (·≤·):=by
 unfold jC;rw[List.pairwise_map];exact h.imp fun hab=>by omega
theorem qg{l:List Nat}{x:Int}:x∈jC l↔∃n∈l,x=(n:Int):=by
 unfold jC;rw[List.mem_map];exact⟨fun⟨n,h,e⟩=>⟨n,h,e.symm⟩,fun⟨n,h,e⟩=>⟨n,h,e.symm⟩⟩
theorem sO{l:List Nat}(h:l.Pairwise (·<·)):(jC l).Nodup:=by
 unfold jC;rw[List.nodup_iff_pairwise_ne,List.pairwise_map];exact h.imp fun hab=>by omega
theorem uN{H:List Txn}{r:aT}:qd r.l=jC (bG H r.key)↔r.l.Perm (jC (bG H r.key)):=by
 constructor
 ·intro h;rw[←h];exact(nS r.l).symm
 ·intro h;exact wm (zM _) (Co (gY H r.key)) ((nS r.l).trans h)
structure OkS(H:List Txn)(R:List aT):Prop where
 right:ay H=true
 keys:R.map (·.key)=cZ H
 perm:∀r∈R,r.l.Perm (jC (bG H r.key))
theorem qL(H:List Txn)(R:List aT):fO H R=true↔OkS H R:=by
 unfold fO;rw[Bool.and_eq_true,Bool.and_eq_true,decide_eq_true_eq,List.all_eq_true];constructor
 ·rintro⟨⟨h1,h2⟩,h3⟩;exact⟨h1,h2,fun r hr=>uN.1 (of_decide_eq_true (h3 r hr))⟩
 ·rintro⟨h1,h2,h3⟩;exact⟨⟨h1,h2⟩,fun r hr=>decide_eq_true (uN.2 (h3 r hr))⟩
theorem OkS.nodup{H:List Txn}{R:List aT}(h:OkS H R){r:aT}(hr:r∈R):r.l.Nodup:=(h.perm r hr).nodup_iff.2 (sO (gY H r.key))
theorem OkS.mem{H:List Txn}{R:List aT}(h:OkS H R){r:aT}(hr:r∈R){x:Int}:x∈r.l↔∃n:Nat,x=n∧n<H.length∧r.key∈(aI H n).writes:=by
 rw[(h.perm r hr).mem_iff,qg];constructor
 ·rintro⟨n,hn,e⟩;obtain⟨h1,h2⟩:=bM.1 hn;exact⟨n,e,h1,h2⟩
 ·rintro⟨n,e,h1,h2⟩;exact⟨n,bM.2 ⟨h1,h2⟩,e⟩
theorem OkS.nat{H:List Txn}{R:List aT}(h:OkS H R){r:aT}(hr:r∈R){n:Nat}(hn:n<H.length):((n:Nat):Int)∈r.l↔r.key∈(aI H n).writes:=by
 rw[h.mem hr];constructor
 ·rintro⟨m,e,h1,h2⟩;obtain rfl:n=m:=(by omega);exact h2
 ·intro h2;exact⟨n,rfl,hn,h2⟩
theorem OkS.has{H:List Txn}{R:List aT}(h:OkS H R){k:Int}{n:Nat}(hn:n<H.length)(hk:k∈(aI H n).writes):∃r∈R,r.key=k:=by
 have:k∈cZ H:=(by rw[aJ hn]at hk;exact l8.2 ⟨_,List.getElem_mem hn,hk⟩);rw[←h.keys]at this;obtain⟨r,hr,e⟩:=List.mem_map.1 this;exact⟨r,hr,e⟩
theorem OkS.one{H:List Txn}{R:List aT}(h:OkS H R){r r':aT}(hr:r∈R)(hr':r'∈R)(e:r.key=r'.key):r=r':=by
 have hp:=mW H;rw[←h.keys,List.pairwise_map]at hp;obtain⟨i,hi,rfl⟩:=List.getElem_of_mem hr;obtain⟨j,hj,rfl⟩:=List.getElem_of_mem hr';rw[List.pairwise_iff_getElem]at hp;rcases Nat.lt_trichotomy i j with g|g|g
 ·have:=hp i j hi hj g;omega
 ·subst g;rfl
 ·have:=hp j i hj hi g;omega
theorem OkS.key{H:List Txn}{R:List aT}(h:OkS H R){r:aT}(hr:r∈R):0≤r.key∧r.key<16:=by
 have:r.key∈cZ H:=(by rw[←h.keys];exact List.mem_map_of_mem hr);obtain⟨t,ht,hk⟩:=l8.1 this;obtain⟨i,hi,rfl⟩:=List.getElem_of_mem ht;exact(((aB H).1 h.right).2 i hi).MJ _ hk
theorem eU{l:List Int}{x:Int}(h:x∈l):dQ l x=(l.idxOf x:Int):=by
 have hi:=List.idxOf_lt_length_of_mem h;refine y7 hi (List.getElem_idxOf _) fun j hj hlt e=> ?_;have:l.idxOf x≤j:=by
  rw[←e];refine Nat.le_of_not_lt fun hgt=> ?_;have:=List.not_of_lt_findIdx (p:=(·==l[j])) (xs:=l) (i:=j) (by simpa[List.idxOf]using hgt);simp at this
 omega
def dx(R:List aT)(k:Int)(t:Int):Int:=match R.find? fun r=>decide (r.key=k)with
 |some r=>if r.l.contains t then(r.l.idxOf t:Int)+1 else 0
 |none=>0
def eG(R:List aT)(k a b:Int):Bool:=decide (0<dx R k b)&&(decide (a<0)||(decide (0<dx R k a)&&decide (dx R k a<dx R k b)))
def Ba(H:List Txn)(R:List aT)(x y:Nat):Bool:=soE H x y||rQ H x y||(aI H x).writes.any fun k=>eG R k (x:Int) (y:Int)
def jH(H:List Txn)(R:List aT)(x y:Nat):Bool:=decide (x≠y)&&(aI H x).reads.any fun r=>eG R r.a r.b (y:Int)
def uO(H:List Txn)(R:List aT)(x y:Nat):List Nat:=if Ba H R x y then y::(List.range H.length).filter (jH H R y)else[]
def uP(H:List Txn)(R:List aT)(x:Nat):List Nat:=((List.range H.length).map (uO H R x)).flatten
def gK(H:List Txn)(R:List aT):aj:=fun x y=>(uP H R x).contains y
def iZ(H:List Txn)(R:List aT):Bool:=fO H R&& !gu H.length (gK H R)
theorem Cq{H:List Txn}{R:List aT}(h:OkS H R){r:aT}(hr:r∈R)(t:Int):dx R r.key t=if r.l.contains t then(r.l.idxOf t:Int)+1 else 0:=by
 unfold dx;cases hf:R.find? fun x=>decide (x.key=r.key)with
 |none=>have:=List.find?_eq_none.1 hf r hr;simp at this
 |some x=>
  have h1:=List.find?_some hf;have h2:=List.mem_of_find?_eq_some hf;rw[decide_eq_true_eq]at h1;rw[h.one h2 hr h1]
theorem fP{H:List Txn}{R:List aT}(h:OkS H R){k:Int}{n:Nat}(hn:n<H.length):0<dx R k (n:Int)↔k∈(aI H n).writes:=by
 constructor
 ·intro hp;unfold dx at hp;cases hf:R.find? fun x=>decide (x.key=k)with
  |none=>rw[hf]at hp;exact absurd hp (Int.lt_irrefl 0)
  |some r=>
   rw[hf]at hp;have h1:=List.find?_some hf;rw[decide_eq_true_eq]at h1;subst h1;have h2:=List.mem_of_find?_eq_some hf;refine(h.nat h2 hn).1 ?_;by_cases hc:r.l.contains (n:Int)=true
   ·exact List.contains_iff_mem.1 hc
   ·rw[Bool.not_eq_true]at hc;simp only[hc]at hp;exact absurd hp (Int.lt_irrefl 0)
 ·intro hk;obtain⟨r,hr,rfl⟩:=h.has hn hk;rw[Cq h hr,if_pos (List.contains_iff_mem.2 ((h.nat hr hn).2 hk))];omega
theorem FI{H:List Txn}{R:List aT}(h:OkS H R){c:Cho}:c∈uM H R↔∃r∈R,∃p∈dS r.key (bG H r.key),c=ofC r.l p:=by
 unfold uM;rw[if_pos ((qL H R).2 h),List.mem_flatten];constructor
 ·rintro⟨l,hl,hc⟩;obtain⟨r,hr,rfl⟩:=List.mem_map.1 hl;obtain⟨p,hp,e⟩:=List.mem_map.1 hc;exact⟨r,hr,p,hp,e.symm⟩
 ·rintro⟨r,hr,p,hp,rfl⟩;exact⟨_,List.mem_map_of_mem hr,List.mem_map_of_mem hp⟩
theorem uQ{H:List Txn}{R:List aT}(h:OkS H R){k:Int}{a b:Nat}(ha:a<H.length)(hb:b<H.length):
 (⟨k,a,b⟩:Cho)∈uM H R↔k∈(aI H a).writes∧k∈(aI H b).writes∧dx R k a<dx R k b:=by
 rw[FI h];have hpl:∀{r:aT},r∈R→∀{n:Nat},n<H.length→r.key∈(aI H n).writes→dx R r.key (n:Int)=(r.l.idxOf (n:Int):Int)+1∧dQ r.l (n:Int)=(r.l.idxOf (n:Int):Int):=fun{r} hr {n} hn hk=>by
  have hm:=(h.nat hr hn).2 hk;exact⟨by rw[Cq h hr,if_pos (List.contains_iff_mem.2 hm)],eU hm⟩
 have hne:∀{r:aT},r∈R→∀{m n:Nat},m<H.length→n<H.length→r.key∈(aI H m).writes→r.key∈(aI H n).writes→m≠n→r.l.idxOf (m:Int)≠r.l.idxOf (n:Int):=fun{r} hr {m n} hm hn hkm hkn hmn e=>by
  have h1:=(h.nat hr hm).2 hkm;have h2:=(h.nat hr hn).2 hkn;have e1:=List.getElem_idxOf (List.idxOf_lt_length_of_mem h1);have e2:=List.getElem_idxOf (List.idxOf_lt_length_of_mem h2);have:r.l[r.l.idxOf (m:Int)]'(List.idxOf_lt_length_of_mem h1)=r.l[r.l.idxOf (n:Int)]'(List.idxOf_lt_length_of_mem h2):=(by simp only[e]);omega
 constructor
 ·rintro⟨r,hr,p,hp,e⟩;obtain⟨hpk,x,y,hx,hy,hxm,hym⟩:=jZ hp;have hlt:=uW (gY H r.key) hp;obtain⟨hx1,hx2⟩:=bM.1 hxm;obtain⟨hy1,hy2⟩:=bM.1 hym;obtain⟨px,ix⟩:=hpl hr hx1 hx2;obtain⟨py,iy⟩:=hpl hr hy1 hy2;have hnd:=hne hr hx1 hy1 hx2 hy2 (by omega);unfold ofC at e;rw[hx,hy,ix,iy]at e;split at e
  ·next hgt=>
   injection e with e1 e2 e3
   obtain rfl:a=y:=(by omega);obtain rfl:b=x:=(by omega);rw[hpk]at e1;subst e1;exact⟨hy2,hx2,by omega⟩
  ·next hgt=>
   subst e;obtain rfl:a=x:=(by have:(a:Int)=x:=hx;omega);obtain rfl:b=y:=(by have:(b:Int)=y:=hy;omega);have hk:k=r.key:=hpk;subst hk;exact⟨hx2,hy2,by omega⟩
 ·rintro⟨hka,hkb,hlt⟩;obtain⟨r,hr,rfl⟩:=h.has ha hka;obtain⟨pa,ia⟩:=hpl hr ha hka;obtain⟨pb,ib⟩:=hpl hr hb hkb;have hab:a≠b:=(by rintro rfl;omega);rcases Nat.lt_or_gt_of_ne hab with g|g
  ·refine⟨r,hr,_,lS (gY H r.key) (bM.2 ⟨ha,hka⟩) (bM.2 ⟨hb,hkb⟩) g,?_⟩;unfold ofC;rw[if_neg];show¬(dQ r.l (a:Int)>dQ r.l (b:Int));omega
  ·refine⟨r,hr,_,lS (gY H r.key) (bM.2 ⟨hb,hkb⟩) (bM.2 ⟨ha,hka⟩) g,?_⟩;unfold ofC;rw[if_pos];show dQ r.l (b:Int)>dQ r.l (a:Int);omega
theorem Pb{H:List Txn}{R:List aT}(h:OkS H R){c:Cho}(hc:c∈uM H R):∃a b:Nat,c.a=a∧c.b=b∧a<H.length∧b<H.length:=by
 obtain⟨r,hr,p,hp,rfl⟩:=(FI h).1 hc;obtain⟨hpk,x,y,hx,hy,hxm,hym⟩:=jZ hp;obtain⟨hx1,-⟩:=bM.1 hxm;obtain⟨hy1,-⟩:=bM.1 hym;unfold ofC;split
 ·exact⟨y,x,hy,hx,hy1,hx1⟩
 ·exact⟨x,y,hx,hy,hx1,hy1⟩
theorem DC{H:List Txn}{R:List aT}(h:OkS H R){x y:Nat}(hx:x<H.length)(hy:y<H.length):Ba H R x y=orE (bE H) (wwE (uM H R)) x y:=by
 have hr:=(aB H).1 h.right;rw[Bool.eq_iff_iff];unfold Ba bE orE;rw[Bool.or_eq_true,Bool.or_eq_true,Bool.or_eq_true,Bool.or_eq_true];refine or_congr (or_congr Iff.rfl ?_) ?_
 ·unfold rQ wrE;rw[Bool.and_eq_true,decide_eq_true_eq];refine⟨fun hm=>⟨?_,hm⟩,And.right⟩;rintro rfl;rw[List.any_eq_true]at hm;obtain⟨r,hr1,hr2⟩:=hm;have hr2:=of_decide_eq_true hr2;rw[aJ hx]at hr1;have ht:=(hr.2 x hx).there r hr1;rcases(gQ H x r).1 ht with e|⟨k,hk,e,hne,-⟩
  ·omega
  ·omega
 ·unfold wwE;rw[List.any_eq_true,List.any_eq_true];constructor
  ·rintro⟨k,hk,ha⟩;unfold eG at ha;rw[Bool.and_eq_true,Bool.or_eq_true,Bool.and_eq_true]at ha;simp only[decide_eq_true_eq]at ha;obtain⟨h1,h2⟩:=ha;have h3:dx R k (x:Int)<dx R k (y:Int):=(by rcases h2 with h2|h2<;>omega);exact⟨⟨k,x,y⟩,(uQ h hx hy).2 ⟨hk,(fP h hy).1 h1,h3⟩,by simp⟩
  ·rintro⟨⟨k,a,b⟩,hc,hab⟩;rw[Bool.and_eq_true,decide_eq_true_eq,decide_eq_true_eq]at hab;obtain⟨rfl,rfl⟩:=hab;obtain⟨h1,h2,h3⟩:=(uQ h hx hy).1 hc;have h4:=(fP h hx).2 h1;have h5:=(fP h hy).2 h2;refine⟨k,h1,?_⟩;unfold eG;rw[Bool.and_eq_true,Bool.or_eq_true,Bool.and_eq_true];simp only[decide_eq_true_eq];exact⟨h5,.inr ⟨h4,h3⟩⟩
theorem JH{H:List Txn}{R:List aT}(h:OkS H R){x y:Nat}(hx:x<H.length)(hy:y<H.length):jH H R x y=rwE H (uM H R) x y:=by
 have hr:=(aB H).1 h.right;rw[Bool.eq_iff_iff];unfold jH rwE l9;rw[Bool.and_eq_true,Bool.or_eq_true,Bool.and_eq_true,List.any_eq_true,List.any_eq_true,List.any_eq_true,decide_eq_true_eq];have Sj:∀r∈(aI H x).reads,r.b= -1∨∃k,∃hk:k<H.length,r.b=(k:Int)∧k≠x∧r.a∈H[k].writes:=fun r hr1=>by
  rw[aJ hx]at hr1;exact(gQ H x r).1 ((hr.2 x hx).there r hr1)
 constructor
 ·rintro⟨hne,r,hr1,ha⟩;unfold eG at ha;rw[Bool.and_eq_true,Bool.or_eq_true,Bool.and_eq_true]at ha;simp only[decide_eq_true_eq]at ha;obtain⟨h1,h2⟩:=ha;have hky:=(fP h hy).1 h1;rcases Sj r hr1 with e|⟨k,hk,e,hkx,hkw⟩
  ·refine .inl ⟨hne,r,hr1,?_⟩;rw[Bool.and_eq_true,decide_eq_true_eq,List.contains_iff_mem];exact⟨e,hky⟩
  ·have h3:0<dx R r.a r.b∧dx R r.a r.b<dx R r.a (y:Int):=by
    rcases h2 with h2|h2
    ·omega
    ·exact h2
   rw[e]at h3;refine .inr ⟨⟨r.a,k,y⟩,(uQ h hk hy).2 ⟨(fP h hk).1 h3.1,hky,h3.2⟩,?_⟩;rw[Bool.and_eq_true,Bool.and_eq_true,List.any_eq_true];simp only[decide_eq_true_eq];refine⟨⟨trivial,hne⟩,r,hr1,?_⟩;rw[Bool.and_eq_true,decide_eq_true_eq,decide_eq_true_eq];exact⟨rfl,e⟩
 ·rintro(⟨hne,r,hr1,h2⟩|⟨c,hc,h2⟩)
  ·rw[Bool.and_eq_true,decide_eq_true_eq,List.contains_iff_mem]at h2;refine⟨hne,r,hr1,?_⟩;unfold eG;rw[Bool.and_eq_true,Bool.or_eq_true];simp only[decide_eq_true_eq];exact⟨(fP h hy).2 h2.2,.inl (by omega)⟩
  ·rw[Bool.and_eq_true,Bool.and_eq_true,List.any_eq_true]at h2;simp only[decide_eq_true_eq]at h2;obtain⟨⟨hb,hne⟩,r,hr1,h3⟩:=h2;rw[Bool.and_eq_true,decide_eq_true_eq,decide_eq_true_eq]at h3;obtain⟨a,b,e1,e2,ha,hb'⟩:=Pb h hc;obtain⟨k,ca,cb⟩:=c;simp only at hb h3 e1 e2;subst e1;subst e2;obtain rfl:b=y:=(by omega);obtain⟨g1,g2,g3⟩:=(uQ h ha hb').1 hc;refine⟨hne,r,hr1,?_⟩;unfold eG;rw[h3.1,h3.2,Bool.and_eq_true,Bool.or_eq_true,Bool.and_eq_true];simp only[decide_eq_true_eq];exact⟨(fP h hb').2 g2,.inr ⟨(fP h ha).2 g1,g3⟩⟩
theorem Cr{H:List Txn}{R:List aT}{x z:Nat}:gK H R x z=true↔z<H.length∧(Ba H R x z=true∨∃y,y<H.length∧Ba H R x y=true∧jH H R y z=true):=by
 unfold gK uP;rw[List.contains_iff_mem,List.mem_flatten];constructor
 ·rintro⟨l,hl,hz⟩;obtain⟨y,hy,rfl⟩:=List.mem_map.1 hl;have hy:=List.mem_range.1 hy;unfold uO at hz;split at hz
  ·next hd=>
   rw[List.mem_cons]at hz;rcases hz with rfl|hz
   ·exact⟨hy,.inl hd⟩
   ·obtain⟨h1,h2⟩:=List.mem_filter.1 hz;exact⟨List.mem_range.1 h1,.inr ⟨y,hy,hd,h2⟩⟩
  ·cases hz
 ·rintro⟨hz,hd|⟨y,hy,hd,ho⟩⟩
  ·refine⟨_,List.mem_map.2 ⟨z,List.mem_range.2 hz,rfl⟩,?_⟩;unfold uO;rw[if_pos hd];simp
  ·refine⟨_,List.mem_map.2 ⟨y,List.mem_range.2 hy,rfl⟩,?_⟩;unfold uO;rw[if_pos hd,List.mem_cons];exact .inr (List.mem_filter.2 ⟨List.mem_range.2 hz,ho⟩)
theorem Pf{H:List Txn}{R:List aT}(h:OkS H R){x z:Nat}(hx:x<H.length)(hz:z<H.length):gK H R x z=bI H 1 (uM H R) x z:=by
 have hf:bI H 1 (uM H R) x z=(orE (bE H) (wwE (uM H R)) x z||iT H.length (orE (bE H) (wwE (uM H R))) (rwE H (uM H R)) x z):=rfl;rw[Bool.eq_iff_iff,Cr,hf,Bool.or_eq_true,←DC h hx hz];unfold iT;rw[List.any_eq_true];constructor
 ·rintro⟨_,hd|⟨y,hy,hd,ho⟩⟩
  ·exact .inl hd
  ·exact .inr ⟨y,List.mem_range.2 hy,by rw[Bool.and_eq_true,←DC h hx hy,←JH h hy hz];exact⟨hd,ho⟩⟩
 ·rintro(hd|⟨y,hy,hd⟩)
  ·exact⟨hz,.inl hd⟩
  ·have hy:=List.mem_range.1 hy;rw[Bool.and_eq_true,←DC h hx hy,←JH h hy hz]at hd;exact⟨hz,.inr ⟨y,hy,hd.1,hd.2⟩⟩
theorem zN{n:Nat}{E F:aj}(h:∀x y,x<n→y<n→E x y=F x y):∀(l:List Nat) (x y:Nat),x<n→y<n→(∀a∈l,a<n)→iF E x l y=iF F x l y
 |[],x,y,hx,hy,_=>h x y hx hy
 |a::l,x,y,hx,hy,hl=>by
  show(E x a&&iF E a l y)=(F x a&&iF F a l y);rw[h x a hx (hl a (by simp)),zN h l a y (hl a (by simp)) hy fun b hb=>hl b (by simp[hb])]
theorem JI{n:Nat}{E F:aj}(h:∀x y,x<n→y<n→E x y=F x y)(hc:gu n E=true):gu n F=true:=by
 unfold gu at hc⊢;rw[List.any_eq_true]at hc⊢;obtain⟨x,hx,hc⟩:=hc;have hxn:=List.mem_range.1 hx;obtain⟨l,hl,hw⟩:=fQ n x x hc;rw[zN h l x x hxn hxn hl]at hw;exact⟨x,hx,jW n l.length l x x (Nat.le_refl _) hl hw⟩
theorem L8{n:Nat}{E F:aj}(h:∀x y,x<n→y<n→E x y=F x y):gu n E=gu n F:=by
 rw[Bool.eq_iff_iff];exact⟨JI h,JI fun x y hx hy=>(h x y hx hy).symm⟩
theorem FJ(H:List Txn)(R:List aT):iZ H R=(fO H R&&tY H 1 (uM H R)):=by
 unfold iZ tY;cases hr:fO H R with
 |false=>rfl
 |true=>rw[Bool.true_and,Bool.true_and,L8 fun x y hx hy=>Pf ((qL H R).1 hr) hx hy]
end Go.Proofs.YtfhnamomiaekdaaGreatDoor
