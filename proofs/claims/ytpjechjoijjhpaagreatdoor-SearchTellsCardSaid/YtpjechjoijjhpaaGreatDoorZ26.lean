/-
  Walks: layer 31: the laws' example.
-/
import Derived.Test.YtpjechjoijjhpaaGreatDoorProg
import Derived.Test.YtpjechjoijjhpaaGreatDoorRows
import Derived.Test.YtpjechjoijjhpaaGreatDoorCards
import Derived.Test.YtpjechjoijjhpaaGreatDoorTie
import Derived.ProofKit
import Derived.OpenShut
import Derived.LaidMore
import Derived.Lay
import Derived.SevenTiedAt
import Derived.Stop.Joined
import Derived.HandedShaped
import Derived.SliceStrings
import Derived.Deep.Slices
import Derived.Below
import Derived.Carry
import Derived.Lib.LaidU8
import Derived.Deep.Fields
import Derived.ChangeSame
import Derived.Lib.SmallJoins
import Derived.Deep.Strs
import Derived.JoinedOf
import Derived.Test.YtpjechjoijjhpaaGreatDoorZ25
import Derived.Test.YtpjechjoijjhpaaGreatDoorZ20
import Derived.Test.YtpjechjoijjhpaaGreatDoorZ09
import Derived.Test.YtpjechjoijjhpaaGreatDoorZ01
import Derived.Test.YtpjechjoijjhpaaGreatDoorZ05
import Derived.Test.YtpjechjoijjhpaaGreatDoorZ03
import Derived.Test.YtpjechjoijjhpaaGreatDoorZ02
import Derived.Test.YtpjechjoijjhpaaGreatDoorZ07
set_option linter.unusedVariables false
set_option linter.unusedSimpArgs false
namespace Go.Proofs.YtpjechjoijjhpaaGreatDoor
open Go.RowKit Go.Inq
set_option maxHeartbeats 8000000
attribute [local go_sem↓] Go.wp_at_zero Go.wp_at_succ
def exK:List Txn:=[⟨0,[2],[⟨2,-1⟩]⟩,⟨1,[2],[⟨2,-1⟩]⟩]
theorem wC:dD exK=[⟨2,0,1⟩]:=by
 unfold dD;rw[yJ (by decide)]
 kernel_rfl
def Bv:List Mk:=[⟨⟨2,0,1⟩,false,[]⟩]
def SC:List Nod:=[⟨⟨0,0,0⟩,[0]⟩]
def uR:List Mk:=[⟨⟨2,0,1⟩,true,SC⟩]
theorem SE:dO exK 1 [] []=(Bv,⟨0,[],[],[]⟩):=by
 unfold dO mG;rw[wC]
 kernel_rfl
theorem SF:dO exK 1 [] Bv=(uR,⟨0,[],[],[]⟩):=by
 unfold dO mG;rw[wC]
 kernel_rfl
theorem SG:dO exK 1 [] uR=([],⟨2,[],[⟨⟨2,0,1⟩,[]⟩,⟨⟨0,0,0⟩,[0]⟩,⟨⟨0,0,0⟩,[1]⟩],[]⟩):=by
 unfold dO mG;rw[wC]
 kernel_rfl
theorem SH:dF exK 1 [] uR=true:=by kernel_rfl
theorem SI:dF exK 2 [] uR=false:=by kernel_rfl
theorem IK{W:World}{K:Nat→Prop}{g:Nat}{t0 t1:Txn}{vw0 vr0 vw1 vr1:Value}(h:Blk W g 60 #[.int .i64 t0.bL,vw0,vr0,.int .i64 t1.bL,vw1,vr1])(h0:aM W K vw0 t0.writes)(h1:ItS W K vr0 t0.reads)(h2:aM W K vw1 t1.writes)(h3:ItS W K vr1 t1.reads)(hK:K g):
 aC W K (.slice (some ⟨g,0,none⟩) 2 2) [t0,t1]:=
 J2 (l:=[t0,t1]) [[.int .i64 t0.bL,vw0,vr0],[.int .i64 t1.bL,vw1,vr1]] h rfl (fun i cs x q1 q2=>by
  match i with
  |0=>simp at q1 q2;subst q1 q2;exact⟨rfl,_,_,rfl,h0,h1⟩
  |1=>simp at q1 q2;subst q1 q2;exact⟨rfl,_,_,rfl,h2,h3⟩
  |i+2=>simp at q1) hK (by simp)
theorem SK:qU Bv:=⟨by decide,fun m hm=>by simp[Bv]at hm;subst hm;intro n hn;simp at hn⟩
theorem IL:qU uR:=⟨by decide,fun m hm=>by simp[uR]at hm;subst hm;intro n hn;simp[SC]at hn;subst hn;simp⟩
theorem O1:qU []:=⟨by decide,fun m hm=>by simp at hm⟩
theorem qA:tH []:=⟨by simp,fun m hm=>by simp at hm⟩
theorem bA.Uy{w:World}{base:Nat}{v:Value}{l:List Int}(h:bA w base v l):∃A n c,v= .slice A n c:=by
 obtain⟨A,c,e⟩:=bA.form h;exact⟨A,_,c,e⟩
theorem DT.v{w w':World}{r:List Mk×Say}{e:Ending}(h:DT w r e w'):∃Ap cp Ao no co At ct Af nf cf,e= .returned (.tuple #[.slice Ap r.1.length cp,.agg #[.int .i64 r.2.said,.slice Ao no co,.slice At r.2.tree.length ct,.slice Af nf cf]])∧MkO w' 0 (.slice Ap r.1.length cp) r.1∧Below w.heap.size w w':=by
 obtain⟨vp,vo,rfl,oM,⟨so,st,sf,rfl,s1,s2,s3⟩,hb⟩:=h;obtain⟨Ao,no,co,rfl⟩:=bA.Uy s1;obtain⟨At,ct,rfl⟩:=aJ.form s2;obtain⟨Af,cf,rfl⟩:=aJ.form s3;obtain⟨Ap,cp,rfl⟩:=aJ.form oM;exact⟨Ap,cp,Ao,no,co,At,ct,Af,_,cf,rfl,MkO.base oM (Nat.zero_le _),hb⟩
def wD(W:World)(g:Nat)(sd:Int)(nt:Nat):Prop:=∃v1 v2 v3 v4,Blk W g 38 #[.int .i64 sd,v1,.slice v2 nt v3,v4]
theorem wD.below{W W':World}{g:Nat}{sd:Int}{nt:Nat}(h:wD W g sd nt)(hb:Below W.heap.size W W'):wD W' g sd nt:=by
 obtain⟨v1,v2,v3,v4,h⟩:=h;exact⟨v1,v2,v3,v4,h.below hb h.lt⟩
set_option maxRecDepth 100000 in
theorem FT(w:World)(hTB:jl w):Calls Tryz.prog 4 #[] w fun e w'=>e= .returned (.bool true)∧Below w.heap.size w w':=by
 have hE1:=hide SE;have hE2:=hide SF;have hE3:=hide SG;have hE4:=hide SH;have hE5:=hide SI;obtain⟨W1,hW1⟩:∃W1,w.alloc (.cells #[.int .i64 2,.int .i64 (-1)] 57)=W1:=⟨_,rfl⟩;obtain⟨W2,hW2⟩:∃W2,W1.alloc (.cells #[.int .i64 2] 3)=W2:=⟨_,rfl⟩;obtain⟨W3,hW3⟩:∃W3,W2.alloc (.cells #[.int .i64 2] 3)=W3:=⟨_,rfl⟩;obtain⟨W4,hW4⟩:∃W4,W3.alloc (.cells #[.int .i64 0,.slice (some ⟨W1.heap.size,0,none⟩) 1 1,.slice (some ⟨w.heap.size,0,none⟩) 1 1,.int .i64 1,.slice (some ⟨W2.heap.size,0,none⟩) 1 1,.slice (some ⟨w.heap.size,0,none⟩) 1 1] 60)=W4:=⟨_,rfl⟩;obtain⟨W5,hW5⟩:∃W5,W4.alloc (.cells #[.slice (some ⟨W3.heap.size,0,none⟩) 2 2] 24)=W5:=⟨_,rfl⟩;have s1:=aB hW1;have s2:=aB hW2;have s3:=aB hW3;have s4:=aB hW4;have k1:=((((Blk.newEq hW1).av hW2).av hW3).av hW4).av hW5;have k2:=(((Blk.newEq hW2).av hW3).av hW4).av hW5;have k3:=((Blk.newEq hW3).av hW4).av hW5;have k4:=(Blk.newEq hW4).av hW5;have k6:=Blk.newEq hW5;have b6:=ah (ah (ah (ah (ah (Below.refl w.heap.size w) hW1 (Nat.le_refl _)) hW2 (by omega)) hW3 (by omega)) hW4 (by omega)) hW5 (by omega);have hT:aC W5 (Old W5) (.slice (some ⟨W3.heap.size,0,none⟩) 2 2) exK:=
  IK (t0:=⟨0,[2],[⟨2,-1⟩]⟩) (t1:=⟨1,[2],[⟨2,-1⟩]⟩) k4 (aM.bP (l:=[2]) k2 k2.lt) (SlR.one k1 rfl rfl k1.lt) (aM.bP (l:=[2]) k3 k3.lt) (SlR.one k1 rfl rfl k1.lt) k4.lt
 replace hT:=hide hT;clear k1 k2 k3 k4 s1 s2 s3 s4;go_enter Tryz.func4,Tryz.ntmps4;go_upto_region 3 with fail;clear hW1 hW2 hW3 hW4 hW5;have hc:=nZ (some ⟨W3.heap.size,0,none⟩) 2 exK 1 none 0 [] none 0 [] W5 hT.out ⟨by decide,by decide⟩ (bM.nil _ _ _ _) qA (MkS.nil _ _ _ _) O1 (hTB.below b6);rw[hE1.out]at hc;replace hc:=hide hc;have c0:=Blk.n0 k6;clear hE1;go_wp2_with fail;refine Calls.mono (by exact hc.out) ?_;clear hc c0;rintro e Z ho;obtain⟨Apa,cpa,Ao,no,co,At,ct,Af,nf,cf,rfl,oMa,b4⟩:=ho.v;clear ho;dsimp only[Bv,uR,List.length_cons,List.length_nil,Nat.zero_add,Nat.reduceAdd]at oMa⊢;replace oMa:=hide oMa;go_upto_region 4 with fail;obtain⟨X,hX⟩:∃X,Z.alloc (.cells #[.int .i64 0,.slice Ao no co,.slice At 0 ct,.slice Af nf cf] 38)=X:=⟨_,rfl⟩;rw[hX];have hbX:=hide (b4.trans ((ah (Below.refl Z.heap.size Z) hX (Nat.le_refl _)).mono b4.size));replace oMa:=hide (MkO.below oMa.out (ah (Below.refl Z.heap.size Z) hX (Nat.le_refl _)));have kOa:wD X Z.heap.size 0 0:=⟨_,_,_,_,Blk.newEq hX⟩;replace kOa:=hide kOa;clear hX b4;generalize Z.heap.size=z1 at*;clear Z;replace k6:=k6.below hbX.out k6.lt;replace hT:=hide (hT.out.below hbX.out);replace b6:=b6.trans (hbX.out.mono b6.size);clear hbX;generalize W4.heap.size=gh at*;generalize W3.heap.size=gt at*;have hc:=nZ (some ⟨gt,0,none⟩) 2 exK 1 none 0 [] Apa cpa Bv X hT.out ⟨by decide,by decide⟩ (bM.nil _ _ _ _) qA (MkO.s oMa.out) SK (hTB.below b6);rw[hE2.out]at hc;replace hc:=hide hc;have c0:=Blk.n0 k6;clear hE2;go_wp2_with fail;refine Calls.mono (by exact hc.out) ?_;clear hc c0;rintro e Z ho;obtain⟨Apb,cpb,Ao,no,co,At,ct,Af,nf,cf,rfl,oMb,b4⟩:=ho.v;clear ho;dsimp only[Bv,uR,List.length_cons,List.length_nil,Nat.zero_add,Nat.reduceAdd]at oMb⊢;replace oMb:=hide oMb;go_upto_region 5 with fail;obtain⟨Y,hX⟩:∃Y,Z.alloc (.cells #[.int .i64 0,.slice Ao no co,.slice At 0 ct,.slice Af nf cf] 38)=Y:=⟨_,rfl⟩;rw[hX];have hbX:=hide (b4.trans ((ah (Below.refl Z.heap.size Z) hX (Nat.le_refl _)).mono b4.size));replace oMb:=hide (MkO.below oMb.out (ah (Below.refl Z.heap.size Z) hX (Nat.le_refl _)));have kOb:wD Y Z.heap.size 0 0:=⟨_,_,_,_,Blk.newEq hX⟩;replace kOb:=hide kOb;clear hX b4;generalize Z.heap.size=z2 at*;clear Z;replace k6:=k6.below hbX.out k6.lt;replace hT:=hide (hT.out.below hbX.out);replace oMa:=hide (oMa.out.below hbX.out);replace kOa:=hide (kOa.out.below hbX.out);replace b6:=b6.trans (hbX.out.mono b6.size);clear hbX;have hc:=nZ (some ⟨gt,0,none⟩) 2 exK 1 none 0 [] Apb cpb uR Y hT.out ⟨by decide,by decide⟩ (bM.nil _ _ _ _) qA (MkO.s oMb.out) IL (hTB.below b6);rw[hE3.out]at hc;replace hc:=hide hc;have c0:=Blk.n0 k6;clear hE3;go_wp2_with fail;refine Calls.mono (by exact hc.out) ?_;clear hc c0;rintro e Z ho;obtain⟨Apc,cpc,Ao,no,co,At,ct,Af,nf,cf,rfl,oMc,b4⟩:=ho.v;clear ho;dsimp only[Bv,uR,List.length_cons,List.length_nil,Nat.zero_add,Nat.reduceAdd]at oMc⊢;replace oMc:=hide oMc;go_upto_region 6 with fail;obtain⟨V,hX⟩:∃V,Z.alloc (.cells #[.int .i64 2,.slice Ao no co,.slice At 3 ct,.slice Af nf cf] 38)=V:=⟨_,rfl⟩;rw[hX];have hbX:=hide (b4.trans ((ah (Below.refl Z.heap.size Z) hX (Nat.le_refl _)).mono b4.size));replace oMc:=hide (MkO.below oMc.out (ah (Below.refl Z.heap.size Z) hX (Nat.le_refl _)));have kOc:wD V Z.heap.size 2 3:=⟨_,_,_,_,Blk.newEq hX⟩;replace kOc:=hide kOc;clear hX b4;generalize Z.heap.size=z3 at*;clear Z;replace k6:=k6.below hbX.out k6.lt;replace hT:=hide (hT.out.below hbX.out);replace oMa:=oMa.out.below hbX.out;replace oMb:=oMb.out.below hbX.out;replace kOa:=kOa.out.below hbX.out;replace kOb:=kOb.out.below hbX.out;replace kOc:=kOc.out;replace b6:=b6.trans (hbX.out.mono b6.size);have hr1:=l5 (some ⟨gt,0,none⟩) 2 exK 1 none 0 [] Apb cpb uR V hT.out ⟨by decide,by decide⟩ (bM.nil _ _ _ _) qA oMb.s IL;have hr2:=hide (fun W (hb:Below V.heap.size V W)=>l5 (some ⟨gt,0,none⟩) 2 exK 2 none 0 [] Apb cpb uR W (hT.out.below hb) ⟨by decide,by decide⟩ (bM.nil _ _ _ _) qA (oMb.s.below hb) IL);rw[hE4.out]at hr1;rw[hE5.out]at hr2;replace hr1:=hide hr1;obtain⟨a1,a2,a3,a4,ka⟩:=kOa;obtain⟨b1,b2,b3,b4,kb⟩:=kOb;obtain⟨c1,c2,c3,c4,kc⟩:=kOc;obtain⟨bb,off,Ad,cd,e,-,d⟩:=MkS.at_ (l:=Bv) oMa.s (i:=0) (by decide);cases e;obtain⟨bb2,off2,Ad2,cd2,e,-,d2⟩:=MkS.at_ (l:=uR) oMb.s (i:=0) (by decide);cases e;have x3:=d.d3;have y3:=d2.d3;have y4:=d2.d4;have u0:=ka.cell 0;have u1:=kb.cell 0;have u2:=kc.cell 0;have u3:=kc.cell 2;have c0:=k6.cell 0;simp only[Bv,uR,SC,gA,gZ,gS,List.getElem_cons_zero,Nat.zero_mul,Nat.add_zero,Nat.zero_add,List.length_cons,List.length_nil]at x3 y3 y4 u0 u1 u2 u3 c0;clear hbX hTB hT oMa oMb oMc ka kb kc d d2 hE4 hE5;go_wp2_with fail;refine Calls.mono (by exact hr1.out) ?_;rintro e V1 ⟨rfl,hb1⟩;replace k6:=k6.below hb1 k6.lt;have hr3:=hide (hr2.out V1 hb1);replace b6:=b6.trans (hb1.mono b6.size);clear hr2 hr1 hb1 c0 x3 y3 y4 u0 u1 u2 u3;have c0:=Blk.n0 k6;go_wp2_with fail;refine Calls.mono (by exact hr3.out) ?_;rintro e V2 ⟨rfl,hb2⟩;go_wp2;go_ret;exact⟨rfl,b6.trans (hb2.mono b6.size)⟩
set_option maxHeartbeats 2000000
def yh(N:Nat)(l:List Txn):Bool:=decide (l.length≤N)&&l.all fun t=>decide (t.writes.length≤20)&&decide (t.reads.length≤20)
theorem IQ{N:Nat}(hN:N≤40){l:List Txn}(h:yh N l=true):aA l:=by
 unfold yh at h;rw[Bool.and_eq_true,List.all_eq_true]at h;have h1:l.length≤N:=(by simpa using h.1);refine⟨by omega,fun t ht=> ?_⟩;have:=h.2 t ht;simp at this;omega
theorem O4{N:Nat}{l:List Txn}{i:Nat}(hi:i<l.length)(h:20<l[i].writes.length∨20<l[i].reads.length):yh N l=false:=by
 rw[←Bool.not_eq_true];intro g;unfold yh at g;rw[Bool.and_eq_true,List.all_eq_true]at g;have:=g.2 _ (List.getElem_mem hi);simp at this;omega
theorem LM{N:Nat}{l:List Txn}(h:N<l.length):yh N l=false:=by
 unfold yh;rw[show decide (l.length≤N)=false by simpa using h];rfl
theorem LP{N:Nat}{l:List Txn}(h:l.length≤N)(hall:∀i (hi:i<l.length),l[i].writes.length≤20∧l[i].reads.length≤20):yh N l=true:=by
 unfold yh;rw[Bool.and_eq_true,List.all_eq_true];refine⟨by simpa using h,fun t ht=> ?_⟩;obtain⟨i,hi,rfl⟩:=List.getElem_of_mem ht;have:=hall i hi;simp;omega
set_option maxRecDepth 100000 in
theorem LQ(N:Nat)(A:Option Addr)(c:Nat)(H:List Txn)(w:World)(h:aC w (Old w) (.slice A H.length c) H)(hn:H.length≤maxLen)(hns:∀t∈H,t.writes.length≤maxLen∧t.reads.length≤maxLen):
 Calls Tryz.prog 18 #[.agg #[.slice A H.length c],.int .i64 (N:Int)] w fun e w'=>e= .returned (.bool (yh N H))∧Below w.heap.size w w':=by
 unfold maxLen at hn hns;have hA:Below w.heap.size w (w.alloc (.cells #[.slice A H.length c] 24)):=(Below.refl _ _).alloc (Nat.le_refl _) _;have kh:Blk (w.alloc (.cells #[.slice A H.length c] 24)) w.heap.size 24 #[.slice A H.length c]:=Blk.new _ _ _;have h1:=aC.below h hA;have y0:=Blk.n0 kh;have hl1:(0:Int)≤(H.length:Int):=Int.natCast_nonneg _;replace hns:=hide hns;by_cases hm:N<H.length
 ·have hr:=hide (LM hm);have hmb:decide ((H.length:Int)>(N:Int))=true:=(by simp;omega);have WB:decide (N<H.length)=true:=(by simp;omega);clear hm;go_enter Tryz.func18,Tryz.ntmps18;go_wp2;go_ret;exact⟨by rw[hr.out];rfl,hA⟩
 ·have hmb:decide ((H.length:Int)>(N:Int))=false:=(by simp;omega);have WB:decide (N<H.length)=false:=(by simp;omega);have hbad:=hide (fun i=>O4 (N:=N) (l:=H) (i:=i));have hgood:=hide (LP (N:=N) (l:=H) (by omega));go_enter Tryz.func18,Tryz.ntmps18;go_wp2_with fail;generalize w.alloc (.cells #[.slice A H.length c] 24)=W at*
  go_loop [5] (fun s5=>∃i:Nat,i≤H.length∧s5= .int .i64 i∧Hid (∀j (hj:j<H.length),j<i→H[j].writes.length≤20∧H[j].reads.length≤20)) (fun s5=>H.length-(intOf s5).toNat)
  case atStart=>exact⟨0,Nat.zero_le _,by go_num,fun j hj h=>absurd h (by omega)⟩
  case round=>
   obtain⟨i,hi,rfl,hall⟩:=hrel;have hi1:(0:Int)≤(i:Int):=Int.natCast_nonneg _;by_cases hlt:i<H.length
   ·have hi2:(i:Int)<(H.length:Int):=(by omega);obtain⟨b,off,Aw,cw,Ar,cr,rfl,hbK,d0,d1,d2,hws,hrs⟩:=aC.at_ h1 hlt;have hb:=hide (hbad.out i hlt);have hsm:=hns.out _ (List.getElem_mem hlt);have hst:Hid (H[i].writes.length≤20∧H[i].reads.length≤20→∀j (hj:j<H.length),j<i+1→H[j].writes.length≤20∧H[j].reads.length≤20):=fun g j hj hji=>by
     by_cases e:j=i
     ·subst e;exact g
     ·exact hall.out j hj (by omega)
    clear hall hws hrs;generalize H[i]=t at*;obtain⟨ts,ws,rs⟩:=t;dsimp only at*;by_cases g1:20<ws.length
    ·have g1b:decide ((ws.length:Int)>20)=true:=(by simp;omega);have hr:=hide (hb.out (.inl g1));clear g1 hb hst;go_wp2;go_ret;exact⟨by rw[hr.out];rfl,hA⟩
    ·have g1b:decide ((ws.length:Int)>20)=false:=(by simp;omega);by_cases g2:20<rs.length
     ·have g2b:decide ((rs.length:Int)>20)=true:=(by simp;omega);have hr:=hide (hb.out (.inr g2));clear g2 hb hst;go_wp2;go_ret;exact⟨by rw[hr.out];rfl,hA⟩
     ·have g2b:decide ((rs.length:Int)>20)=false:=(by simp;omega);have hr:=hide (hst.out ⟨by omega,by omega⟩);clear hb hst;go_wp2
      go_round
      case rel=>exact⟨i+1,by omega,by go_num,hr⟩
      case measure=>simp[intOf];omega
   ·have hr:=hide (hgood.out fun j hj=>hall.out j hj (by omega));go_wp2;go_ret;exact⟨by rw[hr.out];rfl,hA⟩
set_option maxHeartbeats 1000000
def wE(H:List Txn)(L:List Fct)(path:List Mk)(n:Nat):Bool:=yh n H&&decide (L.length≤20)&&decide (path.length≤20)&&(L.all fun f=>decide (f.cyc.length≤40))&&path.all fun m=>decide (m.done.length≤80)&&m.done.all fun x=>decide (x.cyc.length≤40)
structure CP(H:List Txn)(L:List Fct)(path:List Mk)(n:Nat):Prop where
 hist:yh n H=true
 facts:L.length≤20
 len:path.length≤20
 SL:∀f∈L,f.cyc.length≤40
 done:∀m∈path,m.done.length≤80
 SN:∀m∈path,∀x∈m.done,x.cyc.length≤40
theorem wG{H:List Txn}{L:List Fct}{path:List Mk}{n:Nat}:wE H L path n=true↔CP H L path n:=by
 unfold wE;simp only[Bool.and_eq_true,List.all_eq_true,decide_eq_true_eq];exact⟨fun h=>⟨h.1.1.1.1,h.1.1.1.2,h.1.1.2,h.1.2,fun m hm=>(h.2 m hm).1,fun m hm=>(h.2 m hm).2⟩,fun h=>⟨⟨⟨⟨h.hist,h.facts⟩,h.len⟩,h.SL⟩,fun m hm=>⟨h.done m hm,h.SN m hm⟩⟩⟩
theorem O5{H:List Txn}{L:List Fct}{path:List Mk}{n:Nat}(h:¬CP H L path n):wE H L path n=false:=by
 rw[←Bool.not_eq_true,wG];exact h
set_option maxRecDepth 100000 in
theorem LU (A:Option Addr) (c:Nat) (H:List Txn) (level:Int) (Al:Option Addr) (cl:Nat) (L:List Fct) (Ap:Option Addr) (cp:Nat) (path:List Mk) (n:Nat) (w:World) (h:aC w (Old w) (.slice A H.length c) H) (hn:H.length≤maxLen) (hns:∀t∈H,t.writes.length≤maxLen∧t.reads.length≤maxLen) (hL:bM w (Old w) (.slice Al L.length cl) L) (hL1:L.length≤maxLen)
 (hP:MkS w (Old w) (.slice Ap path.length cp) path) (hP1:path.length≤maxLen):
 Calls Tryz.prog 5 #[.agg #[.slice A H.length c,.int .i64 level,.slice Al L.length cl,.slice Ap path.length cp],.int .i64 (n:Int)] w fun e w'=>e= .returned (.bool (wE H L path n))∧Below w.heap.size w w':=by
 obtain⟨W0,hW0⟩:∃W0,w.alloc (.cells #[.slice A H.length c,.int .i64 level,.slice Al L.length cl,.slice Ap path.length cp] 28)=W0:=⟨_,rfl⟩;have hB:=ah (Below.refl w.heap.size w) hW0 (Nat.le_refl _);have k0:=Blk.newEq hW0;have hfe:=hide (LQ n A c H W0 (h.below hB) hn hns);have hLs:=hide (fun W (hb:Below w.heap.size w W)=>hL.below hb);have hPs:=hide (fun W (hb:Below w.heap.size w W)=>hP.below hb);unfold maxLen at hL1 hP1;have hno:=hide (O5 (H:=H) (L:=L) (path:=path) (n:=n));have hyes:=hide (wG (H:=H) (L:=L) (path:=path) (n:=n)).2;obtain⟨r,hr⟩:∃r,wE H L path n=r:=⟨_,rfl⟩;rw[hr]at hno hyes;rw[hr];obtain⟨q,hq⟩:∃q,yh n H=q:=⟨_,rfl⟩;rw[hq]at hfe;replace hq:=hide hq;have c0:=Blk.n0 k0;clear h hr hL hP hns hn;go_enter Tryz.func5,Tryz.ntmps5;go_wp2_with fail;clear hW0;refine hfe.out.mono ?_;rintro e w1 ⟨rfl,hb1⟩;have hB1:=hB.trans (hb1.mono hB.size);replace k0:=k0.below hb1 k0.lt;clear hfe hb1 hB c0;have c2:=Blk.n2 k0;have c3:=Blk.n3 k0;have hL2:=hLs.out w1 hB1;have hP2:=hPs.out w1 hB1;clear hLs hPs k0;cases q with
 |false=>
  obtain rfl:=hno.out fun g=>(by have:=g.hist;rw[hq.out]at this;cases this);clear hno hyes hq hL2 hP2;go_wp2;go_ret;exact⟨rfl,hB1⟩
 |true=>
  by_cases hl:L.length≤20
  ·have g1:decide ((L.length:Int)>20)=false:=decide_eq_false (by omega);have g2:decide (20<L.length)=false:=decide_eq_false (by omega);have g3:decide (20<(L.length:Int))=false:=decide_eq_false (by omega);by_cases hp:path.length≤20
   ·have g4:decide ((path.length:Int)>20)=false:=decide_eq_false (by omega);have g5:decide (20<path.length)=false:=decide_eq_false (by omega);have g6:decide (20<(path.length:Int))=false:=decide_eq_false (by omega);go_wp2_with fail;go_loopw [6] (fun s6 wr=>wr=w1∧∃k:Nat,k≤L.length∧s6= .int .i64 (k:Int)∧Hid (∀j (hj:j<L.length),j<k→L[j].cyc.length≤40)) (fun s6 _=>L.length-(intOf s6).toNat);case atStart=>exact⟨rfl,0,Nat.zero_le _,by go_num,hide (fun j hj h=>absurd h (Nat.not_lt_zero _))⟩
    case round=>
     obtain⟨hw,k,hk,rfl,hall⟩:=hrel;obtain rfl:w1=wr:=hw.symm;have hk1:(0:Int)≤(k:Int):=Int.natCast_nonneg _;by_cases hlt:k<L.length
     ·have hk2:(k:Int)<(L.length:Int):=(by omega);obtain⟨b,off,Ay,cy,rfl,-,d⟩:=hL2.at_ hlt;have d6:=d.d6;obtain⟨X,hX⟩:∃X,L[k].cyc.length=X:=⟨_,rfl⟩;rw[hX]at d6;replace hX:=hide hX;clear d hP2 hL2;by_cases hx:X≤40
      ·have g7:decide ((X:Int)>40)=false:=decide_eq_false (by omega);have g8:decide (40<X)=false:=decide_eq_false (by omega);have bK:Hid (∀j (hj:j<L.length),j<k+1→L[j].cyc.length≤40):=hide fun j hj hjk=>by
        by_cases e:j=k
        ·subst e;rw[hX.out];exact hx
        ·exact hall.out j hj (by omega)
       clear hall hno hyes;go_wp2;go_roundw;case rel=>exact⟨by trivial,k+1,by omega,by go_num,bK⟩
       case measure=>simp[intOf];omega
      ·have g7:decide ((X:Int)>40)=true:=decide_eq_true (by omega);have g8:decide (40<X)=true:=decide_eq_true (by omega);obtain rfl:=hno.out fun g=>(by have:=g.SL L[k] (List.getElem_mem hlt);rw[hX.out]at this;omega);clear hall hno hyes hx;go_wp2;go_ret;exact⟨rfl,hB1⟩
     ·obtain rfl:k=L.length:=(by omega);go_wp2_with fail;go_loopw [7,8] (fun s7 _ wr=>wr=w1∧∃k:Nat,k≤path.length∧s7= .int .i64 (k:Int)∧Hid (∀j (hj:j<path.length),j<k→path[j].done.length≤80∧∀x∈path[j].done,x.cyc.length≤40)) (fun s7 _ _=>path.length-(intOf s7).toNat);case atStart=>exact⟨rfl,0,Nat.zero_le _,by go_num,hide (fun j hj h=>absurd h (Nat.not_lt_zero _))⟩
      case round=>
       obtain⟨hw,k,hk2,rfl,hpa⟩:=hrel;obtain rfl:w1=wr:=hw.symm;have hk1:(0:Int)≤(k:Int):=Int.natCast_nonneg _;by_cases hlt:k<path.length
       ·have hk3:(k:Int)<(path.length:Int):=(by omega);obtain⟨b,off,Ad,cd,rfl,-,d⟩:=hP2.at_ hlt;have d4:=d.d4;have hD:=d.done;obtain⟨X,hX⟩:∃X,path[k]=X:=⟨_,rfl⟩;rw[hX]at d4 hD;replace hX:=hide hX;have hin:Hid (X∈path):=hide (by rw[←hX.out];exact List.getElem_mem hlt);obtain⟨Xc,Xr,Xd⟩:=X;dsimp only at d4 hD;clear d hP2 hL2;by_cases hx:Xd.length≤80
        ·have g7:decide ((Xd.length:Int)>80)=false:=decide_eq_false (by omega);have g8:decide (80<Xd.length)=false:=decide_eq_false (by omega);replace hD:=hide hD;go_wp2_with fail;go_loopw [8] (fun s8 wr=>wr=w1∧∃j:Nat,j≤Xd.length∧s8= .int .i64 (j:Int)∧Hid (∀i (hi:i<Xd.length),i<j→Xd[i].cyc.length≤40)) (fun s8 _=>Xd.length-(intOf s8).toNat);case atStart=>exact⟨rfl,0,Nat.zero_le _,by go_num,hide (fun j hj h=>absurd h (Nat.not_lt_zero _))⟩
         case round=>
          obtain⟨hw,j,hj,rfl,zQ⟩:=hrel;obtain rfl:w1=wr:=hw.symm;have hj1:(0:Int)≤(j:Int):=Int.natCast_nonneg _;by_cases hjl:j<Xd.length
          ·have hj3:(j:Int)<(Xd.length:Int):=(by omega);obtain⟨b2,off2,Ay,cy,rfl,-,dd⟩:=aY.at_ hD.out hjl;have e3:=dd.d3;obtain⟨Y,hY⟩:∃Y,Xd[j].cyc.length=Y:=⟨_,rfl⟩;rw[hY]at e3;replace hY:=hide hY;clear dd hD;by_cases hy:Y≤40
           ·have g9:decide ((Y:Int)>40)=false:=decide_eq_false (by omega);have g10:decide (40<Y)=false:=decide_eq_false (by omega);have bK:Hid (∀i (hi:i<Xd.length),i<j+1→Xd[i].cyc.length≤40):=hide fun i hi hij=>by
             by_cases e:i=j
             ·subst e;rw[hY.out];exact hy
             ·exact zQ.out i hi (by omega)
            clear zQ hno hyes hall hpa;go_wp2;go_roundw;case rel=>exact⟨by trivial,j+1,by omega,by go_num,bK⟩
            case measure=>simp[intOf];omega
           ·have g9:decide ((Y:Int)>40)=true:=decide_eq_true (by omega);have g10:decide (40<Y)=true:=decide_eq_true (by omega);obtain rfl:=hno.out fun g=>(by have:=g.SN _ hin.out Xd[j] (List.getElem_mem hjl);rw[hY.out]at this;omega);clear zQ hno hyes hall hpa hy;go_wp2;go_ret;exact⟨rfl,hB1⟩
          ·obtain rfl:j=Xd.length:=(by omega);have bK:Hid (∀j (hj:j<path.length),j<k+1→path[j].done.length≤80∧∀x∈path[j].done,x.cyc.length≤40):=hide fun i hi hik=>by
            by_cases e:i=k
            ·subst e;rw[hX.out];refine⟨hx,fun x hx2=> ?_⟩;obtain⟨i2,hi2,rfl⟩:=List.getElem_of_mem hx2;exact zQ.out i2 hi2 hi2
            ·exact hpa.out i hi (by omega)
           clear hno hyes hall hpa zQ hD;go_wp2;go_roundw;case rel=>exact⟨by trivial,k+1,by omega,by go_num,bK⟩
           case measure=>simp[intOf];omega
        ·have g7:decide ((Xd.length:Int)>80)=true:=decide_eq_true (by omega);have g8:decide (80<Xd.length)=true:=decide_eq_true (by omega);obtain rfl:=hno.out fun g=>hx (g.done _ hin.out);clear hno hyes hall hpa hx hD;go_wp2;go_ret;exact⟨rfl,hB1⟩
       ·obtain rfl:k=path.length:=(by omega);obtain rfl:=hyes.out ⟨hq.out,hl,hp,fun f hf=>by
         obtain⟨i,hi,rfl⟩:=List.getElem_of_mem hf;exact hall.out i hi hi,fun m hm=>by
         obtain⟨i,hi,rfl⟩:=List.getElem_of_mem hm;exact(hpa.out i hi hi).1,fun m hm=>by
         obtain⟨i,hi,rfl⟩:=List.getElem_of_mem hm;exact(hpa.out i hi hi).2⟩
        clear hno hyes hall hpa hL2 hP2;go_wp2;go_ret;exact⟨rfl,hB1⟩
   ·have g4:decide ((path.length:Int)>20)=true:=decide_eq_true (by omega);have g5:decide (20<path.length)=true:=decide_eq_true (by omega);obtain rfl:=hno.out fun g=>hp g.len;clear hno hyes hq hL2 hP2 hp;go_wp2;go_ret;exact⟨rfl,hB1⟩
  ·have g1:decide ((L.length:Int)>20)=true:=decide_eq_true (by omega);have g2:decide (20<L.length)=true:=decide_eq_true (by omega);obtain rfl:=hno.out fun g=>hl g.facts;clear hno hyes hq hL2 hP2 hl;go_wp2;go_ret;exact⟨rfl,hB1⟩
theorem CQ{p:List Mk}(h:∀m∈p,m.done.length≤80):bJ p≤81*p.length:=by
 unfold bJ
 induction p with
 |nil=>simp
 |cons m p ih=>
  have h1:=h m (by simp);have h2:=ih fun x hx=>h x (by simp[hx]);simp only[List.map_cons,List.sum_cons,List.length_cons];omega
theorem CP.WC{H:List Txn}{L:List Fct}{path:List Mk}{n:Nat}(h:CP H L path n):qU path:=
 ⟨by have:=CQ h.done;have:=h.len;omega,fun m hm x hx=>by have:=h.SN m hm x hx;omega⟩
theorem CP.WE{H:List Txn}{L:List Fct}{path:List Mk}{n:Nat}(h:CP H L path n):tH L:=
 ⟨by have:=h.facts;omega,fun f hf=>by have:=h.SL f hf;omega⟩
end Go.Proofs.YtpjechjoijjhpaaGreatDoor
namespace Go.Proofs.YtpjechjoijjhpaaGreatDoor
open Go.ChangeShapes Go.WideShapes Go.ChangeAt Go.RowKit Go.Inq
theorem own:ownKnob Tryz.prog.godebug=none:=by kernel_rfl
theorem laidOut:laidOutB Tryz.prog=true:=by kernel_rfl
theorem lD {H:Type} {enc:TypeId×Value→H} {a:Assume} {C:Checked} {os:Os} {f:FuncId} {fn:Func} {s:ChangeSpec} {conds:List PathCond} {apart fresh handsOn again:Bool} {X:World→Array Value→Prop}
 (hX:∀(w w':World) (args:Array Value),w.heap=w'.heap→X w args→X w' args)
 (own:ownKnob C.prog.godebug=none) (started:os.Started) (noInit:C.prog.inits.idxOf? f=none) (hfn:C.prog.funcs[f]?=some fn)
 (witness:∃(w:World) (tape:Tape) (i:Input),w.os=os∧(w.forCall tape i).Shaped C.prog∧i.vars=[]∧Input.okWide C.prog (w.forCall tape i) .any w.heap.size f i∧
  ((s.pre enc C.prog fn conds apart (w.forCall tape i).memory i.args∧X (w.forCall tape i).memory i.args)∧sizedMet enc C.prog fn (OpenSpec.ofChange s) apart (w.forCall tape i).memory i.args)∧a.holds C.prog (lone (Frame.enter C.prog f i.args .normal) [] (w.forCall tape i)))
 (contract:∀(W:World) (base:Nat) (args:Array Value) (ds gs:List (DataW H)) (before:List MemPlace),
  (∀(j:Nat) t v,fn.params[j]?=some t→args[j]?=some v→Value.okWide C.prog W .any base t v)→
  DataW.Whole enc C.prog fn.params.toList s.vars apart W args.toList ds gs before→
  X W args→W.ShapedOpen C.prog→
  Calls C.prog f args W fun e W'=>∃v,e= .returned v∧s.post enc C.prog fn apart fresh handsOn again W args v W'):
 ReturnsInHanded a C os f .any (fun w args=>(s.pre enc C.prog fn conds apart w args∧X w args)∧sizedMet enc C.prog fn (OpenSpec.ofChange s) apart w args) (s.post enc C.prog fn apart fresh handsOn again):=by
 refine returnsInHanded_of_calls own started noInit witness ?_;intro w tape i _ hsh _ hok hpre hholds;obtain⟨_,_,_,fn',hfn',_,_,_,_,hval⟩:=hok;have e:fn'=fn:=Option.some.inj (hfn'.symm.trans hfn);subst e;obtain⟨⟨⟨ds,gs,before,hw,hc⟩,hx⟩,hz⟩:=hpre;have hw':=DataW.Whole.of_heap (w':=w.forCall tape i) (by rfl) hw;refine(contract (w.forCall tape i) w.heap.size i.args ds gs before hval hw' (hX _ _ _ (by rfl) hx) hsh).mono fun e W' ⟨v,he,hp⟩=> ?_;subst he;exact ChangeSpec.post_blind hp
def wH(P:Program)(ts:List TypeId):Bool:=ts.all fun t=>P.readableRec t&&decide (t<P.types.size)
theorem Below.O6{P:Program}(hl:laidOutB P=true){H:Type}{enc:TypeId×Value→H}{W W':World}(hb:Below W.heap.size W W'):∀(ts:List TypeId) (vs:List Value) (ds:List (DataW H)) (ps:List MemPlace),wH P ts=true→
 DataW.TrodAll enc P W 0 (fun _=>true) true ts vs ds ps→(∀x∈ps,x.block<W.heap.size)→DataW.TrodAll enc P W' 0 (fun b=>decide (b<W.heap.size)) true ts vs ds ps:=by
 intro ts
 induction ts with
 |nil=>
  intro vs ds ps _ h _;cases vs with
  |cons=>exact h.elim
  |nil=>
   cases ds with
   |cons=>exact h.elim
   |nil=>exact h
 |cons t ts ih=>
  intro vs ds ps hk h hlt;cases vs with
  |nil=>exact h.elim
  |cons v vs=>
   cases ds with
   |nil=>exact h.elim
   |cons d ds=>
    obtain⟨p,q,h1,h2,rfl⟩:=h;unfold wH at hk;rw[List.all_cons,Bool.and_eq_true,Bool.and_eq_true]at hk;exact⟨p,q,Below.trod hl hk.1.1 (of_decide_eq_true hk.1.2) h1 hb (fun x hx=>hlt x (List.mem_append.2 (.inl hx))),ih _ _ _ hk.2 h2 (fun x hx=>hlt x (List.mem_append.2 (.inr hx))),rfl⟩
theorem Below.trodAll {H:Type} {enc:TypeId×Value→H} {W W':World} (hb:Below W.heap.size W W') {ts:List TypeId} {vs:List Value} {ds:List (DataW H)} {ps:List MemPlace} (hk:wH Tryz.prog ts=true)
 (h:DataW.TrodAll enc Tryz.prog W 0 (fun _=>true) true ts vs ds ps) (hlt:∀x∈ps,x.block<W.heap.size):DataW.TrodAll enc Tryz.prog W' 0 (fun b=>decide (b<W.heap.size)) true ts vs ds ps:=
 Below.O6 laidOut hb ts vs ds ps hk h hlt
theorem jl.of{l:List (String×DataW Unit)}{W:World}(h:laidMetH Tryz.prog l W)(hp:laidMetH Tryz.prog l W=laidMet Tryz.prog l W)(hm:("math/bits.deBruijn64tab",Rows.laid_math_bits_deBruijn64tab)∈l):jl W:=by
 rw[hp]at h;obtain⟨g,t,cs,fuel,p,hg,ht,hv,hd⟩:=Lib.laidMet.reads h hm;obtain rfl:=Option.some.inj ((show Tryz.prog.globalNamed "math/bits.deBruijn64tab" =some 0 by kernel_rfl).symm.trans hg);obtain rfl:=Option.some.inj ((show(Tryz.prog.globals[0]?).map (·.type)=some 197 by kernel_rfl).symm.trans ht);have hc:=Lib.cells_of_tab (k:= .u8) (zs:=Lib.deBruijn64tab.map fun(x:Nat)=>(x:Int)) Tryz.underlying197 Tryz.underlying5 (by kernel_rfl) (by kernel_rfl) hd;intro j hj;rw[World.var?_cell hg hv j];have h1:cs.toList[j]?=some (.int .u8 (Lib.deBruijn64tab.getD j 0)):=by
  rw[hc,List.getElem?_map,List.getElem?_map,List.getElem?_eq_getElem hj];simp[List.getD_eq_getElem?_getD,List.getElem?_eq_getElem hj]
 simpa using h1
end Go.Proofs.YtpjechjoijjhpaaGreatDoor
namespace Go.Proofs.YtpjechjoijjhpaaGreatDoor
open Go.Joins Go.ChangeShapes Go.WideShapes Go.ChangeAt Go.RowKit Go.Deep Go.Inq
section
variable{H:Type}{enc:TypeId×Value→H}{w:World}{base:Nat}{spare:Nat→Bool}{held:Bool}
theorem j5 {α:Type} {size:Nat} {R:World→(Nat→Prop)→List Value→α→Prop} {te ts:TypeId} (P:α→Prop) (x0:α) (hT:Tryz.prog.underlying ts=some (.slice te)) (hC:Tryz.prog.cellsOf te=size) (hs0:0<size)
 (hop:∀n cs x,DataW.trod enc Tryz.prog w base spare held n te cs=some x→∃t,R w (Old w) cs t∧P t)
 {n:Nat} {v:Value} {x:DataW H×List MemPlace} (h:DataW.trod enc Tryz.prog w base spare held n ts [v]=some x):
 ∃(A:Option Addr) (c:Nat) (l:List α),v= .slice A l.length c∧SlR size R w (Old w) (.slice A l.length c) l∧l.length≤maxLen∧∀t∈l,P t:=by
 rcases open_slice hT h with⟨h1,_⟩|⟨a,len,cap,m,n',D,Pl,h1,_,hl,hm,hmm,hx,hi⟩
 ·injection h1 with h1
  exact⟨none,0,[],h1,SlR.nil _ _ _ _ _ _,Nat.zero_le _,fun t ht=>by simp at ht⟩
 ·injection h1 with h1
  subst h1;rw[hC]at hi;have hlm:len≤m:=(by rw[hmm];split<;>omega);have hex:∀i,∃p:α×List Value,i<len→p.2.length=size∧R w (Old w) p.2 p.1∧P p.1∧∀j u,p.2[j]?=some u→w.cell? (a.add (i*size+j))=some u:=fun i=>by
   by_cases hil:i<len
   ·obtain⟨cs,hc,ht⟩:=hi i (by omega);obtain⟨t,hR,hP⟩:=hop _ _ _ ht;obtain⟨_,hcl,hat⟩:=World.cells?_some hc;refine⟨(t,cs),fun _=>⟨by simpa using hcl,hR,hP,fun j u hj=> ?_⟩⟩;have hj4:j<size:=by
     rcases Nat.lt_or_ge j size with h|h
     ·exact h
     ·rw[List.getElem?_eq_none (by dsimp only;omega)]at hj;cases hj
    rw[←Go.Deep.add_add,hat j hj4];exact hj
   ·exact⟨(x0,[]),fun h=>absurd h hil⟩
  obtain⟨f,hf⟩:=Classical.axiomOfChoice hex;have hlen:((List.range len).map fun i=>(f i).1).length=len:=(by simp);refine⟨some a,cap,(List.range len).map fun i=>(f i).1,by rw[hlen],⟨some a,cap,(List.range len).map fun i=>(f i).2,rfl,by omega,by simp,fun i cs x h1 h2=> ?_,fun h0=> ?_⟩,by omega,fun t ht=> ?_⟩
  ·simp only[List.getElem?_map]at h1 h2;cases hr:(List.range len)[i]? with
   |none=>rw[hr]at h1;cases h1
   |some k=>
    rw[hr]at h1 h2;simp at h1 h2;subst h1 h2;have hk:k<len:=by
     rw[List.getElem?_eq_some_iff]at hr;obtain⟨h3,h4⟩:=hr;simp at h3 h4;omega
    exact⟨(hf k hk).1,(hf k hk).2.1⟩
  ·rw[hlen]at h0;obtain⟨g1,_,_,g4⟩:=hf 0 h0;have hc0:=g4 0 ((f 0).2[0]'(by omega)) (List.getElem?_eq_getElem (by omega));obtain⟨_,_,_,_,hs⟩:=World.shape?_of_cell? hc0;obtain⟨b,o,sp⟩:=a;have hsp:sp=none:=by
    cases sp with
    |none=>rfl
    |some q=>simp[Addr.add]at hs
   subst hsp;have hbl:b<w.heap.size:=(by have:=block_lt_of_cell hc0;rwa[Addr.add_lit]at this);refine⟨b,o,rfl,hbl,fun i j cs u h1 h2=> ?_⟩;simp only[List.getElem?_map]at h1;cases hr:(List.range len)[i]? with
   |none=>rw[hr]at h1;cases h1
   |some k=>
    rw[hr]at h1;simp at h1;subst h1;have hk:k=i∧i<len:=by
     rw[List.getElem?_eq_some_iff]at hr;obtain⟨h3,h4⟩:=hr;simp at h3 h4;exact⟨h4.symm,h3⟩
    have:=(hf i hk.2).2.2.2 j u (by rw[←hk.1];exact h2);rw[Addr.add_lit,←Nat.add_assoc]at this;exact this
  ·obtain⟨k,hk,rfl⟩:=List.mem_map.1 ht;exact(hf k (by simpa using hk)).2.2.1
theorem O7{n:Nat}{cs:List Value}{x:DataW H×List MemPlace}(h:DataW.trod enc Tryz.prog w base spare held n 3 cs=some x):∃k:Int,Go.Inq.Flat Go.Inq.encI w (Old w) cs k∧True:=by
 obtain⟨k,e,_⟩:=DataW.trod_int Tryz.underlying3 h;exact⟨k,e,trivial⟩
theorem wJ{n:Nat}{v:Value}{x:DataW H×List MemPlace}(h:DataW.trod enc Tryz.prog w base spare held n 35 [v]=some x):
 ∃(A:Option Addr) (c:Nat) (l:List Int),v= .slice A l.length c∧aM w (Old w) (.slice A l.length c) l∧l.length≤maxLen:=by
 obtain⟨A,c,l,h1,h2,h3,_⟩:=j5 (R:=Go.Inq.Flat Go.Inq.encI) (size:=1) (fun _=>True) 0 Tryz.underlying35 (by kernel_rfl) (by decide) (fun n cs x h=>O7 h) h;exact⟨A,c,l,h1,h2,h3⟩
theorem LV{n:Nat}{cs:List Value}{x:DataW H×List MemPlace}(hC:Tryz.prog.cellsOf 57=2)(h:DataW.trod enc Tryz.prog w base spare held n 57 cs=some x):∃e:It,Go.Inq.Flat It.enc w (Old w) cs e∧True:=by
 obtain⟨y0,y1,n',_,hl,h0,h1⟩:=trod_struct2 Tryz.underlying57 h;rw[hC]at hl;have h31:Tryz.prog.cellsOf 3=1:=(by kernel_rfl);simp only[h31]at h0 h1
 match cs,hl with
 |[a,b],_=>
  obtain⟨k0,e0,_⟩:=DataW.trod_int Tryz.underlying3 h0;obtain⟨k1,e1,_⟩:=DataW.trod_int Tryz.underlying3 h1;simp at e0 e1;exact⟨⟨k0,k1⟩,by unfold Go.Inq.Flat;simp[It.enc,e0,e1],trivial⟩
theorem IU{n:Nat}{v:Value}{x:DataW H×List MemPlace}(h:DataW.trod enc Tryz.prog w base spare held n 58 [v]=some x):
 ∃(A:Option Addr) (c:Nat) (l:List It),v= .slice A l.length c∧ItS w (Old w) (.slice A l.length c) l∧l.length≤maxLen:=by
 obtain⟨A,c,l,h1,h2,h3,_⟩:=j5 (R:=Go.Inq.Flat It.enc) (size:=2) (fun _=>True) ⟨0,0⟩ Tryz.underlying58 (by kernel_rfl) (by decide) (fun n cs x h=>LV (by kernel_rfl) h) h;exact⟨A,c,l,h1,h2,h3⟩
theorem O8{n:Nat}{cs:List Value}{x:DataW H×List MemPlace}(hC:Tryz.prog.cellsOf 60=3)(h:DataW.trod enc Tryz.prog w base spare held n 60 cs=some x):
 ∃t:Txn,AX w (Old w) cs t∧t.writes.length≤maxLen∧t.reads.length≤maxLen:=by
 obtain⟨y0,y1,y2,n',_,hl,h0,h1,h2⟩:=trod_struct3 Tryz.underlying60 h;rw[hC]at hl;have e1:Tryz.prog.cellsOf 3=1:=(by kernel_rfl);have e2:Tryz.prog.cellsOf 35=1:=(by kernel_rfl);have e3:Tryz.prog.cellsOf 58=1:=(by kernel_rfl);simp only[e1,e2,e3]at h0 h1 h2
 match cs,hl with
 |[a,b,c],_=>
  obtain⟨k0,e0,_⟩:=DataW.trod_int Tryz.underlying3 h0;simp at e0;have h1':DataW.trod enc Tryz.prog w base spare held n' 35 [b]=some y1:=(by simpa using h1);have h2':DataW.trod enc Tryz.prog w base spare held n' 58 [c]=some y2:=(by simpa using h2);obtain⟨A,c',l,hv,hev,hlen⟩:=wJ h1';obtain⟨A2,c2',l2,hv2,WG,ug⟩:=IU h2';exact⟨⟨k0,l,l2⟩,⟨b,c,by rw[e0],by rw[hv];exact hev,by rw[hv2];exact WG⟩,hlen,ug⟩
theorem LW{n:Nat}{v:Value}{x:DataW H×List MemPlace}(h:DataW.trod enc Tryz.prog w base spare held n 22 [v]=some x):
 ∃(A:Option Addr) (c:Nat) (l:List Txn),v= .slice A l.length c∧aC w (Old w) (.slice A l.length c) l∧l.length≤maxLen∧∀t∈l,t.writes.length≤maxLen∧t.reads.length≤maxLen:=
 j5 (R:=AX) (size:=3) (fun t=>t.writes.length≤maxLen∧t.reads.length≤maxLen) ⟨0,[],[]⟩ Tryz.underlying22 (by kernel_rfl) (by decide) (fun n cs x h=>O8 (by kernel_rfl) h) h
theorem LX{n:Nat}{cs:List Value}{x:DataW H×List MemPlace}(hC:Tryz.prog.cellsOf 24=1)(h:DataW.trod enc Tryz.prog w base spare held n 24 cs=some x):
 ∃(A:Option Addr) (c:Nat) (l:List Txn),cs=[.slice A l.length c]∧aC w (Old w) (.slice A l.length c) l∧l.length≤maxLen∧∀t∈l,t.writes.length≤maxLen∧t.reads.length≤maxLen:=by
 obtain⟨y0,n',_,hl,h0⟩:=trod_struct1 Tryz.underlying24 h;rw[hC]at hl;have e1:Tryz.prog.cellsOf 22=1:=(by kernel_rfl);simp only[e1]at h0
 match cs,hl with
 |[a],_=>
  have h0':DataW.trod enc Tryz.prog w base spare held n' 22 [a]=some y0:=(by simpa using h0);obtain⟨A,c,l,hv,h1,h2,h3⟩:=LW h0';exact⟨A,c,l,by rw[hv],h1,h2,h3⟩
end
section
variable{H:Type}{enc:TypeId×Value→H}{w:World}{base:Nat}{spare:Nat→Bool}{held:Bool}
theorem DU{P:Program}{t:TypeId}{f0 f1 f2 f3 f4:Field}{fuel:Nat}{cs:List Value}{x:DataW H×List MemPlace}(ht:P.underlying t=some (.struct #[f0,f1,f2,f3,f4]))(h:DataW.trod enc P w base spare held fuel t cs=some x):
 ∃y0 y1 y2 y3 y4 n,cs.length=P.cellsOf t∧DataW.trod enc P w base spare held n f0.type ((cs.drop f0.offset).take (P.cellsOf f0.type))=some y0∧
  DataW.trod enc P w base spare held n f1.type ((cs.drop f1.offset).take (P.cellsOf f1.type))=some y1∧DataW.trod enc P w base spare held n f2.type ((cs.drop f2.offset).take (P.cellsOf f2.type))=some y2∧
  DataW.trod enc P w base spare held n f3.type ((cs.drop f3.offset).take (P.cellsOf f3.type))=some y3∧DataW.trod enc P w base spare held n f4.type ((cs.drop f4.offset).take (P.cellsOf f4.type))=some y4:=by
 obtain⟨xs,n,_,rfl,hl,hlen,hf⟩:=DataW.trod_struct ht h
 match xs,hlen with
 |[y0,y1,y2,y3,y4],_=>exact⟨y0,y1,y2,y3,y4,n,hl,by simpa using hf 0 f0 rfl,by simpa using hf 1 f1 rfl,by simpa using hf 2 f2 rfl,by simpa using hf 3 f3 rfl,by simpa using hf 4 f4 rfl⟩
theorem zR{n:Nat}{a b c:Value}{x:DataW H×List MemPlace}(h:DataW.trod enc Tryz.prog w base spare held n 62 [a,b,c]=some x):∃d:Cho,[a,b,c]=[.int .i64 d.key,.int .i64 d.a,.int .i64 d.b]:=by
 obtain⟨y0,y1,y2,n',_,hl,h0,h1,h2⟩:=trod_struct3 Tryz.underlying62 h;have e1:Tryz.prog.cellsOf 3=1:=(by kernel_rfl);simp only[e1]at h0 h1 h2;obtain⟨k0,g0,_⟩:=DataW.trod_int Tryz.underlying3 h0;obtain⟨k1,g1,_⟩:=DataW.trod_int Tryz.underlying3 h1;obtain⟨k2,g2,_⟩:=DataW.trod_int Tryz.underlying3 h2;simp at g0 g1 g2;exact⟨⟨k0,k1,k2⟩,by rw[g0,g1,g2]⟩
theorem LY{n:Nat}{cs:List Value}{x:DataW H×List MemPlace}(hC:Tryz.prog.cellsOf 67=7)(h:DataW.trod enc Tryz.prog w base spare held n 67 cs=some x):∃f:Fct,vH w (Old w) cs f:=by
 obtain⟨y0,y1,y2,y3,y4,n',hl,h0,h1,h2,h3,h4⟩:=DU Tryz.underlying67 h;rw[hC]at hl;have e1:Tryz.prog.cellsOf 3=1:=(by kernel_rfl);have e2:Tryz.prog.cellsOf 62=3:=(by kernel_rfl);have e3:Tryz.prog.cellsOf 35=1:=(by kernel_rfl);simp only[e1,e2,e3]at h0 h1 h2 h3 h4
 match cs,hl with
 |[a,b,c,d,e,f,g],_=>
  obtain⟨ch,hch⟩:=zR (a:=a) (b:=b) (c:=c) (by simpa using h0);simp only[List.cons.injEq,and_true]at hch;obtain⟨k1,g1,_⟩:=DataW.trod_int Tryz.underlying3 h1;obtain⟨k2,g2,_⟩:=DataW.trod_int Tryz.underlying3 h2;obtain⟨k3,g3,_⟩:=DataW.trod_int Tryz.underlying3 h3;simp at g1 g2 g3;have h4':DataW.trod enc Tryz.prog w base spare held n' 35 [g]=some y4:=(by simpa using h4);obtain⟨A,c',l,hv,hev,_⟩:=wJ h4';exact⟨⟨ch,k1,k2,k3,l⟩,A,c',by rw[hch.1,hch.2.1,hch.2.2,g1,g2,g3,hv],hev⟩
theorem IV{n:Nat}{v:Value}{x:DataW H×List MemPlace}(h:DataW.trod enc Tryz.prog w base spare held n 25 [v]=some x):
 ∃(A:Option Addr) (c:Nat) (l:List Fct),v= .slice A l.length c∧bM w (Old w) (.slice A l.length c) l∧l.length≤maxLen:=by
 obtain⟨A,c,l,h1,h2,h3,_⟩:=j5 (R:=vH) (size:=7) (fun _=>True) ⟨⟨0,0,0⟩,0,0,0,[]⟩ Tryz.underlying25 (by kernel_rfl) (by decide) (fun n cs x h=>by obtain⟨f,hf⟩:=LY (by kernel_rfl) h;exact⟨f,hf,trivial⟩) h;exact⟨A,c,l,h1,h2,h3⟩
end
section
variable{H:Type}{enc:TypeId×Value→H}{w:World}{base:Nat}{spare:Nat→Bool}{held:Bool}
theorem LZ{n:Nat}{cs:List Value}{x:DataW H×List MemPlace}(hC:Tryz.prog.cellsOf 69=4)(h:DataW.trod enc Tryz.prog w base spare held n 69 cs=some x):∃f:Nod,fu w (Old w) cs f∧True:=by
 obtain⟨y0,y1,n',_,hl,h0,h1⟩:=trod_struct2 Tryz.underlying69 h;rw[hC]at hl;have e2:Tryz.prog.cellsOf 62=3:=(by kernel_rfl);have e3:Tryz.prog.cellsOf 35=1:=(by kernel_rfl);simp only[e2,e3]at h0 h1
 match cs,hl with
 |[a,b,c,d],_=>
  obtain⟨ch,hch⟩:=zR (a:=a) (b:=b) (c:=c) (by simpa using h0);simp only[List.cons.injEq,and_true]at hch;have h1':DataW.trod enc Tryz.prog w base spare held n' 35 [d]=some y1:=(by simpa using h1);obtain⟨A,c',l,hv,hev,_⟩:=wJ h1';exact⟨⟨ch,l⟩,⟨A,c',by rw[hch.1,hch.2.1,hch.2.2,hv],hev⟩,trivial⟩
theorem IW{n:Nat}{v:Value}{x:DataW H×List MemPlace}(h:DataW.trod enc Tryz.prog w base spare held n 36 [v]=some x):
 ∃(A:Option Addr) (c:Nat) (l:List Nod),v= .slice A l.length c∧aY w (Old w) (.slice A l.length c) l∧l.length≤maxLen:=by
 obtain⟨A,c,l,h1,h2,h3,_⟩:=j5 (R:=fu) (size:=4) (fun _=>True) ⟨⟨0,0,0⟩,[]⟩ Tryz.underlying36 (by kernel_rfl) (by decide) (fun n cs x h=>LZ (by kernel_rfl) h) h;exact⟨A,c,l,h1,h2,h3⟩
theorem L6{n:Nat}{cs:List Value}{x:DataW H×List MemPlace}(hC:Tryz.prog.cellsOf 64=5)(h:DataW.trod enc Tryz.prog w base spare held n 64 cs=some x):∃f:Mk,MkR w (Old w) cs f∧True:=by
 obtain⟨y0,y1,y2,n',_,hl,h0,h1,h2⟩:=trod_struct3 Tryz.underlying64 h;rw[hC]at hl;have e1:Tryz.prog.cellsOf 4=1:=(by kernel_rfl);have e2:Tryz.prog.cellsOf 62=3:=(by kernel_rfl);have e3:Tryz.prog.cellsOf 36=1:=(by kernel_rfl);simp only[e1,e2,e3]at h0 h1 h2
 match cs,hl with
 |[a,b,c,d,e],_=>
  obtain⟨ch,hch⟩:=zR (a:=a) (b:=b) (c:=c) (by simpa using h0);simp only[List.cons.injEq,and_true]at hch;obtain⟨k1,g1,_⟩:=DataW.trod_bool Tryz.underlying4 h1;simp at g1;have h2':DataW.trod enc Tryz.prog w base spare held n' 36 [e]=some y2:=(by simpa using h2);obtain⟨A,c',l,hv,hev,_⟩:=IW h2';exact⟨⟨ch,k1,l⟩,⟨A,c',by rw[hch.1,hch.2.1,hch.2.2,g1,hv],hev⟩,trivial⟩
theorem IX{n:Nat}{v:Value}{x:DataW H×List MemPlace}(h:DataW.trod enc Tryz.prog w base spare held n 26 [v]=some x):
 ∃(A:Option Addr) (c:Nat) (l:List Mk),v= .slice A l.length c∧MkS w (Old w) (.slice A l.length c) l∧l.length≤maxLen:=by
 obtain⟨A,c,l,h1,h2,h3,_⟩:=j5 (R:=MkR) (size:=5) (fun _=>True) ⟨⟨0,0,0⟩,false,[]⟩ Tryz.underlying26 (by kernel_rfl) (by decide) (fun n cs x h=>L6 (by kernel_rfl) h) h;exact⟨A,c,l,h1,h2,h3⟩
theorem FU{n:Nat}{cs:List Value}{x:DataW H×List MemPlace}(hC:Tryz.prog.cellsOf 28=4)(h:DataW.trod enc Tryz.prog w base spare held n 28 cs=some x):
 ∃(A:Option Addr) (c:Nat) (Hs:List Txn) (level:Int) (Al:Option Addr) (cl:Nat) (L:List Fct) (Ap:Option Addr) (cp:Nat) (path:List Mk),cs=[.slice A Hs.length c,.int .i64 level,.slice Al L.length cl,.slice Ap path.length cp]∧
  aC w (Old w) (.slice A Hs.length c) Hs∧Hs.length≤maxLen∧(∀t∈Hs,t.writes.length≤maxLen∧t.reads.length≤maxLen)∧bM w (Old w) (.slice Al L.length cl) L∧L.length≤maxLen∧MkS w (Old w) (.slice Ap path.length cp) path∧path.length≤maxLen:=by
 obtain⟨y0,y1,y2,y3,n',_,hl,h0,h1,h2,h3⟩:=trod_struct4 Tryz.underlying28 h;rw[hC]at hl;have e1:Tryz.prog.cellsOf 24=1:=(by kernel_rfl);have e2:Tryz.prog.cellsOf 3=1:=(by kernel_rfl);have e3:Tryz.prog.cellsOf 25=1:=(by kernel_rfl);have e4:Tryz.prog.cellsOf 26=1:=(by kernel_rfl);simp only[e1,e2,e3,e4]at h0 h1 h2 h3
 match cs,hl with
 |[a,b,c,d],_=>
  have h0':DataW.trod enc Tryz.prog w base spare held n' 24 [a]=some y0:=(by simpa using h0);obtain⟨a0,cap0,l0,he0,hl0,hn0,hm0⟩:=LX (by kernel_rfl) h0';obtain⟨k1,g1,_⟩:=DataW.trod_int Tryz.underlying3 h1;simp at g1 he0;have h2':DataW.trod enc Tryz.prog w base spare held n' 25 [c]=some y2:=(by simpa using h2);have h3':DataW.trod enc Tryz.prog w base spare held n' 26 [d]=some y3:=(by simpa using h3);obtain⟨A2,c2,l2,hv2,hf2,hn2⟩:=IV h2';obtain⟨A3,c3,l3,hv3,hf3,hn3⟩:=IX h3';exact⟨a0,cap0,l0,k1,A2,c2,l2,A3,c3,l3,by rw[he0,g1,hv2,hv3],hl0,hn0,hm0,hf2,hn2,hf3,hn3⟩
end
end Go.Proofs.YtpjechjoijjhpaaGreatDoor
namespace Go.Proofs.YtpjechjoijjhpaaGreatDoor
def O9(P:Program)(fn:Func)(s:ChangeSpec)(c:OpenClaim):Bool:=
 c.wf (OpenSpec.ofChange s)&&laidOutB P&&mapsRowed P&&fn.params.all (P.readableRec ·)&&namedTie P c.named s.vars
def DV(P:Program)(fn:Func)(s:ChangeSpec)(c:OpenClaim):Bool:=
 (c.stops==[])&&(P.stops==[])&&(c.knobs==[])&&(P.stopKnobs==[])&&
 (c.maps==(fn.params.toList++s.plain.varTypes P).any (P.mapsRec ·))&&(c.ifaces==(fn.params.toList++s.plain.varTypes P).any (P.ifacesRec ·))&&(c.mapsOut==P.mapsAmong fn.resultTypes.toList)&&
 (c.loops==(fn.params.toList++s.plain.varTypes P).any (P.loopsFrom ·))&&(c.wideKeys==(fn.params.toList++s.plain.varTypes P++fn.resultTypes.toList).any (P.wideKeysFrom ·))&&
 s.vars.all (P.varReadable ·)&&fn.resultTypes.all (fun t=>P.readableRec t&&decide (t<P.types.size))&&(c.ifacesOut==fn.resultTypes.toList.any (P.ifacesRec ·))&&(c.loopsOut==fn.resultTypes.toList.any (P.loopsFrom ·))
def Pb(P:Program)(fn:Func)(s:ChangeSpec)(c:OpenClaim):Bool:=
 (c.plainKeys==P.plainKeys)&&c.shortTexts.isNone&&P.stopsHeard&&P.mayEnter&&(c.lifted==P.liftsFinal)&&(P.make==some c.make)&&(c.kinds==(if c.domain.isEmpty then[]else fn.params.toList.map fun t=>match P.underlying t with|some (.int k)=>some k|_=>none))&&(c.pinned==c.pinnedBy)&&
 (c.veiled==(fn.params.toList++s.plain.varTypes P++fn.resultTypes.toList).any (P.veiledRec ·))&&c.veiledFits P fn.params.toList (fn.params.toList++s.plain.varTypes P++fn.resultTypes.toList)
theorem DW {P:Program} {f:FuncId} {fn:Func} {s:ChangeSpec} {c:OpenClaim} (he:O9 P fn s c=true)
 (ha:(c.inPlace==P.inPlace f)=true) (hb:(c.unfollowed==P.unfollowed f)=true) (hc:(c.recurses==P.recurses f)=true) (hd:(c.named==P.varsNamed f)=true)
 (hf:DV P fn s c=true) (hg:Pb P fn s c=true):joinedFacts P f fn s c=true:=by
 unfold O9 at he;unfold DV at hf;unfold Pb at hg;unfold joinedFacts;rw[Bool.and_eq_true]at he hf hg;simp only[Bool.and_eq_true,and_assoc]at he hf hg⊢;obtain⟨e1,e2,e3,e4,e5⟩:=he;obtain⟨f1,f2,f3,f4,f5,f6,f7,f8,f9,f10,f11,f12,f13⟩:=hf;obtain⟨g1,g2,g3,g4,g5,g6,g7,g8,g9,g10⟩:=hg;exact⟨e1,e2,e3,e4,e5,f1,f2,f3,f4,ha,hb,hc,hd,f5,f6,f7,f8,f9,f10,f11,f12,f13,g1,g2,g3,g4,g5,g6,g7,g8,g9,g10⟩
end Go.Proofs.YtpjechjoijjhpaaGreatDoor
namespace Go.Proofs.YtpjechjoijjhpaaGreatDoor
open Go Go.RowKit Go.Inq
def L8(H:List Txn)(level:Int):Nat→Int→Int→List Fct→Say×List Fct×Nat
 |0,_,_,L=>(oC,L,0)
 |n+1,a,i,L=>
  let r:=Em H level a i L
  if r.2.said=0 then
   let x:=L8 H level n r.1.1 r.1.2 (L++r.2.facts)
   (x.1,x.2.1,x.2.2+1)
  else(r.2,L++r.2.facts,1)
def Uz(L:List Fct):Prop:=∀f∈L,f.cyc.length≤1000000
theorem CS{H:List Txn}{level:Int}{L:List Fct}{c:Cho}{f:Fct}(h:JG H level L c=some f):f.cyc=[]:=by
 unfold JG at h;have hm:=List.mem_of_find?_eq_some h;rw[List.mem_map]at hm;obtain⟨x,-,rfl⟩:=hm;rfl
theorem L9{H:List Txn}{level a i:Int}{L:List Fct}:(Em H level a i L).2.facts.length≤1∧Uz (Em H level a i L).2.facts:=by
 unfold Em;split
 ·rename_i hg;have hr:aG H=true:=by
   simp only[Bool.and_eq_true]at hg;have h1:=hg.1.1;unfold TL at h1;simp only[Bool.and_eq_true]at h1;exact h1.1.1.1.1
  have hn:=((aD H).1 hr).1;have hfl:∀x,(iL H level x).length≤1000000:=fun x=>by
   unfold iL;rw[List.length_map];exact Nat.le_trans BZ (by omega)
  split
  ·obtain⟨-,h2⟩:=GD H level L;dsimp only;rw[h2];exact⟨by simp,fun f hf=>by cases hf⟩
  ·dsimp only;split
   ·exact⟨by simp[oC],fun f hf=>by simp[oC]at hf⟩
   ·dsimp only;generalize(dD H).getD a.toNat dA=p;refine⟨by rcases Kq H level L p with⟨-,h⟩|⟨-,h⟩<;>simp[h]<;>omega,?_⟩;unfold GA;split
    ·rename_i f hf;intro g hg;obtain rfl:g=f:=(by simpa using hg);rw[CS hf];simp
    ·split
     ·rename_i f hf;intro g hg;obtain rfl:g=f:=(by simpa using hg);rw[CS hf];simp
     ·dsimp only;split
      ·split
       ·intro g hg;simp[oC]at hg
       ·intro g hg;obtain rfl:g=_:=(by simpa using hg);exact hfl _
      ·split
       ·intro g hg;obtain rfl:g=_:=(by simpa using hg);exact hfl _
       ·intro g hg;simp at hg
 ·exact⟨by simp[vG],fun f hf=>by simp[vG]at hf⟩
structure Pf(H:List Txn)(level:Int)(N k:Nat)(a i:Int)(L:List Fct)(F:Say×List Fct×Nat):Prop where
 le:k≤N
 len:L.length≤k
 cyc:Uz L
 fin:F=((L8 H level (N-k) a i L).1,(L8 H level (N-k) a i L).2.1,(L8 H level (N-k) a i L).2.2+k)
theorem Pf.start{H:List Txn}{level:Int}{N:Nat}:Pf H level N 0 0 0 [] (L8 H level N 0 0 []):=
 ⟨Nat.zero_le _,by simp,fun f hf=>by simp at hf,by simp⟩
theorem Pf.step{H:List Txn}{level:Int}{N k:Nat}{a i:Int}{L:List Fct}{F:Say×List Fct×Nat}(h:Pf H level N k a i L F)(hk:k<N){r:(Int×Int)×Say}(hr:Em H level a i L=r):
 r.2.facts.length≤1∧(r.2.said=0→Pf H level N (k+1) r.1.1 r.1.2 (L++r.2.facts) F)∧(r.2.said≠0→F=(r.2,L++r.2.facts,k+1)):=by
 obtain⟨h1,h2⟩:=L9 (H:=H) (level:=level) (a:=a) (i:=i) (L:=L);rw[hr]at h1 h2;have hf:=h.fin;rw[show N-k=(N-(k+1))+1 by omega]at hf;unfold L8 at hf;dsimp only at hf;rw[hr]at hf;have hl:=h.len;refine⟨h1,fun hs=>⟨hk,by rw[List.length_append];omega,fun f hm=> ?_,?_⟩,fun hs=> ?_⟩
 ·rcases List.mem_append.1 hm with g|g
  ·exact h.cyc f g
  ·exact h2 f g
 ·rw[if_pos hs]at hf;rw[hf];dsimp only;rw[show k+1=1+k by omega,←Nat.add_assoc]
 ·rw[if_neg hs]at hf;rw[hf,Nat.add_comm 1 k]
end Go.Proofs.YtpjechjoijjhpaaGreatDoor
namespace Go.Proofs.YtpjechjoijjhpaaGreatDoor
open Go.RowKit Go.Inq
def ofC(order:List Int)(p:Cho):Cho:=if Dr order p.a>Dr order p.b then⟨p.key,p.b,p.a⟩else p
def ofL(H:List Txn)(order:List Int):List Cho:=(dD H).map (ofC order)
structure J7(n:Nat)(E:aj)(o:List Nat):Prop where
 t:Rb n E o
 len:o.length=n
 all:∀y,y<n→y∈o
theorem J7.at_{n:Nat}{E:aj}{o:List Nat}(h:J7 n E o){x:Nat}(hx:x<n):∃hi:o.idxOf x<o.length,o[o.idxOf x]=x:=⟨List.idxOf_lt_length_of_mem (h.all x hx),List.getElem_idxOf _⟩
theorem J7.up{n:Nat}{E:aj}{o:List Nat}(h:J7 n E o){x y:Nat}(hx:x<n)(hy:y<n)(he:E x y=true):o.idxOf x<o.idxOf y:=(h.t.up y (h.all y hy) x hx he).2
theorem J8{H:List Txn}(hr:aG H=true){level:Int}{L:List Fct}{tree:List Nod}(h:jU tree):jU (fU H level L tree)∧(fU H level L tree).length=2*L.length+tree.length:=by
 unfold fU;refine⟨fun n hn=> ?_,by simp;omega⟩;rw[List.mem_append,List.mem_append]at hn;rcases hn with(hn|hn)|hn
 ·obtain⟨f,_,rfl⟩:=List.mem_map.1 hn;exact Nat.zero_le _
 ·exact h n hn
 ·obtain⟨k,_,rfl⟩:=List.mem_map.1 hn;exact mH hr _ _
theorem Ma{H:List Txn}(hr:aG H=true){E:aj}{o:List Nat}(h:fK H.length E=some o):(au o).length≤1000000:=by
 have hn:=((aD H).1 hr).1;have:=gH (show cO H.length _ H.length=some o from h);rw[aR];omega
theorem zS{H:List Txn}(hr:aG H=true){level:Int}{L:List Fct}(hl:L.length<20000):∀(r:List Mk) (tree:List Nod),jU tree→(∀m∈r,jU m.done)→bJ r+tree.length≤60000000→
 tJ (dG H level L r tree).2.tree∧(dG H level L r tree).2.order=[]
 |[],tree,h,_,hs=>by
  obtain⟨g1,g2⟩:=J8 hr (level:=level) (L:=L) h;exact⟨⟨by show(fU _ _ _ _).length≤_;rw[g2];omega,g1⟩,rfl⟩
 |m::r,tree,h,hm,hs=>by
  rw[kK]at hs;unfold dG;split
  ·refine zS hr hl r _ ?_ (fun x hx=>hm x (List.mem_cons_of_mem _ hx)) (by simp;omega);intro n hn;simp only[List.mem_cons,List.mem_append]at hn;rcases hn with rfl|hn|hn
   ·exact Nat.zero_le _
   ·exact hm m (List.mem_cons_self ..) n hn
   ·exact h n hn
  ·exact⟨⟨Nat.zero_le _,by simp[oC]⟩,rfl⟩
theorem IY{H:List Txn}{level:Int}{L:List Fct}{path:List Mk}(h:∀m∈path,jU m.done)(hs:bJ path≤50000000):
 tJ (dO H level L path).2.tree∧(au (dO H level L path).2.order).length≤1000000:=by
 have h0:tJ []:=⟨Nat.zero_le _,by simp⟩;unfold dO;split
 ·rename_i hg;have hR:=iB.1 hg;have hr:=(gQ.1 (dP hR.uf)).1;dsimp only;split
  ·obtain⟨g1,g2⟩:=zS hr (level:=level) (show L.length<20000 by have:=hR.len;omega) path.reverse [⟨dA,iL H level (ay L++aK path)⟩] (by
    intro n hn;rw[List.mem_singleton]at hn;subst hn;exact mH hr _ _) (fun m hm=>h m (List.mem_reverse.1 hm)) (by rw[qM,List.length_singleton];omega)
   exact⟨g1,by rw[g2];exact Nat.zero_le _⟩
  ·split
   ·refine⟨h0,?_⟩;dsimp only;cases ho:fK H.length (dW H level (ay L++aK path))with
    |none=>exact Nat.zero_le _
    |some o=>exact Ma hr ho
   ·exact⟨h0,Nat.zero_le _⟩
 ·exact⟨h0,Nat.zero_le _⟩
end Go.Proofs.YtpjechjoijjhpaaGreatDoor
namespace Go.Proofs.YtpjechjoijjhpaaGreatDoor
open Go.RowKit Go.Inq
set_option maxHeartbeats 4000000
attribute [local go_sem↓] Go.wp_at_zero Go.wp_at_succ
abbrev og:=Fct×Option Addr×Nat
def sP(x:og):List Value:=[.int .i64 x.1.c.key,.int .i64 x.1.c.a,.int .i64 x.1.c.b,.int .i64 x.1.kind,.int .i64 x.1.i,.int .i64 x.1.j,.slice x.2.1 x.1.cyc.length x.2.2]
theorem Pg(x:og):(sP x).length=7:=rfl
theorem Ph:∀x,∀u∈sP x,u.oneCell'=true:=by
 intro x u hu;simp only[sP,List.mem_cons,List.not_mem_nil,or_false]at hu;rcases hu with rfl|rfl|rfl|rfl|rfl|rfl|rfl<;>rfl
theorem Pj:(Tryz.prog.info? 73).map (fun i=>(i.zero,i.size,i.bytes))=some (some (.agg #[.int .i64 0,.int .i64 0,.int .i64 0,.int .i64 0,.int .i64 0,.int .i64 0,.slice none 0 0]),7,72):=by kernel_rfl
theorem uS{P:Program}{ops:Array Oper}{Q:Exit→Act→World→Prop}{o:Oper}{rest:List Oper}{a:Act}{W:World}(h:∀R,R=rest→wpList P ops Q (o::R) a W):wpList P ops Q (o::rest) a W:=h _ rfl
def IZ(w:World)(M:List og)(L:List Fct):Prop:=M.map (·.1)=L∧∀x∈M,aM w (Old w) (.slice x.2.1 x.1.cyc.length x.2.2) x.1.cyc
theorem IZ.snoc{w:World}{M:List og}{L:List Fct}{k:Nat}(h:IZ w M (L.take k))(hk:k<L.length){A:Option Addr}{c:Nat}(hy:aM w (Old w) (.slice A L[k].cyc.length c) L[k].cyc):IZ w (M++[(L[k],A,c)]) (L.take (k+1)):=by
 refine⟨by rw[List.map_append,h.1,List.take_succ_eq_append_getElem hk];rfl,fun x hx=> ?_⟩;rcases List.mem_append.1 hx with hx|hx
 ·exact h.2 x hx
 ·rw[List.mem_singleton.1 hx];exact hy
theorem IZ.len{w:World}{M:List og}{L:List Fct}(h:IZ w M L):M.length=L.length:=by rw[←h.1,List.length_map]
theorem IZ.s{w w':World}{M:List og}{L:List Fct}{base:Nat}{e:TypeId}{v:Value}(h:IZ w M L)(ho:w'.ownsRow base e 7 v M.length (M.map sP).flatten)(hb:Below w.heap.size w w'):bM w' (Old w') v L:=by
 refine SlR.mX (ys:=M.map sP) ho h.len rfl (by rw[List.length_map];exact h.len) (fun i cs x h1 h2=> ?_) (fun g hg=>(ho.lt g hg).2);rw[List.getElem?_map]at h1;obtain⟨m,hm,rfl⟩:=Option.map_eq_some_iff.1 h1;have e1:(M.map (·.1))[i]?=some m.1:=(by rw[List.getElem?_map,hm];rfl);rw[h.1,h2]at e1;injection e1 with e1
 refine⟨rfl,m.2.1,m.2.2,by rw[e1];rfl,?_⟩;rw[e1];exact(h.2 m (List.mem_of_getElem? hm)).below hb
abbrev oh:=Nod×Option Addr×Nat
def lF(x:oh):List Value:=[.int .i64 x.1.c.key,.int .i64 x.1.c.a,.int .i64 x.1.c.b,.slice x.2.1 x.1.cyc.length x.2.2]
theorem Mc(x:oh):(lF x).length=4:=rfl
theorem Md:∀x,∀u∈lF x,u.oneCell'=true:=by
 intro x u hu;simp only[lF,List.mem_cons,List.not_mem_nil,or_false]at hu;rcases hu with rfl|rfl|rfl|rfl<;>rfl
theorem zT:(Tryz.prog.info? 93).map (fun i=>(i.zero,i.size,i.bytes))=some (some (.agg #[.int .i64 0,.int .i64 0,.int .i64 0,.slice none 0 0]),4,48):=by kernel_rfl
def I4(w:World)(M:List oh)(L:List Nod):Prop:=M.map (·.1)=L∧∀x∈M,aM w (Old w) (.slice x.2.1 x.1.cyc.length x.2.2) x.1.cyc
theorem I4.snoc{w:World}{M:List oh}{L:List Nod}{k:Nat}(h:I4 w M (L.take k))(hk:k<L.length){A:Option Addr}{c:Nat}(hy:aM w (Old w) (.slice A L[k].cyc.length c) L[k].cyc):I4 w (M++[(L[k],A,c)]) (L.take (k+1)):=by
 refine⟨by rw[List.map_append,h.1,List.take_succ_eq_append_getElem hk];rfl,fun x hx=> ?_⟩;rcases List.mem_append.1 hx with hx|hx
 ·exact h.2 x hx
 ·rw[List.mem_singleton.1 hx];exact hy
theorem I4.len{w:World}{M:List oh}{L:List Nod}(h:I4 w M L):M.length=L.length:=by rw[←h.1,List.length_map]
theorem I4.s{w w':World}{M:List oh}{L:List Nod}{base:Nat}{e:TypeId}{v:Value}(h:I4 w M L)(ho:w'.ownsRow base e 4 v M.length (M.map lF).flatten)(hb:Below w.heap.size w w'):aY w' (Old w') v L:=by
 refine SlR.mX (ys:=M.map lF) ho h.len rfl (by rw[List.length_map];exact h.len) (fun i cs x h1 h2=> ?_) (fun g hg=>(ho.lt g hg).2);rw[List.getElem?_map]at h1;obtain⟨m,hm,rfl⟩:=Option.map_eq_some_iff.1 h1;have e1:(M.map (·.1))[i]?=some m.1:=(by rw[List.getElem?_map,hm];rfl);rw[h.1,h2]at e1;injection e1 with e1
 refine⟨rfl,m.2.1,m.2.2,by rw[e1];rfl,?_⟩;rw[e1];exact(h.2 m (List.mem_of_getElem? hm)).below hb
end Go.Proofs.YtpjechjoijjhpaaGreatDoor
