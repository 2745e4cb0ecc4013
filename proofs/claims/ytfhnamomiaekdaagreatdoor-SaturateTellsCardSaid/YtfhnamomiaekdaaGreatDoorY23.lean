/-
  Plain words of layer 9: pairs are each there once, and a choice that may be is one, one way or the other; no program in sight.
-/
import Derived.Test.YtfhnamomiaekdaaGreatDoorProg
import Derived.Test.YtfhnamomiaekdaaGreatDoorRows
import Derived.Test.YtfhnamomiaekdaaGreatDoorCards
import Derived.Test.YtfhnamomiaekdaaGreatDoorTie
import Derived.ProofKit
import Derived.OpenShut
import Derived.LaidMore
import Derived.Lay
import Derived.SevenTiedAt
import Derived.Stop.Joined
import Derived.HandedShaped
import Derived.SliceStrings
import Derived.Deep.Slices
import Derived.Below
import Derived.Carry
import Derived.Lib.LaidU8
import Derived.Deep.Fields
import Derived.ChangeSame
import Derived.Lib.SmallJoins
import Derived.Deep.Strs
import Derived.JoinedOf
import Derived.Test.YtfhnamomiaekdaaGreatDoorY05
import Derived.Test.YtfhnamomiaekdaaGreatDoorY08
import Derived.Test.YtfhnamomiaekdaaGreatDoorY13
import Derived.Test.YtfhnamomiaekdaaGreatDoorY22
import Derived.Test.YtfhnamomiaekdaaGreatDoorY19
import Derived.Test.YtfhnamomiaekdaaGreatDoorY02
import Derived.Test.YtfhnamomiaekdaaGreatDoorY06
set_option linter.unusedVariables false
set_option linter.unusedSimpArgs false
namespace Go.Proofs.YtfhnamomiaekdaaGreatDoor
open Go.RowKit Go.Inq
end Go.Proofs.YtfhnamomiaekdaaGreatDoor
namespace Go.Inq
def Qq(H:List Txn)(level:Int)(l:List Cho):Bool:= !yT H.length (bK H level l)
end Go.Inq
namespace Go.Proofs.YtfhnamomiaekdaaGreatDoor
open Go.RowKit Go.Inq
def LB(H:List Txn)(level:Int):List Cho→List Cho→Bool
 |[],l=>Qq H level l
 |c::P,l=>LB H level P (l++[c])||LB H level P (l++[bg c])
def hasB(H:List Txn)(level:Int):Bool:=LB H level (aM H) []
set_option maxHeartbeats 1000000
end Go.Proofs.YtfhnamomiaekdaaGreatDoor
namespace Go.Proofs.YtfhnamomiaekdaaGreatDoor
open Go Go.RowKit Go.Inq
def Jd(H:List Txn)(level:Int):Nat→Int→Int→List Fct→Say×List Fct×Nat
 |0,_,_,L=>(lW,L,0)
 |n+1,a,i,L=>
  let r:=dR H level a i L
  if r.2.said=0 then
   let x:=Jd H level n r.1.1 r.1.2 (L++r.2.facts)
   (x.1,x.2.1,x.2.2+1)
  else(r.2,L++r.2.facts,1)
def Qr(L:List Fct):Prop:=∀f∈L,f.cyc.length≤1000000
theorem zR{H:List Txn}{level:Int}{L:List Fct}{c:Cho}{f:Fct}(h:fq H level L c=some f):f.cyc=[]:=by
 unfold fq at h;have hm:=List.mem_of_find?_eq_some h;rw[List.mem_map]at hm;obtain⟨x,-,rfl⟩:=hm;rfl
theorem zS{H:List Txn}{level a i:Int}{L:List Fct}:(dR H level a i L).2.facts.length≤1∧Qr (dR H level a i L).2.facts:=by
 unfold dR;split
 ·rename_i hg;have hr:aC H=true:=by
   simp only[Bool.and_eq_true]at hg;have h1:=hg.1.1;unfold jR at h1;simp only[Bool.and_eq_true]at h1;exact h1.1.1.1.1
  have hn:=((aA H).1 hr).1;have hfl:∀x,(bA H level x).length≤1000000:=fun x=>by
   unfold bA;rw[List.length_map];exact Nat.le_trans jC (by omega)
  split
  ·obtain⟨-,h2⟩:=EI H level L;dsimp only;rw[h2];exact⟨by simp,fun f hf=>by cases hf⟩
  ·dsimp only;split
   ·exact⟨by simp[lW],fun f hf=>by simp[lW]at hf⟩
   ·dsimp only;generalize(aM H).getD a.toNat bn=p;refine⟨by rcases Ih H level L p with⟨-,h⟩|⟨-,h⟩<;>simp[h]<;>omega,?_⟩;unfold gQ;split
    ·rename_i f hf;intro g hg;obtain rfl:g=f:=(by simpa using hg);rw[zR hf];simp
    ·split
     ·rename_i f hf;intro g hg;obtain rfl:g=f:=(by simpa using hg);rw[zR hf];simp
     ·dsimp only;split
      ·split
       ·intro g hg;simp[lW]at hg
       ·intro g hg;obtain rfl:g=_:=(by simpa using hg);exact hfl _
      ·split
       ·intro g hg;obtain rfl:g=_:=(by simpa using hg);exact hfl _
       ·intro g hg;simp at hg
 ·exact⟨by simp[jk],fun f hf=>by simp[jk]at hf⟩
structure LC(H:List Txn)(level:Int)(N k:Nat)(a i:Int)(L:List Fct)(F:Say×List Fct×Nat):Prop where
 le:k≤N
 len:L.length≤k
 cyc:Qr L
 fin:F=((Jd H level (N-k) a i L).1,(Jd H level (N-k) a i L).2.1,(Jd H level (N-k) a i L).2.2+k)
theorem LC.start{H:List Txn}{level:Int}{N:Nat}:LC H level N 0 0 0 [] (Jd H level N 0 0 []):=
 ⟨Nat.zero_le _,by simp,fun f hf=>by simp at hf,by simp⟩
theorem LC.step{H:List Txn}{level:Int}{N k:Nat}{a i:Int}{L:List Fct}{F:Say×List Fct×Nat}(h:LC H level N k a i L F)(hk:k<N){r:(Int×Int)×Say}(hr:dR H level a i L=r):
 r.2.facts.length≤1∧(r.2.said=0→LC H level N (k+1) r.1.1 r.1.2 (L++r.2.facts) F)∧(r.2.said≠0→F=(r.2,L++r.2.facts,k+1)):=by
 obtain⟨h1,h2⟩:=zS (H:=H) (level:=level) (a:=a) (i:=i) (L:=L);rw[hr]at h1 h2;have hf:=h.fin;rw[show N-k=(N-(k+1))+1 by omega]at hf;unfold Jd at hf;dsimp only at hf;rw[hr]at hf;have hl:=h.len;refine⟨h1,fun hs=>⟨hk,by rw[List.length_append];omega,fun f hm=> ?_,?_⟩,fun hs=> ?_⟩
 ·rcases List.mem_append.1 hm with g|g
  ·exact h.cyc f g
  ·exact h2 f g
 ·rw[if_pos hs]at hf;rw[hf];dsimp only;rw[show k+1=1+k by omega,←Nat.add_assoc]
 ·rw[if_neg hs]at hf;rw[hf,Nat.add_comm 1 k]
end Go.Proofs.YtfhnamomiaekdaaGreatDoor
namespace Go.Proofs.YtfhnamomiaekdaaGreatDoor
open Go.RowKit Go.Inq
set_option maxHeartbeats 8000000
attribute [local go_sem↓] Go.wp_at_zero Go.wp_at_succ
def LD(w:World)(F:Say×List Fct×Nat)(e:Ending)(w':World):Prop:=∃v vf,e= .returned (.tuple #[v,vf,.int .i64 (F.2.2:Int)])∧qg w' w.heap.size v F.1∧iw w' w.heap.size vf F.2.1∧Below w.heap.size w w'
theorem Fw{W:World}{K:Nat→Prop}{g:Nat}{t0 t1:Txn}{vw0 vr0 vw1 vr1:Value}(h:Blk W g 109 #[.int .i64 t0.bL,vw0,vr0,.int .i64 t1.bL,vw1,vr1])(h0:aI W K vw0 t0.writes)(h1:ItS W K vr0 t0.reads)(h2:aI W K vw1 t1.writes)(h3:ItS W K vr1 t1.reads)(hK:K g):
 aF W K (.slice (some ⟨g,0,none⟩) 2 2) [t0,t1]:=
 wH (l:=[t0,t1]) [[.int .i64 t0.bL,vw0,vr0],[.int .i64 t1.bL,vw1,vr1]] h rfl (fun i cs x q1 q2=>by
  match i with
  |0=>simp at q1 q2;subst q1 q2;exact⟨rfl,_,_,rfl,h0,h1⟩
  |1=>simp at q1 q2;subst q1 q2;exact⟨rfl,_,_,rfl,h2,h3⟩
  |i+2=>simp at q1) hK (by simp)
def exS:List Txn:=[⟨0,[2],[⟨2,-1⟩]⟩,⟨1,[2],[⟨2,0⟩]⟩]
theorem l9:aM exS=[⟨2,0,1⟩]:=by
 unfold aM;rw[wQ (by decide)]
 kernel_rfl
def exF:Fct:=⟨⟨2,0,1⟩,4,0,0,[0,1]⟩
theorem OV:dR exS 0 0 0 []=((0,0),⟨0,[],[],[exF]⟩):=by
 unfold dR jR;rw[l9]
 kernel_rfl
theorem OW:dR exS 0 0 1 [exF]=((0,1),⟨1,[0,1],[],[]⟩):=by
 unfold dR jR eZ jQ;rw[l9]
 kernel_rfl
theorem OX:dR exS 0 1 0 []=((1,0),⟨3,[],[],[]⟩):=by
 unfold dR jR;rw[l9]
 kernel_rfl
theorem OY:jR exS 0 1=true:=by
 unfold jR;rw[l9]
 kernel_rfl
theorem OZ:jR exS 0 2=false:=by
 unfold jR;rw[l9]
 kernel_rfl
structure Je(w:World)(gs g:Nat)(x y:Int)(o:Say)(vf:Value):Prop where
 ks:Blk w gs 26 #[.int .i64 x,.int .i64 y]
 ko:∃vo vt,Blk w g 36 #[.int .i64 o.said,vo,vt,vf]
 fs:iw w 0 vf o.facts
theorem Je.below{w w':World}{gs g:Nat}{x y:Int}{o:Say}{vf:Value}(h:Je w gs g x y o vf)(hb:Below w.heap.size w w'):Je w' gs g x y o vf:=by
 obtain⟨vo,vt,h2⟩:=h.ko;exact⟨h.ks.below hb h.ks.lt,⟨vo,vt,h2.below hb h2.lt⟩,h.fs.below hb⟩
theorem aS.any{w:World}{base:Nat}{v:Value}{l:List Int}(h:aS w base v l):∃A n c,v= .slice A n c:=by
 obtain⟨A,c,e⟩:=aS.form h;exact⟨A,_,c,e⟩
theorem dn.any{w:World}{base:Nat}{v:Value}{l:List Nod}(h:dn w base v l):∃A n c,v= .slice A n c:=by
 obtain⟨A,c,e⟩:=aW.form h;exact⟨A,_,c,e⟩
set_option maxRecDepth 100000 in
theorem Dp(w:World)(hTB:iE w):Calls Tryz.prog 10 #[] w fun e w'=>e= .returned (.bool true)∧Below w.heap.size w w':=by
 have hE1:=hide OV;have hE2:=hide OW;have hE3:=hide OX;have hE4:=hide OY;have hE5:=hide OZ;obtain⟨W1,hW1⟩:∃W1,w.alloc (.cells #[.int .i64 2] 3)=W1:=⟨_,rfl⟩;obtain⟨W2,hW2⟩:∃W2,W1.alloc (.cells #[.int .i64 2,.int .i64 (-1)] 106)=W2:=⟨_,rfl⟩;obtain⟨W3,hW3⟩:∃W3,W2.alloc (.cells #[.int .i64 2] 3)=W3:=⟨_,rfl⟩;obtain⟨W4,hW4⟩:∃W4,W3.alloc (.cells #[.int .i64 2,.int .i64 0] 106)=W4:=⟨_,rfl⟩;obtain⟨W5,hW5⟩:∃W5,W4.alloc (.cells #[.int .i64 0,.slice (some ⟨w.heap.size,0,none⟩) 1 1,.slice (some ⟨W1.heap.size,0,none⟩) 1 1,.int .i64 1,.slice (some ⟨W2.heap.size,0,none⟩) 1 1,.slice (some ⟨W3.heap.size,0,none⟩) 1 1] 109)=W5:=⟨_,rfl⟩;obtain⟨W6,hW6⟩:∃W6,W5.alloc (.cells #[.slice (some ⟨W4.heap.size,0,none⟩) 2 2] 24)=W6:=⟨_,rfl⟩;have s1:=aH hW1;have s2:=aH hW2;have s3:=aH hW3;have s4:=aH hW4;have s5:=aH hW5;have k1:=(((((Blk.newEq hW1).ay hW2).ay hW3).ay hW4).ay hW5).ay hW6;have k2:=((((Blk.newEq hW2).ay hW3).ay hW4).ay hW5).ay hW6;have k3:=(((Blk.newEq hW3).ay hW4).ay hW5).ay hW6;have k4:=((Blk.newEq hW4).ay hW5).ay hW6;have k5:=(Blk.newEq hW5).ay hW6;have k6:=Blk.newEq hW6;have b6:=ah (ah (ah (ah (ah (ah (Below.refl w.heap.size w) hW1 (Nat.le_refl _)) hW2 (by omega)) hW3 (by omega)) hW4 (by omega)) hW5 (by omega)) hW6 (by omega);have hT:aF W6 (Old W6) (.slice (some ⟨W4.heap.size,0,none⟩) 2 2) exS:=
  Fw (t0:=⟨0,[2],[⟨2,-1⟩]⟩) (t1:=⟨1,[2],[⟨2,0⟩]⟩) k5 (aI.bB (l:=[2]) k1 k1.lt) (SlR.one k2 rfl rfl k2.lt) (aI.bB (l:=[2]) k3 k3.lt) (SlR.one k4 rfl rfl k4.lt) k5.lt
 replace hT:=hide hT;clear k1 k2 k3 k4 k5 s1 s2 s3 s4 s5;go_enter Tryz.func10,Tryz.ntmps10;go_upto_region 2 with fail;clear hW1 hW2 hW3 hW4 hW5 hW6;have hc:=nD (some ⟨W4.heap.size,0,none⟩) 2 exS 0 0 0 none 0 [] W6 hT.out ⟨by decide,by decide⟩ (bF.nil _ _ _ _) ⟨by simp,by simp⟩ (hTB.below b6);rw[hE1.out]at hc;have c0:=Blk.n0 k6;go_wp2_with fail;refine Calls.mono (by exact hc) ?_;clear hc c0;rintro e Z ⟨v,rfl,hv,b4⟩;obtain⟨vo,vt,vf,rfl,o1,o2,o3⟩:=hv;obtain⟨Ao,no,co,rfl⟩:=aS.any o1;obtain⟨At,nt,ct,rfl⟩:=dn.any o2;obtain⟨Af,cf,rfl⟩:=aW.form o3;dsimp only[List.length_cons,List.length_nil,Nat.zero_add]at o3⊢;clear o1 o2;replace o3:=hide o3;go_upto_region 3 with fail;obtain⟨X,hX⟩:∃X,(Z.alloc (.cells #[.int .i64 0,.int .i64 0] 26)).alloc (.cells #[.int .i64 0,.slice Ao no co,.slice At nt ct,.slice Af 1 cf] 36)=X:=⟨_,rfl⟩;rw[hX];have q1:Je X Z.heap.size (Z.heap.size+1) 0 0 ⟨0,[],[],[exF]⟩ (.slice Af 1 cf):=⟨Blk.fC hX,⟨_,_,Blk.dQ hX⟩,(o3.out.below (aG hX)).base (Nat.zero_le _)⟩;have hbX:=hide (b4.trans ((aG hX).mono b4.size));clear hX b4 o3;generalize Z.heap.size=z1 at*;clear Z;replace k6:=k6.below hbX.out k6.lt;replace hT:=hide (hT.out.below hbX.out);replace b6:=b6.trans (hbX.out.mono b6.size);clear hbX hE1;generalize W5.heap.size=gh at*;generalize W4.heap.size=gt at*;obtain⟨vo1,vt1,ko1⟩:=q1.ko;have c0:=Blk.n0 k6;have y3:=Blk.n3 ko1;have hc:=nD (some ⟨gt,0,none⟩) 2 exS 0 0 1 Af cf [exF] X hT.out ⟨by decide,by decide⟩ q1.fs.s ⟨by simp,by simp[exF]⟩ (hTB.below b6);rw[hE2.out]at hc;replace hc:=hide hc;replace q1:=hide q1;clear ko1 hE2;go_wp2_with fail;refine Calls.mono (by exact hc.out) ?_;clear hc c0 y3;rintro e Z ⟨v,rfl,hv,b4⟩;obtain⟨vo,vt,vf,rfl,o1,o2,o3⟩:=hv;obtain⟨Ao,no,co,rfl⟩:=aS.any o1;obtain⟨At,nt,ct,rfl⟩:=dn.any o2;obtain⟨Af,cf,rfl⟩:=aW.form o3;dsimp only[List.length_cons,List.length_nil,Nat.zero_add]at o3⊢;clear o1 o2;replace o3:=hide o3;go_upto_region 6 with fail;obtain⟨Y,hX⟩:∃Y,(Z.alloc (.cells #[.int .i64 0,.int .i64 1] 26)).alloc (.cells #[.int .i64 1,.slice Ao no co,.slice At nt ct,.slice Af 0 cf] 36)=Y:=⟨_,rfl⟩;rw[hX];have q2:Je Y Z.heap.size (Z.heap.size+1) 0 1 ⟨1,[],[],[]⟩ (.slice Af 0 cf):=⟨Blk.fC hX,⟨_,_,Blk.dQ hX⟩,(o3.out.below (aG hX)).base (Nat.zero_le _)⟩;have hbX:=hide (b4.trans ((aG hX).mono b4.size));clear hX b4 o3;generalize Z.heap.size=z2 at*;clear Z;replace k6:=k6.below hbX.out k6.lt;replace hT:=hide (hT.out.below hbX.out);replace q1:=hide (q1.out.below hbX.out);replace b6:=b6.trans (hbX.out.mono b6.size);clear hbX;have c0:=Blk.n0 k6;have hc:=nD (some ⟨gt,0,none⟩) 2 exS 0 1 0 none 0 [] Y hT.out ⟨by decide,by decide⟩ (bF.nil _ _ _ _) ⟨by simp,by simp⟩ (hTB.below b6);rw[hE3.out]at hc;replace hc:=hide hc;replace q2:=hide q2;clear hE3;go_wp2_with fail;refine Calls.mono (by exact hc.out) ?_;clear hc c0;rintro e Z ⟨v,rfl,hv,b4⟩;obtain⟨vo,vt,vf,rfl,o1,o2,o3⟩:=hv;obtain⟨Ao,no,co,rfl⟩:=aS.any o1;obtain⟨At,nt,ct,rfl⟩:=dn.any o2;obtain⟨Af,cf,rfl⟩:=aW.form o3;dsimp only[List.length_cons,List.length_nil,Nat.zero_add]at o3⊢;clear o1 o2;replace o3:=hide o3;go_upto_region 7 with fail;obtain⟨V,hX⟩:∃V,(Z.alloc (.cells #[.int .i64 1,.int .i64 0] 26)).alloc (.cells #[.int .i64 3,.slice Ao no co,.slice At nt ct,.slice Af 0 cf] 36)=V:=⟨_,rfl⟩;rw[hX];have q3:Je V Z.heap.size (Z.heap.size+1) 1 0 ⟨3,[],[],[]⟩ (.slice Af 0 cf):=⟨Blk.fC hX,⟨_,_,Blk.dQ hX⟩,(o3.out.below (aG hX)).base (Nat.zero_le _)⟩;have hbX:=hide (b4.trans ((aG hX).mono b4.size));clear hX b4 o3;generalize Z.heap.size=z3 at*;clear Z;replace k6:=k6.below hbX.out k6.lt;replace hT:=hide (hT.out.below hbX.out);replace q1:=q1.out.below hbX.out;replace q2:=q2.out.below hbX.out;replace b6:=b6.trans (hbX.out.mono b6.size);clear hbX;obtain⟨va1,vb1,ko1⟩:=q1.ko;obtain⟨va2,vb2,ko2⟩:=q2.ko;obtain⟨va3,vb3,ko3⟩:=q3.ko;obtain⟨b,off,Ay,cy,e,-,d⟩:=bF.at_ (l:=[exF]) q1.fs.s (i:=0) (by simp);cases e;have c0:=k6.cell 0;have u0:=q1.ks.cell 0;have u1:=q1.ks.cell 1;have x0:=ko1.cell 0;have x3:=ko1.cell 3;have y0:=ko2.cell 0;have y3:=ko2.cell 3;have z0:=ko3.cell 0;have d0:=d.d0;have d1:=d.d1;have d2:=d.d2;have d3:=d.d3;simp only[exF,gA,gZ,gS,List.getElem_cons_zero,Nat.zero_mul,Nat.add_zero]at c0 u0 u1 x0 x3 y0 y3 z0 d0 d1 d2 d3;have hr1:=nC (some ⟨gt,0,none⟩) 2 exS 0 1 V hT.out ⟨by decide,by decide⟩;have hr2:=hide (fun W (hb:Below V.heap.size V W)=>nC (some ⟨gt,0,none⟩) 2 exS 0 2 W (hT.out.below hb) ⟨by decide,by decide⟩);rw[hE4.out]at hr1;replace hr1:=hide hr1;clear hE4 d ko1 ko2 ko3 q1 q2 q3 hT hTB;go_wp2_with fail;refine Calls.mono (by exact hr1.out) ?_;rintro e V1 ⟨rfl,hb1⟩;replace k6:=k6.below hb1 k6.lt;have hr3:=hr2.out V1 hb1;rw[hE5.out]at hr3;replace hr3:=hide hr3;replace b6:=b6.trans (hb1.mono b6.size);clear hr2 hr1 hb1 hE5 c0 u0 u1 x0 x3 y0 y3 z0 d0 d1 d2 d3;have c0:=Blk.n0 k6;go_wp2_with fail;refine Calls.mono (by exact hr3.out) ?_;rintro e V2 ⟨rfl,hb2⟩;go_wp2;go_ret;exact⟨rfl,b6.trans (hb2.mono b6.size)⟩
theorem LD.v{w w':World}{F:Say×List Fct×Nat}{e:Ending}(h:LD w F e w'):∃Ao no co At nt ct Af nf cf Am cm,e= .returned (.tuple #[.agg #[.int .i64 F.1.said,.slice Ao no co,.slice At nt ct,.slice Af nf cf],.slice Am F.2.1.length cm,.int .i64 (F.2.2:Int)])∧iw w' 0 (.slice Am F.2.1.length cm) F.2.1∧Below w.heap.size w w':=by
 obtain⟨v,vm,rfl,⟨vo,vt,vf,rfl,o1,o2,o3⟩,o4,hb⟩:=h;obtain⟨Ao,no,co,rfl⟩:=aS.any o1;obtain⟨At,nt,ct,rfl⟩:=dn.any o2;obtain⟨Af,cf,rfl⟩:=aW.form o3;obtain⟨Am,cm,rfl⟩:=aW.form o4;exact⟨_,_,_,_,_,_,_,_,_,_,_,rfl,o4.base (Nat.zero_le _),hb⟩
set_option maxHeartbeats 2000000
def vR(N:Nat)(l:List Txn):Bool:=decide (l.length≤N)&&l.all fun t=>decide (t.writes.length≤20)&&decide (t.reads.length≤20)
theorem Fx{N:Nat}(hN:N≤40){l:List Txn}(h:vR N l=true):aB l:=by
 unfold vR at h;rw[Bool.and_eq_true,List.all_eq_true]at h;have h1:l.length≤N:=(by simpa using h.1);refine⟨by omega,fun t ht=> ?_⟩;have:=h.2 t ht;simp at this;omega
theorem LG{N:Nat}{l:List Txn}{i:Nat}(hi:i<l.length)(h:20<l[i].writes.length∨20<l[i].reads.length):vR N l=false:=by
 rw[←Bool.not_eq_true];intro g;unfold vR at g;rw[Bool.and_eq_true,List.all_eq_true]at g;have:=g.2 _ (List.getElem_mem hi);simp at this;omega
theorem Jf{N:Nat}{l:List Txn}(h:N<l.length):vR N l=false:=by
 unfold vR;rw[show decide (l.length≤N)=false by simpa using h];rfl
theorem Jg{N:Nat}{l:List Txn}(h:l.length≤N)(hall:∀i (hi:i<l.length),l[i].writes.length≤20∧l[i].reads.length≤20):vR N l=true:=by
 unfold vR;rw[Bool.and_eq_true,List.all_eq_true];refine⟨by simpa using h,fun t ht=> ?_⟩;obtain⟨i,hi,rfl⟩:=List.getElem_of_mem ht;have:=hall i hi;simp;omega
set_option maxRecDepth 100000 in
theorem Jh(N:Nat)(A:Option Addr)(c:Nat)(H:List Txn)(w:World)(h:aF w (Old w) (.slice A H.length c) H)(hn:H.length≤maxLen)(hns:∀t∈H,t.writes.length≤maxLen∧t.reads.length≤maxLen):
 Calls Tryz.prog 33 #[.agg #[.slice A H.length c],.int .i64 (N:Int)] w fun e w'=>e= .returned (.bool (vR N H))∧Below w.heap.size w w':=by
 unfold maxLen at hn hns;have hA:Below w.heap.size w (w.alloc (.cells #[.slice A H.length c] 24)):=(Below.refl _ _).alloc (Nat.le_refl _) _;have kh:Blk (w.alloc (.cells #[.slice A H.length c] 24)) w.heap.size 24 #[.slice A H.length c]:=Blk.new _ _ _;have h1:=aF.below h hA;have y0:=Blk.n0 kh;have hl1:(0:Int)≤(H.length:Int):=Int.natCast_nonneg _;replace hns:=hide hns;by_cases hm:N<H.length
 ·have hr:=hide (Jf hm);have hmb:decide ((H.length:Int)>(N:Int))=true:=(by simp;omega);have RU:decide (N<H.length)=true:=(by simp;omega);clear hm;go_enter Tryz.func33,Tryz.ntmps33;go_wp2;go_ret;exact⟨by rw[hr.out];rfl,hA⟩
 ·have hmb:decide ((H.length:Int)>(N:Int))=false:=(by simp;omega);have RU:decide (N<H.length)=false:=(by simp;omega);have hbad:=hide (fun i=>LG (N:=N) (l:=H) (i:=i));have hgood:=hide (Jg (N:=N) (l:=H) (by omega));go_enter Tryz.func33,Tryz.ntmps33;go_wp2_with fail;generalize w.alloc (.cells #[.slice A H.length c] 24)=W at*
  go_loop [5] (fun s5=>∃i:Nat,i≤H.length∧s5= .int .i64 i∧Hid (∀j (hj:j<H.length),j<i→H[j].writes.length≤20∧H[j].reads.length≤20)) (fun s5=>H.length-(intOf s5).toNat)
  case atStart=>exact⟨0,Nat.zero_le _,by go_num,fun j hj h=>absurd h (by omega)⟩
  case round=>
   obtain⟨i,hi,rfl,hall⟩:=hrel;have hi1:(0:Int)≤(i:Int):=Int.natCast_nonneg _;by_cases hlt:i<H.length
   ·have hi2:(i:Int)<(H.length:Int):=(by omega);obtain⟨b,off,Aw,cw,Ar,cr,rfl,hbK,d0,d1,d2,hws,hrs⟩:=aF.at_ h1 hlt;have hb:=hide (hbad.out i hlt);have hsm:=hns.out _ (List.getElem_mem hlt);have hst:Hid (H[i].writes.length≤20∧H[i].reads.length≤20→∀j (hj:j<H.length),j<i+1→H[j].writes.length≤20∧H[j].reads.length≤20):=fun g j hj hji=>by
     by_cases e:j=i
     ·subst e;exact g
     ·exact hall.out j hj (by omega)
    clear hall hws hrs;generalize H[i]=t at*;obtain⟨ts,ws,rs⟩:=t;dsimp only at*;by_cases g1:20<ws.length
    ·have g1b:decide ((ws.length:Int)>20)=true:=(by simp;omega);have hr:=hide (hb.out (.inl g1));clear g1 hb hst;go_wp2;go_ret;exact⟨by rw[hr.out];rfl,hA⟩
    ·have g1b:decide ((ws.length:Int)>20)=false:=(by simp;omega);by_cases g2:20<rs.length
     ·have g2b:decide ((rs.length:Int)>20)=true:=(by simp;omega);have hr:=hide (hb.out (.inr g2));clear g2 hb hst;go_wp2;go_ret;exact⟨by rw[hr.out];rfl,hA⟩
     ·have g2b:decide ((rs.length:Int)>20)=false:=(by simp;omega);have hr:=hide (hst.out ⟨by omega,by omega⟩);clear hb hst;go_wp2
      go_round
      case rel=>exact⟨i+1,by omega,by go_num,hr⟩
      case measure=>simp[intOf];omega
   ·have hr:=hide (hgood.out fun j hj=>hall.out j hj (by omega));go_wp2;go_ret;exact⟨by rw[hr.out];rfl,hA⟩
set_option maxHeartbeats 1000000
def uI(H:List Txn)(L:List Fct)(n:Nat):Bool:=vR n H&&decide (L.length≤30)&&L.all fun f=>decide (f.cyc.length≤40)
structure NZ(H:List Txn)(L:List Fct)(n:Nat):Prop where
 hist:vR n H=true
 facts:L.length≤30
 O1:∀f∈L,f.cyc.length≤40
theorem uJ{H:List Txn}{L:List Fct}{n:Nat}:uI H L n=true↔NZ H L n:=by
 unfold uI;simp only[Bool.and_eq_true,List.all_eq_true,decide_eq_true_eq];exact⟨fun h=>⟨h.1.1,h.1.2,h.2⟩,fun h=>⟨⟨h.hist,h.facts⟩,h.O1⟩⟩
theorem LH{H:List Txn}{L:List Fct}{n:Nat}(h:¬NZ H L n):uI H L n=false:=by
 rw[←Bool.not_eq_true,uJ];exact h
set_option maxRecDepth 100000 in
theorem Ji (A:Option Addr) (c:Nat) (H:List Txn) (level x y:Int) (Al:Option Addr) (cl:Nat) (L:List Fct) (n:Nat) (w:World) (h:aF w (Old w) (.slice A H.length c) H) (hn:H.length≤maxLen) (hns:∀t∈H,t.writes.length≤maxLen∧t.reads.length≤maxLen)
 (hL:bF w (Old w) (.slice Al L.length cl) L) (hL1:L.length≤maxLen):
 Calls Tryz.prog 11 #[.agg #[.slice A H.length c,.int .i64 level,.int .i64 x,.int .i64 y,.slice Al L.length cl],.int .i64 (n:Int)] w fun e w'=>e= .returned (.bool (uI H L n))∧Below w.heap.size w w':=by
 obtain⟨W0,hW0⟩:∃W0,w.alloc (.cells #[.slice A H.length c,.int .i64 level,.int .i64 x,.int .i64 y,.slice Al L.length cl] 29)=W0:=⟨_,rfl⟩;have hB:=ah (Below.refl w.heap.size w) hW0 (Nat.le_refl _);have k0:=Blk.newEq hW0;have hfe:=hide (Jh n A c H W0 (h.below hB) hn hns);have hLs:=hide (fun W (hb:Below w.heap.size w W)=>hL.below hb);unfold maxLen at hL1;have hno:=hide (LH (H:=H) (L:=L) (n:=n));have hyes:=hide (uJ (H:=H) (L:=L) (n:=n)).2;obtain⟨r,hr⟩:∃r,uI H L n=r:=⟨_,rfl⟩;rw[hr]at hno hyes;rw[hr];obtain⟨q,hq⟩:∃q,vR n H=q:=⟨_,rfl⟩;rw[hq]at hfe;replace hq:=hide hq;have c0:=Blk.n0 k0;clear h hr hL hns hn;go_enter Tryz.func11,Tryz.ntmps11;go_wp2_with fail;clear hW0;refine hfe.out.mono ?_;rintro e w1 ⟨rfl,hb1⟩;have hB1:=hB.trans (hb1.mono hB.size);replace k0:=k0.below hb1 k0.lt;clear hfe hb1 hB c0;have c4:=Blk.n4 k0;have hL2:=hLs.out w1 hB1;clear hLs k0;cases q with
 |false=>
  obtain rfl:=hno.out fun g=>(by have:=g.hist;rw[hq.out]at this;cases this);clear hno hyes hq hL2;go_wp2;go_ret;exact⟨rfl,hB1⟩
 |true=>
  by_cases hl:L.length≤30
  ·have g1:decide ((L.length:Int)>30)=false:=decide_eq_false (by omega);have g2:decide (30<L.length)=false:=decide_eq_false (by omega);have g3:decide (30<(L.length:Int))=false:=decide_eq_false (by omega);go_wp2_with fail;go_loopw [6] (fun s6 wr=>wr=w1∧∃k:Nat,k≤L.length∧s6= .int .i64 (k:Int)∧Hid (∀j (hj:j<L.length),j<k→L[j].cyc.length≤40)) (fun s6 _=>L.length-(intOf s6).toNat);case atStart=>exact⟨rfl,0,Nat.zero_le _,by go_num,hide (fun j hj h=>absurd h (Nat.not_lt_zero _))⟩
   case round=>
    obtain⟨hw,k,hk,rfl,hall⟩:=hrel;obtain rfl:w1=wr:=hw.symm;have hk1:(0:Int)≤(k:Int):=Int.natCast_nonneg _;by_cases hlt:k<L.length
    ·have hk2:(k:Int)<(L.length:Int):=(by omega);obtain⟨b,off,Ay,cy,rfl,-,d⟩:=hL2.at_ hlt;have d6:=d.d6;obtain⟨X,hX⟩:∃X,L[k].cyc.length=X:=⟨_,rfl⟩;rw[hX]at d6;replace hX:=hide hX;clear d hL2;by_cases hx:X≤40
     ·have g7:decide ((X:Int)>40)=false:=decide_eq_false (by omega);have g8:decide (40<X)=false:=decide_eq_false (by omega);have gF:Hid (∀j (hj:j<L.length),j<k+1→L[j].cyc.length≤40):=hide fun j hj hjk=>by
       by_cases e:j=k
       ·subst e;rw[hX.out];exact hx
       ·exact hall.out j hj (by omega)
      clear hall hno hyes;go_wp2;go_roundw;case rel=>exact⟨by trivial,k+1,by omega,by go_num,gF⟩
      case measure=>simp[intOf];omega
     ·have g7:decide ((X:Int)>40)=true:=decide_eq_true (by omega);have g8:decide (40<X)=true:=decide_eq_true (by omega);obtain rfl:=hno.out fun g=>(by have:=g.O1 L[k] (List.getElem_mem hlt);rw[hX.out]at this;omega);clear hall hno hyes hx;go_wp2;go_ret;exact⟨rfl,hB1⟩
    ·obtain rfl:k=L.length:=(by omega);obtain rfl:=hyes.out ⟨hq.out,hl,fun f hf=>by
      obtain⟨j,hj,rfl⟩:=List.getElem_of_mem hf;exact hall.out j hj hj⟩
     clear hall hno hyes hL2;go_wp2;go_ret;exact⟨rfl,hB1⟩
  ·have g1:decide ((L.length:Int)>30)=true:=decide_eq_true (by omega);have g2:decide (30<L.length)=true:=decide_eq_true (by omega);have g3:decide (30<(L.length:Int))=true:=decide_eq_true (by omega);obtain rfl:=hno.out fun g=>hl g.facts;clear hno hyes hq hL2 hl;go_wp2;go_ret;exact⟨rfl,hB1⟩
end Go.Proofs.YtfhnamomiaekdaaGreatDoor
namespace Go.Proofs.YtfhnamomiaekdaaGreatDoor
open Go.ChangeShapes Go.WideShapes Go.ChangeAt Go.RowKit Go.Inq
theorem own:ownKnob Tryz.prog.godebug=none:=by kernel_rfl
theorem laidOut:laidOutB Tryz.prog=true:=by kernel_rfl
theorem jV {H:Type} {enc:TypeId×Value→H} {a:Assume} {C:Checked} {os:Os} {f:FuncId} {fn:Func} {s:ChangeSpec} {conds:List PathCond} {apart fresh handsOn again:Bool} {X:World→Array Value→Prop}
 (hX:∀(w w':World) (args:Array Value),w.heap=w'.heap→X w args→X w' args)
 (own:ownKnob C.prog.godebug=none) (started:os.Started) (noInit:C.prog.inits.idxOf? f=none) (hfn:C.prog.funcs[f]?=some fn)
 (witness:∃(w:World) (tape:Tape) (i:Input),w.os=os∧(w.forCall tape i).Shaped C.prog∧i.vars=[]∧Input.okWide C.prog (w.forCall tape i) .any w.heap.size f i∧
  ((s.pre enc C.prog fn conds apart (w.forCall tape i).memory i.args∧X (w.forCall tape i).memory i.args)∧sizedMet enc C.prog fn (OpenSpec.ofChange s) apart (w.forCall tape i).memory i.args)∧a.holds C.prog (lone (Frame.enter C.prog f i.args .normal) [] (w.forCall tape i)))
 (contract:∀(W:World) (base:Nat) (args:Array Value) (ds gs:List (DataW H)) (before:List MemPlace),
  (∀(j:Nat) t v,fn.params[j]?=some t→args[j]?=some v→Value.okWide C.prog W .any base t v)→
  DataW.Whole enc C.prog fn.params.toList s.vars apart W args.toList ds gs before→
  X W args→W.ShapedOpen C.prog→
  Calls C.prog f args W fun e W'=>∃v,e= .returned v∧s.post enc C.prog fn apart fresh handsOn again W args v W'):
 ReturnsInHanded a C os f .any (fun w args=>(s.pre enc C.prog fn conds apart w args∧X w args)∧sizedMet enc C.prog fn (OpenSpec.ofChange s) apart w args) (s.post enc C.prog fn apart fresh handsOn again):=by
 refine returnsInHanded_of_calls own started noInit witness ?_;intro w tape i _ hsh _ hok hpre hholds;obtain⟨_,_,_,fn',hfn',_,_,_,_,hval⟩:=hok;have e:fn'=fn:=Option.some.inj (hfn'.symm.trans hfn);subst e;obtain⟨⟨⟨ds,gs,before,hw,hc⟩,hx⟩,hz⟩:=hpre;have hw':=DataW.Whole.of_heap (w':=w.forCall tape i) (by rfl) hw;refine(contract (w.forCall tape i) w.heap.size i.args ds gs before hval hw' (hX _ _ _ (by rfl) hx) hsh).mono fun e W' ⟨v,he,hp⟩=> ?_;subst he;exact ChangeSpec.post_blind hp
def uK(P:Program)(ts:List TypeId):Bool:=ts.all fun t=>P.readableRec t&&decide (t<P.types.size)
theorem Below.LJ{P:Program}(hl:laidOutB P=true){H:Type}{enc:TypeId×Value→H}{W W':World}(hb:Below W.heap.size W W'):∀(ts:List TypeId) (vs:List Value) (ds:List (DataW H)) (ps:List MemPlace),uK P ts=true→
 DataW.TrodAll enc P W 0 (fun _=>true) true ts vs ds ps→(∀x∈ps,x.block<W.heap.size)→DataW.TrodAll enc P W' 0 (fun b=>decide (b<W.heap.size)) true ts vs ds ps:=by
 intro ts
 induction ts with
 |nil=>
  intro vs ds ps _ h _;cases vs with
  |cons=>exact h.elim
  |nil=>
   cases ds with
   |cons=>exact h.elim
   |nil=>exact h
 |cons t ts ih=>
  intro vs ds ps hk h hlt;cases vs with
  |nil=>exact h.elim
  |cons v vs=>
   cases ds with
   |nil=>exact h.elim
   |cons d ds=>
    obtain⟨p,q,h1,h2,rfl⟩:=h;unfold uK at hk;rw[List.all_cons,Bool.and_eq_true,Bool.and_eq_true]at hk;exact⟨p,q,Below.trod hl hk.1.1 (of_decide_eq_true hk.1.2) h1 hb (fun x hx=>hlt x (List.mem_append.2 (.inl hx))),ih _ _ _ hk.2 h2 (fun x hx=>hlt x (List.mem_append.2 (.inr hx))),rfl⟩
theorem Below.trodAll {H:Type} {enc:TypeId×Value→H} {W W':World} (hb:Below W.heap.size W W') {ts:List TypeId} {vs:List Value} {ds:List (DataW H)} {ps:List MemPlace} (hk:uK Tryz.prog ts=true)
 (h:DataW.TrodAll enc Tryz.prog W 0 (fun _=>true) true ts vs ds ps) (hlt:∀x∈ps,x.block<W.heap.size):DataW.TrodAll enc Tryz.prog W' 0 (fun b=>decide (b<W.heap.size)) true ts vs ds ps:=
 Below.LJ laidOut hb ts vs ds ps hk h hlt
theorem iE.of{l:List (String×DataW Unit)}{W:World}(h:laidMetH Tryz.prog l W)(hp:laidMetH Tryz.prog l W=laidMet Tryz.prog l W)(hm:("math/bits.deBruijn64tab",Rows.laid_math_bits_deBruijn64tab)∈l):iE W:=by
 rw[hp]at h;obtain⟨g,t,cs,fuel,p,hg,ht,hv,hd⟩:=Lib.laidMet.reads h hm;obtain rfl:=Option.some.inj ((show Tryz.prog.globalNamed "math/bits.deBruijn64tab" =some 0 by kernel_rfl).symm.trans hg);obtain rfl:=Option.some.inj ((show(Tryz.prog.globals[0]?).map (·.type)=some 292 by kernel_rfl).symm.trans ht);have hc:=Lib.cells_of_tab (k:= .u8) (zs:=Lib.deBruijn64tab.map fun(x:Nat)=>(x:Int)) Tryz.underlying292 Tryz.underlying5 (by kernel_rfl) (by kernel_rfl) hd;intro j hj;rw[World.var?_cell hg hv j];have h1:cs.toList[j]?=some (.int .u8 (Lib.deBruijn64tab.getD j 0)):=by
  rw[hc,List.getElem?_map,List.getElem?_map,List.getElem?_eq_getElem hj];simp[List.getD_eq_getElem?_getD,List.getElem?_eq_getElem hj]
 simpa using h1
end Go.Proofs.YtfhnamomiaekdaaGreatDoor
namespace Go.Proofs.YtfhnamomiaekdaaGreatDoor
open Go.Joins Go.ChangeShapes Go.WideShapes Go.ChangeAt Go.RowKit Go.Deep Go.Inq
section
variable{H:Type}{enc:TypeId×Value→H}{w:World}{base:Nat}{spare:Nat→Bool}{held:Bool}
theorem pX {α:Type} {size:Nat} {R:World→(Nat→Prop)→List Value→α→Prop} {te ts:TypeId} (P:α→Prop) (x0:α) (hT:Tryz.prog.underlying ts=some (.slice te)) (hC:Tryz.prog.cellsOf te=size) (hs0:0<size)
 (hop:∀n cs x,DataW.trod enc Tryz.prog w base spare held n te cs=some x→∃t,R w (Old w) cs t∧P t)
 {n:Nat} {v:Value} {x:DataW H×List MemPlace} (h:DataW.trod enc Tryz.prog w base spare held n ts [v]=some x):
 ∃(A:Option Addr) (c:Nat) (l:List α),v= .slice A l.length c∧SlR size R w (Old w) (.slice A l.length c) l∧l.length≤maxLen∧∀t∈l,P t:=by
 rcases open_slice hT h with⟨h1,_⟩|⟨a,len,cap,m,n',D,Pl,h1,_,hl,hm,hmm,hx,hi⟩
 ·injection h1 with h1
  exact⟨none,0,[],h1,SlR.nil _ _ _ _ _ _,Nat.zero_le _,fun t ht=>by simp at ht⟩
 ·injection h1 with h1
  subst h1;rw[hC]at hi;have hlm:len≤m:=(by rw[hmm];split<;>omega);have hex:∀i,∃p:α×List Value,i<len→p.2.length=size∧R w (Old w) p.2 p.1∧P p.1∧∀j u,p.2[j]?=some u→w.cell? (a.add (i*size+j))=some u:=fun i=>by
   by_cases hil:i<len
   ·obtain⟨cs,hc,ht⟩:=hi i (by omega);obtain⟨t,hR,hP⟩:=hop _ _ _ ht;obtain⟨_,hcl,hat⟩:=World.cells?_some hc;refine⟨(t,cs),fun _=>⟨by simpa using hcl,hR,hP,fun j u hj=> ?_⟩⟩;have hj4:j<size:=by
     rcases Nat.lt_or_ge j size with h|h
     ·exact h
     ·rw[List.getElem?_eq_none (by dsimp only;omega)]at hj;cases hj
    rw[←Go.Deep.add_add,hat j hj4];exact hj
   ·exact⟨(x0,[]),fun h=>absurd h hil⟩
  obtain⟨f,hf⟩:=Classical.axiomOfChoice hex;have hlen:((List.range len).map fun i=>(f i).1).length=len:=(by simp);refine⟨some a,cap,(List.range len).map fun i=>(f i).1,by rw[hlen],⟨some a,cap,(List.range len).map fun i=>(f i).2,rfl,by omega,by simp,fun i cs x h1 h2=> ?_,fun h0=> ?_⟩,by omega,fun t ht=> ?_⟩
  ·simp only[List.getElem?_map]at h1 h2;cases hr:(List.range len)[i]? with
   |none=>rw[hr]at h1;cases h1
   |some k=>
    rw[hr]at h1 h2;simp at h1 h2;subst h1 h2;have hk:k<len:=by
     rw[List.getElem?_eq_some_iff]at hr;obtain⟨h3,h4⟩:=hr;simp at h3 h4;omega
    exact⟨(hf k hk).1,(hf k hk).2.1⟩
  ·rw[hlen]at h0;obtain⟨g1,_,_,g4⟩:=hf 0 h0;have hc0:=g4 0 ((f 0).2[0]'(by omega)) (List.getElem?_eq_getElem (by omega));obtain⟨_,_,_,_,hs⟩:=World.shape?_of_cell? hc0;obtain⟨b,o,sp⟩:=a;have hsp:sp=none:=by
    cases sp with
    |none=>rfl
    |some q=>simp[Addr.add]at hs
   subst hsp;have hbl:b<w.heap.size:=(by have:=block_lt_of_cell hc0;rwa[Addr.add_lit]at this);refine⟨b,o,rfl,hbl,fun i j cs u h1 h2=> ?_⟩;simp only[List.getElem?_map]at h1;cases hr:(List.range len)[i]? with
   |none=>rw[hr]at h1;cases h1
   |some k=>
    rw[hr]at h1;simp at h1;subst h1;have hk:k=i∧i<len:=by
     rw[List.getElem?_eq_some_iff]at hr;obtain⟨h3,h4⟩:=hr;simp at h3 h4;exact⟨h4.symm,h3⟩
    have:=(hf i hk.2).2.2.2 j u (by rw[←hk.1];exact h2);rw[Addr.add_lit,←Nat.add_assoc]at this;exact this
  ·obtain⟨k,hk,rfl⟩:=List.mem_map.1 ht;exact(hf k (by simpa using hk)).2.2.1
theorem LK{n:Nat}{cs:List Value}{x:DataW H×List MemPlace}(h:DataW.trod enc Tryz.prog w base spare held n 3 cs=some x):∃k:Int,Go.Inq.Flat Go.Inq.encI w (Old w) cs k∧True:=by
 obtain⟨k,e,_⟩:=DataW.trod_int Tryz.underlying3 h;exact⟨k,e,trivial⟩
theorem zT{n:Nat}{v:Value}{x:DataW H×List MemPlace}(h:DataW.trod enc Tryz.prog w base spare held n 33 [v]=some x):
 ∃(A:Option Addr) (c:Nat) (l:List Int),v= .slice A l.length c∧aI w (Old w) (.slice A l.length c) l∧l.length≤maxLen:=by
 obtain⟨A,c,l,h1,h2,h3,_⟩:=pX (R:=Go.Inq.Flat Go.Inq.encI) (size:=1) (fun _=>True) 0 Tryz.underlying33 (by kernel_rfl) (by decide) (fun n cs x h=>LK h) h;exact⟨A,c,l,h1,h2,h3⟩
theorem Jj{n:Nat}{cs:List Value}{x:DataW H×List MemPlace}(hC:Tryz.prog.cellsOf 106=2)(h:DataW.trod enc Tryz.prog w base spare held n 106 cs=some x):∃e:It,Go.Inq.Flat It.enc w (Old w) cs e∧True:=by
 obtain⟨y0,y1,n',_,hl,h0,h1⟩:=trod_struct2 Tryz.underlying106 h;rw[hC]at hl;have h31:Tryz.prog.cellsOf 3=1:=(by kernel_rfl);simp only[h31]at h0 h1
 match cs,hl with
 |[a,b],_=>
  obtain⟨k0,e0,_⟩:=DataW.trod_int Tryz.underlying3 h0;obtain⟨k1,e1,_⟩:=DataW.trod_int Tryz.underlying3 h1;simp at e0 e1;exact⟨⟨k0,k1⟩,by unfold Go.Inq.Flat;simp[It.enc,e0,e1],trivial⟩
theorem Fy{n:Nat}{v:Value}{x:DataW H×List MemPlace}(h:DataW.trod enc Tryz.prog w base spare held n 107 [v]=some x):
 ∃(A:Option Addr) (c:Nat) (l:List It),v= .slice A l.length c∧ItS w (Old w) (.slice A l.length c) l∧l.length≤maxLen:=by
 obtain⟨A,c,l,h1,h2,h3,_⟩:=pX (R:=Go.Inq.Flat It.enc) (size:=2) (fun _=>True) ⟨0,0⟩ Tryz.underlying107 (by kernel_rfl) (by decide) (fun n cs x h=>Jj (by kernel_rfl) h) h;exact⟨A,c,l,h1,h2,h3⟩
theorem LM{n:Nat}{cs:List Value}{x:DataW H×List MemPlace}(hC:Tryz.prog.cellsOf 109=3)(h:DataW.trod enc Tryz.prog w base spare held n 109 cs=some x):
 ∃t:Txn,yM w (Old w) cs t∧t.writes.length≤maxLen∧t.reads.length≤maxLen:=by
 obtain⟨y0,y1,y2,n',_,hl,h0,h1,h2⟩:=trod_struct3 Tryz.underlying109 h;rw[hC]at hl;have e1:Tryz.prog.cellsOf 3=1:=(by kernel_rfl);have e2:Tryz.prog.cellsOf 33=1:=(by kernel_rfl);have e3:Tryz.prog.cellsOf 107=1:=(by kernel_rfl);simp only[e1,e2,e3]at h0 h1 h2
 match cs,hl with
 |[a,b,c],_=>
  obtain⟨k0,e0,_⟩:=DataW.trod_int Tryz.underlying3 h0;simp at e0;have h1':DataW.trod enc Tryz.prog w base spare held n' 33 [b]=some y1:=(by simpa using h1);have h2':DataW.trod enc Tryz.prog w base spare held n' 107 [c]=some y2:=(by simpa using h2);obtain⟨A,c',l,hv,hev,hlen⟩:=zT h1';obtain⟨A2,c2',l2,hv2,RV,rW⟩:=Fy h2';exact⟨⟨k0,l,l2⟩,⟨b,c,by rw[e0],by rw[hv];exact hev,by rw[hv2];exact RV⟩,hlen,rW⟩
theorem Jk{n:Nat}{v:Value}{x:DataW H×List MemPlace}(h:DataW.trod enc Tryz.prog w base spare held n 22 [v]=some x):
 ∃(A:Option Addr) (c:Nat) (l:List Txn),v= .slice A l.length c∧aF w (Old w) (.slice A l.length c) l∧l.length≤maxLen∧∀t∈l,t.writes.length≤maxLen∧t.reads.length≤maxLen:=
 pX (R:=yM) (size:=3) (fun t=>t.writes.length≤maxLen∧t.reads.length≤maxLen) ⟨0,[],[]⟩ Tryz.underlying22 (by kernel_rfl) (by decide) (fun n cs x h=>LM (by kernel_rfl) h) h
theorem Jl{n:Nat}{cs:List Value}{x:DataW H×List MemPlace}(hC:Tryz.prog.cellsOf 24=1)(h:DataW.trod enc Tryz.prog w base spare held n 24 cs=some x):
 ∃(A:Option Addr) (c:Nat) (l:List Txn),cs=[.slice A l.length c]∧aF w (Old w) (.slice A l.length c) l∧l.length≤maxLen∧∀t∈l,t.writes.length≤maxLen∧t.reads.length≤maxLen:=by
 obtain⟨y0,n',_,hl,h0⟩:=trod_struct1 Tryz.underlying24 h;rw[hC]at hl;have e1:Tryz.prog.cellsOf 22=1:=(by kernel_rfl);simp only[e1]at h0
 match cs,hl with
 |[a],_=>
  have h0':DataW.trod enc Tryz.prog w base spare held n' 22 [a]=some y0:=(by simpa using h0);obtain⟨A,c,l,hv,h1,h2,h3⟩:=Jk h0';exact⟨A,c,l,by rw[hv],h1,h2,h3⟩
end
section
variable{H:Type}{enc:TypeId×Value→H}{w:World}{base:Nat}{spare:Nat→Bool}{held:Bool}
theorem Bv{P:Program}{t:TypeId}{f0 f1 f2 f3 f4:Field}{fuel:Nat}{cs:List Value}{x:DataW H×List MemPlace}(ht:P.underlying t=some (.struct #[f0,f1,f2,f3,f4]))(h:DataW.trod enc P w base spare held fuel t cs=some x):
 ∃y0 y1 y2 y3 y4 n,cs.length=P.cellsOf t∧DataW.trod enc P w base spare held n f0.type ((cs.drop f0.offset).take (P.cellsOf f0.type))=some y0∧
  DataW.trod enc P w base spare held n f1.type ((cs.drop f1.offset).take (P.cellsOf f1.type))=some y1∧DataW.trod enc P w base spare held n f2.type ((cs.drop f2.offset).take (P.cellsOf f2.type))=some y2∧
  DataW.trod enc P w base spare held n f3.type ((cs.drop f3.offset).take (P.cellsOf f3.type))=some y3∧DataW.trod enc P w base spare held n f4.type ((cs.drop f4.offset).take (P.cellsOf f4.type))=some y4:=by
 obtain⟨xs,n,_,rfl,hl,hlen,hf⟩:=DataW.trod_struct ht h
 match xs,hlen with
 |[y0,y1,y2,y3,y4],_=>exact⟨y0,y1,y2,y3,y4,n,hl,by simpa using hf 0 f0 rfl,by simpa using hf 1 f1 rfl,by simpa using hf 2 f2 rfl,by simpa using hf 3 f3 rfl,by simpa using hf 4 f4 rfl⟩
theorem LP{n:Nat}{a b c:Value}{x:DataW H×List MemPlace}(h:DataW.trod enc Tryz.prog w base spare held n 102 [a,b,c]=some x):∃d:Cho,[a,b,c]=[.int .i64 d.key,.int .i64 d.a,.int .i64 d.b]:=by
 obtain⟨y0,y1,y2,n',_,hl,h0,h1,h2⟩:=trod_struct3 Tryz.underlying102 h;have e1:Tryz.prog.cellsOf 3=1:=(by kernel_rfl);simp only[e1]at h0 h1 h2;obtain⟨k0,g0,_⟩:=DataW.trod_int Tryz.underlying3 h0;obtain⟨k1,g1,_⟩:=DataW.trod_int Tryz.underlying3 h1;obtain⟨k2,g2,_⟩:=DataW.trod_int Tryz.underlying3 h2;simp at g0 g1 g2;exact⟨⟨k0,k1,k2⟩,by rw[g0,g1,g2]⟩
theorem Jm{n:Nat}{cs:List Value}{x:DataW H×List MemPlace}(hC:Tryz.prog.cellsOf 104=7)(h:DataW.trod enc Tryz.prog w base spare held n 104 cs=some x):∃f:Fct,jw w (Old w) cs f:=by
 obtain⟨y0,y1,y2,y3,y4,n',hl,h0,h1,h2,h3,h4⟩:=Bv Tryz.underlying104 h;rw[hC]at hl;have e1:Tryz.prog.cellsOf 3=1:=(by kernel_rfl);have e2:Tryz.prog.cellsOf 102=3:=(by kernel_rfl);have e3:Tryz.prog.cellsOf 33=1:=(by kernel_rfl);simp only[e1,e2,e3]at h0 h1 h2 h3 h4
 match cs,hl with
 |[a,b,c,d,e,f,g],_=>
  obtain⟨ch,hch⟩:=LP (a:=a) (b:=b) (c:=c) (by simpa using h0);simp only[List.cons.injEq,and_true]at hch;obtain⟨k1,g1,_⟩:=DataW.trod_int Tryz.underlying3 h1;obtain⟨k2,g2,_⟩:=DataW.trod_int Tryz.underlying3 h2;obtain⟨k3,g3,_⟩:=DataW.trod_int Tryz.underlying3 h3;simp at g1 g2 g3;have h4':DataW.trod enc Tryz.prog w base spare held n' 33 [g]=some y4:=(by simpa using h4);obtain⟨A,c',l,hv,hev,_⟩:=zT h4';exact⟨⟨ch,k1,k2,k3,l⟩,A,c',by rw[hch.1,hch.2.1,hch.2.2,g1,g2,g3,hv],hev⟩
theorem Fz{n:Nat}{v:Value}{x:DataW H×List MemPlace}(h:DataW.trod enc Tryz.prog w base spare held n 27 [v]=some x):
 ∃(A:Option Addr) (c:Nat) (l:List Fct),v= .slice A l.length c∧bF w (Old w) (.slice A l.length c) l∧l.length≤maxLen:=by
 obtain⟨A,c,l,h1,h2,h3,_⟩:=pX (R:=jw) (size:=7) (fun _=>True) ⟨⟨0,0,0⟩,0,0,0,[]⟩ Tryz.underlying27 (by kernel_rfl) (by decide) (fun n cs x h=>by obtain⟨f,hf⟩:=Jm (by kernel_rfl) h;exact⟨f,hf,trivial⟩) h;exact⟨A,c,l,h1,h2,h3⟩
end
section
variable{H:Type}{enc:TypeId×Value→H}{w:World}{base:Nat}{spare:Nat→Bool}{held:Bool}
theorem LQ{n:Nat}{cs:List Value}{x:DataW H×List MemPlace}(hC:Tryz.prog.cellsOf 26=2)(h:DataW.trod enc Tryz.prog w base spare held n 26 cs=some x):∃a b:Int,cs=[.int .i64 a,.int .i64 b]:=by
 obtain⟨y0,y1,n',_,hl,h0,h1⟩:=trod_struct2 Tryz.underlying26 h;rw[hC]at hl;have e2:Tryz.prog.cellsOf 3=1:=(by kernel_rfl);simp only[e2]at h0 h1
 match cs,hl with
 |[a,b],_=>
  obtain⟨k0,g0,_⟩:=DataW.trod_int Tryz.underlying3 h0;obtain⟨k1,g1,_⟩:=DataW.trod_int Tryz.underlying3 h1;simp at g0 g1;exact⟨k0,k1,by rw[g0,g1]⟩
theorem Dq{n:Nat}{cs:List Value}{x:DataW H×List MemPlace}(hC:Tryz.prog.cellsOf 29=5)(h:DataW.trod enc Tryz.prog w base spare held n 29 cs=some x):
 ∃(A:Option Addr) (c:Nat) (Hs:List Txn) (level a b:Int) (Al:Option Addr) (cl:Nat) (L:List Fct),cs=[.slice A Hs.length c,.int .i64 level,.int .i64 a,.int .i64 b,.slice Al L.length cl]∧
  aF w (Old w) (.slice A Hs.length c) Hs∧Hs.length≤maxLen∧(∀t∈Hs,t.writes.length≤maxLen∧t.reads.length≤maxLen)∧bF w (Old w) (.slice Al L.length cl) L∧L.length≤maxLen:=by
 obtain⟨y0,y1,y2,y3,n',_,hl,h0,h1,h2,h3⟩:=trod_struct4 Tryz.underlying29 h;rw[hC]at hl;have e1:Tryz.prog.cellsOf 24=1:=(by kernel_rfl);have e2:Tryz.prog.cellsOf 3=1:=(by kernel_rfl);have e3:Tryz.prog.cellsOf 27=1:=(by kernel_rfl);have e4:Tryz.prog.cellsOf 26=2:=(by kernel_rfl);simp only[e1,e2,e3,e4]at h0 h1 h2 h3
 match cs,hl with
 |[a,b,c,d,e],_=>
  have h0':DataW.trod enc Tryz.prog w base spare held n' 24 [a]=some y0:=(by simpa using h0);obtain⟨a0,cap0,l0,he0,hl0,hn0,hm0⟩:=Jl (by kernel_rfl) h0';obtain⟨k1,g1,_⟩:=DataW.trod_int Tryz.underlying3 h1;simp at g1 he0;have h2':DataW.trod enc Tryz.prog w base spare held n' 26 [c,d]=some y2:=(by simpa using h2);have h3':DataW.trod enc Tryz.prog w base spare held n' 27 [e]=some y3:=(by simpa using h3);obtain⟨k2,k3,hs⟩:=LQ (by kernel_rfl) h2';simp only[List.cons.injEq,and_true]at hs;obtain⟨A2,c2,l2,hv2,hf2,hn2⟩:=Fz h3';exact⟨a0,cap0,l0,k1,k2,k3,A2,c2,l2,by rw[he0,g1,hs.1,hs.2,hv2],hl0,hn0,hm0,hf2,hn2⟩
end
end Go.Proofs.YtfhnamomiaekdaaGreatDoor
namespace Go.Proofs.YtfhnamomiaekdaaGreatDoor
def LU(P:Program)(fn:Func)(s:ChangeSpec)(c:OpenClaim):Bool:=
 c.wf (OpenSpec.ofChange s)&&laidOutB P&&mapsRowed P&&fn.params.all (P.readableRec ·)&&namedTie P c.named s.vars
def Bz(P:Program)(fn:Func)(s:ChangeSpec)(c:OpenClaim):Bool:=
 (c.stops==[])&&(P.stops==[])&&(c.knobs==[])&&(P.stopKnobs==[])&&
 (c.maps==(fn.params.toList++s.plain.varTypes P).any (P.mapsRec ·))&&(c.ifaces==(fn.params.toList++s.plain.varTypes P).any (P.ifacesRec ·))&&(c.mapsOut==P.mapsAmong fn.resultTypes.toList)&&
 (c.loops==(fn.params.toList++s.plain.varTypes P).any (P.loopsFrom ·))&&(c.wideKeys==(fn.params.toList++s.plain.varTypes P++fn.resultTypes.toList).any (P.wideKeysFrom ·))&&
 s.vars.all (P.varReadable ·)&&fn.resultTypes.all (fun t=>P.readableRec t&&decide (t<P.types.size))&&(c.ifacesOut==fn.resultTypes.toList.any (P.ifacesRec ·))&&(c.loopsOut==fn.resultTypes.toList.any (P.loopsFrom ·))
def LV(P:Program)(fn:Func)(s:ChangeSpec)(c:OpenClaim):Bool:=
 (c.plainKeys==P.plainKeys)&&c.shortTexts.isNone&&P.stopsHeard&&P.mayEnter&&(c.lifted==P.liftsFinal)&&(P.make==some c.make)&&(c.kinds==(if c.domain.isEmpty then[]else fn.params.toList.map fun t=>match P.underlying t with|some (.int k)=>some k|_=>none))&&(c.pinned==c.pinnedBy)&&
 (c.veiled==(fn.params.toList++s.plain.varTypes P++fn.resultTypes.toList).any (P.veiledRec ·))&&c.veiledFits P fn.params.toList (fn.params.toList++s.plain.varTypes P++fn.resultTypes.toList)
theorem BA {P:Program} {f:FuncId} {fn:Func} {s:ChangeSpec} {c:OpenClaim} (he:LU P fn s c=true)
 (ha:(c.inPlace==P.inPlace f)=true) (hb:(c.unfollowed==P.unfollowed f)=true) (hc:(c.recurses==P.recurses f)=true) (hd:(c.named==P.varsNamed f)=true)
 (hf:Bz P fn s c=true) (hg:LV P fn s c=true):joinedFacts P f fn s c=true:=by
 unfold LU at he;unfold Bz at hf;unfold LV at hg;unfold joinedFacts;rw[Bool.and_eq_true]at he hf hg;simp only[Bool.and_eq_true,and_assoc]at he hf hg⊢;obtain⟨e1,e2,e3,e4,e5⟩:=he;obtain⟨f1,f2,f3,f4,f5,f6,f7,f8,f9,f10,f11,f12,f13⟩:=hf;obtain⟨g1,g2,g3,g4,g5,g6,g7,g8,g9,g10⟩:=hg;exact⟨e1,e2,e3,e4,e5,f1,f2,f3,f4,ha,hb,hc,hd,f5,f6,f7,f8,f9,f10,f11,f12,f13,g1,g2,g3,g4,g5,g6,g7,g8,g9,g10⟩
end Go.Proofs.YtfhnamomiaekdaaGreatDoor
namespace Go.Inq
inductive Tr where
 |leaf (n:Nod):Tr
 |fork (c:Cho) (l r:Tr):Tr
def Tr.flat:Tr→List Nod
 | .leaf n=>[n]
 | .fork c l r=>⟨c,[]⟩::(l.flat++r.flat)
def Tr.ok:Tr→Prop
 | .leaf n=>n.cyc≠[]
 | .fork _ l r=>l.ok∧r.ok
def Tr.held(H:List Txn)(level:Int):Tr→List Cho→Bool
 | .leaf n,l=>decide (n.c=bn)&&kD H level l n.cyc
 | .fork c x y,l=>x.held H level (l++[c])&&y.held H level (l++[bg c])&&dB H c
def FB:Nat→List Nod→Option (Tr×List Nod)
 |0,_=>none
 |_+1,[]=>none
 |k+1,n::r=>if n.cyc≠[]then some (.leaf n,r)else match FB k r with
  |none=>none
  |some (x,r1)=>match FB k r1 with
   |none=>none
   |some (y,r2)=>some (.fork n.c x y,r2)
def Qs(l:List Nod):Option Tr:=match FB l.length l with
 |some (t,[])=>some t
 |_=>none
def Qt(H:List Txn)(level:Int)(l:List Cho)(tree:List Nod):Bool:=lQ H level&&match Qs tree with
 |some t=>t.held H level l
 |none=>false
structure Mk where
 c:Cho
 right:Bool
 done:List Nod
deriving DecidableEq
def Mk.chosen(m:Mk):Cho:=if m.right then bg m.c else m.c
def zU(path:List Mk):List Cho:=path.map Mk.chosen
def O4(path:List Mk)(c:Cho):Bool:=path.any fun m=>decide (c=m.c)||decide (c=bg m.c)
def zV(H:List Txn)(level:Int)(l:List Cho)(path:List Mk)(m:Mk):Bool:=
 !O4 path m.c&&dB H m.c&&if m.right then Qt H level (l++zU path++[m.c]) m.done else decide (m.done=[])
def jy(H:List Txn)(level:Int)(l:List Cho)(path:List Mk)(n:Nat):Bool:=(List.range n).all fun i=>zV H level l (path.take i) (path.getD i ⟨bn,false,[]⟩)
def FC(H:List Txn)(level:Int)(L:List Fct)(path:List Mk):Bool:=decide (L.length+path.length<20000)&&dA H level L&&jy H level (ak L) path path.length
theorem lu{H:List Txn}{level:Int}{l:List Cho}{path:List Mk}:jy H level l path path.length=true↔∀i (hi:i<path.length),zV H level l (path.take i) path[i]=true:=by
 unfold jy;rw[List.all_eq_true];constructor
 ·intro h i hi;have:=h i (List.mem_range.2 hi);rwa[kL hi]at this
 ·intro h i hi;have hi:=List.mem_range.1 hi;rw[kL hi];exact h i hi
theorem FD{H:List Txn}{level:Int}{l:List Cho}{path:List Mk}(h:jy H level l path path.length=true)(n:Nat):jy H level l (path.take n) (path.take n).length=true:=by
 rw[lu]at h⊢;intro i hi;rw[List.length_take]at hi;rw[List.take_take,Nat.min_eq_left (by omega),List.getElem_take];exact h i (by omega)
theorem FE{H:List Txn}{level:Int}{l:List Cho}{path:List Mk}{m:Mk}:jy H level l (path++[m]) (path++[m]).length=(jy H level l path path.length&&zV H level l path m):=by
 rw[Bool.eq_iff_iff,Bool.and_eq_true];constructor
 ·intro h;have h1:=FD h path.length;rw[List.take_left]at h1;rw[lu]at h;have h2:=h path.length (by simp);rw[List.take_left]at h2;simp at h2;exact⟨h1,h2⟩
 ·rintro⟨h1,h2⟩;rw[lu]at h1⊢;intro i hi;rw[List.length_append,List.length_singleton]at hi;by_cases hl:i<path.length
  ·rw[List.take_append_of_le_length (by omega),List.getElem_append_left hl];exact h1 i hl
  ·obtain rfl:i=path.length:=(by omega);rw[List.take_left];simpa using h2
def yt(H:List Txn)(level:Int)(L:List Fct):List Mk→List Nod→List Mk×Say
 |[],tree=>([],⟨2,[],eH H level L tree,[]⟩)
 |m::r,tree=>if m.right then yt H level L r (⟨m.c,[]⟩::(m.done++tree))else((⟨m.c,true,tree⟩::r).reverse,lW)
def yu(H:List Txn)(level:Int)(L:List Fct)(path:List Mk):List Mk×Say:=
 if FC H level L path then
  let row:=ak L++zU path
  if bA H level row≠[]then yt H level L path.reverse [⟨bn,bA H level row⟩]
  else match jQ H row with
   |none=>(path,⟨1,(fK H.length (bK H level row)).getD [],[],[]⟩)
   |some p=>(path++[⟨p,false,[]⟩],lW)
 else(path,jk)
end Go.Inq
namespace Go.Proofs.YtfhnamomiaekdaaGreatDoor
open Go.RowKit Go.Inq
set_option maxHeartbeats 1000000
theorem LW{H:List Txn}{level:Int}{l:List Cho}{path:List Mk}{m:Mk}(h:zV H level l path m=true):dB H m.c=true:=by
 unfold zV at h;rw[Bool.and_eq_true,Bool.and_eq_true]at h;exact h.1.2
theorem FH{H:List Txn}{m:Mk}(h:dB H m.c=true):dB H m.chosen=true:=by
 unfold Mk.chosen;split
 ·exact su h
 ·exact h
theorem LX{H:List Txn}{level:Int}{l:List Cho}{path:List Mk}(h:jy H level l path path.length=true):∀c∈zU path,dB H c=true:=fun c hc=>by
 unfold zU at hc;obtain⟨m,hm,rfl⟩:=List.mem_map.1 hc;obtain⟨i,hi,rfl⟩:=List.getElem_of_mem hm;exact FH (LW (lu.1 h i hi))
structure RiP(H:List Txn)(level:Int)(L:List Fct)(path:List Mk):Prop where
 len:L.length+path.length<20000
 Nb:dA H level L=true
 marks:jy H level (ak L) path path.length=true
theorem FI{H:List Txn}{level:Int}{L:List Fct}{path:List Mk}:FC H level L path=true↔RiP H level L path:=by
 unfold FC;rw[Bool.and_eq_true,Bool.and_eq_true,decide_eq_true_eq];exact⟨fun h=>⟨h.1.1,h.1.2,h.2⟩,fun h=>⟨⟨h.len,h.Nb⟩,h.marks⟩⟩
section
variable{H:List Txn}{level:Int}{L:List Fct}{path:List Mk}
theorem RiP.one(h:RiP H level L path):∀c∈ak L++zU path,dB H c=true:=fun c hc=>by
 rw[List.mem_append]at hc;exact hc.elim (oL h.Nb c) (LX h.marks c)
theorem RiP.snoc{m:Mk}(h:RiP H level L path)(hl:L.length+path.length+1<20000)(hm:zV H level (ak L) path m=true):RiP H level L (path++[m]):=
 ⟨by rw[List.length_append,List.length_singleton];omega,h.Nb,by rw[FE,h.marks,hm];rfl⟩
end
def Nc(H:List Txn)(level:Int)(L:List Fct):Nat→List Mk→List Mk×Say
 |0,path=>(path,lW)
 |n+1,path=>if(yu H level L path).2.said=0 then Nc H level L n (yu H level L path).1 else yu H level L path
def MkR(w:World)(K:Nat→Prop)(cs:List Value)(m:Mk):Prop:=∃A c,cs=[.int .i64 m.c.key,.int .i64 m.c.a,.int .i64 m.c.b,.bool m.right,.slice A m.done.length c]∧dH w K (.slice A m.done.length c) m.done
theorem MkR.bE:jD MkR:=fun _ _ _ _ _ _ h ha hk=>by
 obtain⟨A,c,h1,h2⟩:=h;exact⟨A,c,h1,dH.keep h2 ha hk⟩
def MkS(w:World)(K:Nat→Prop)(v:Value)(l:List Mk):Prop:=SlR 5 MkR w K v l
section
variable{w w':World}{K K':Nat→Prop}{v:Value}{l:List Mk}
theorem MkS.keep(h:MkS w K v l)(ha:Agree K w w')(hk:∀b,K b→K' b):MkS w' K' v l:=SlR.keep MkR.bE h ha hk
theorem MkS.below(h:MkS w (Old w) v l)(hb:Below w.heap.size w w'):MkS w' (Old w') v l:=SlR.below MkR.bE h hb
theorem MkS.fit(h:MkS w K v l)(hk:∀b,K b→K' b):MkS w K' v l:=SlR.fit MkR.bE h hk
theorem MkS.nil(w:World)(K:Nat→Prop)(A:Option Addr)(c:Nat):MkS w K (.slice A 0 c) []:=SlR.nil _ _ _ _ _ _
theorem MkS.take{A:Option Addr}{n c:Nat}(h:MkS w K (.slice A n c) l){k:Nat}(hk:k≤l.length):MkS w K (.slice A k c) (l.take k):=SlR.take h hk
theorem MkS.cap{A:Option Addr}{n c:Nat}(h:MkS w K (.slice A n c) l):l.length≤c:=by
 obtain⟨_,_,e,h1⟩:=SlR.len h;simp only[Value.slice.injEq]at e;omega
structure RX(w:World)(K:Nat→Prop)(b o:Nat)(m:Mk)(Ay:Option Addr)(cy:Nat):Prop where
 d0:w.cell? ⟨b,o,none⟩=some (.int .i64 m.c.key)
 d1:w.cell? ⟨b,o+1,none⟩=some (.int .i64 m.c.a)
 d2:w.cell? ⟨b,o+2,none⟩=some (.int .i64 m.c.b)
 d3:w.cell? ⟨b,o+3,none⟩=some (.bool m.right)
 d4:w.cell? ⟨b,o+4,none⟩=some (.slice Ay m.done.length cy)
 done:dH w K (.slice Ay m.done.length cy) m.done
theorem MkS.at_{A:Option Addr}{n c:Nat}(h:MkS w K (.slice A n c) l){i:Nat}(hi:i<l.length):∃b off Ay cy,A=some ⟨b,off,none⟩∧K b∧RX w K b (off+i*5) l[i] Ay cy:=by
 obtain⟨b,off,cs,hA,hK,-,⟨Ay,cy,rfl,hy⟩,hc⟩:=SlR.at_ h hi;exact⟨b,off,Ay,cy,hA,hK,hc 0 _ rfl,hc 1 _ rfl,hc 2 _ rfl,hc 3 _ rfl,hc 4 _ rfl,hy⟩
end
def fQ(p:List Mk):Nat:=(p.map fun m=>1+m.done.length).sum
theorem FJ(p:List Mk)(m:Mk):fQ (p++[m])=fQ p+(1+m.done.length):=by unfold fQ;rw[List.map_append,List.sum_append];simp
theorem LY{p:List Mk}:p.length≤fQ p:=by
 unfold fQ
 induction p with
 |nil=>simp
 |cons m p ih=>simp only[List.map_cons,List.sum_cons,List.length_cons];omega
theorem Jo{p:List Mk}{m:Mk}(h:m∈p):1+m.done.length≤fQ p:=by
 unfold fQ
 induction p with
 |nil=>simp at h
 |cons x p ih=>
  simp only[List.map_cons,List.sum_cons];rcases List.mem_cons.1 h with rfl|h
  ·omega
  ·have:=ih h;omega
theorem FK(p:List Mk)(i:Nat):fQ (p.take i)≤fQ p:=by
 conv=>rhs;rw[←List.take_append_drop i p]
 unfold fQ;rw[List.map_append,List.sum_append];omega
def BD(l:List Nod):Prop:=∀n∈l,n.cyc.length≤1000000
def BF(p:List Mk):Prop:=fQ p≤50000000∧∀m∈p,BD m.done
theorem BF.len{p:List Mk}(h:BF p):p.length≤50000000:=Nat.le_trans LY h.1
theorem BF.done{p:List Mk}(h:BF p){m:Mk}(hm:m∈p):Bb m.done:=⟨by have:=Jo hm;have:=h.1;omega,h.2 m hm⟩
theorem BF.at_{p:List Mk}(h:BF p){i:Nat}(hi:i<p.length):Bb p[i].done:=h.done (List.getElem_mem hi)
theorem BF.take{p:List Mk}(h:BF p)(i:Nat):BF (p.take i):=⟨Nat.le_trans (FK p i) h.1,fun m hm=>h.2 m (List.mem_of_mem_take hm)⟩
theorem zW(p:List Mk):fQ p.reverse=fQ p:=by
 unfold fQ;rw[List.map_reverse,List.sum_reverse]
theorem rQ(m:Mk)(p:List Mk):fQ (m::p)=1+m.done.length+fQ p:=by unfold fQ;simp
theorem Jp{H:List Txn}{level:Int}{L:List Fct}:∀(r:List Mk) (tree:List Nod),BD tree→(∀m∈r,BD m.done)→
 fQ (yt H level L r tree).1≤fQ r+tree.length∧∀m∈(yt H level L r tree).1,BD m.done:=by
 intro r
 induction r with
 |nil=>intro tree _ _;exact⟨by simp[yt,fQ],fun m hm=>by simp[yt]at hm⟩
 |cons m r ih=>
  intro tree ht hr;unfold yt;split
  ·obtain⟨h1,h2⟩:=ih (⟨m.c,[]⟩::(m.done++tree)) (fun n hn=>by
    rw[List.mem_cons,List.mem_append]at hn;rcases hn with rfl|hn|hn
    ·simp
    ·exact hr m (by simp) n hn
    ·exact ht n hn) fun m' hm'=>hr m' (by simp[hm'])
   refine⟨?_,h2⟩;rw[rQ];simp only[List.length_cons,List.length_append]at h1;omega
  ·refine⟨?_,fun m' hm'=> ?_⟩
   ·dsimp only;rw[zW,rQ,rQ];dsimp only;omega
   ·dsimp only at hm';rw[List.mem_reverse,List.mem_cons]at hm';rcases hm' with rfl|hm'
    ·exact ht
    ·exact hr m' (by simp[hm'])
theorem mg{H:List Txn}(hr:aC H=true)(level:Int)(row:List Cho):(bA H level row).length≤1000000:=by
 have hn:=((aA H).1 hr).1;unfold bA;rw[List.length_map];exact Nat.le_trans jC (by omega)
theorem Jq{H:List Txn}{level:Int}{L:List Fct}{path:List Mk}(h:∀m∈path,BD m.done):
 fQ (yu H level L path).1≤fQ path+1∧∀m∈(yu H level L path).1,BD m.done:=by
 unfold yu;split
 ·rename_i hg;have hr:aC H=true:=(iX.1 (fI (FI.1 hg).Nb)).1;dsimp only;split
  ·obtain⟨h1,h2⟩:=Jp (H:=H) (level:=level) (L:=L) path.reverse [⟨bn,bA H level (ak L++zU path)⟩] (fun n hn=>by
    rw[List.mem_singleton]at hn;subst hn;exact mg hr _ _) fun m hm=>h m (List.mem_reverse.1 hm)
   rw[zW]at h1;exact⟨h1,h2⟩
  ·split
   ·exact⟨by dsimp only;omega,h⟩
   ·refine⟨by dsimp only;rw[FJ];simp,fun m hm=> ?_⟩;dsimp only at hm;rw[List.mem_append,List.mem_singleton]at hm;rcases hm with hm|rfl
    ·exact h m hm
    ·intro n hn;simp at hn
 ·exact⟨by dsimp only;omega,h⟩
structure LZ(H:List Txn)(level:Int)(L:List Fct)(N k:Nat)(path:List Mk)(F:List Mk×Say):Prop where
 le:k≤N
 size:fQ path≤k
 cyc:∀m∈path,BD m.done
 fin:F=Nc H level L (N-k) path
theorem LZ.start{H:List Txn}{level:Int}{L:List Fct}{N:Nat}:LZ H level L N 0 [] (Nc H level L N []):=⟨Nat.zero_le _,by simp[fQ],fun m hm=>by simp at hm,rfl⟩
theorem LZ.step{H:List Txn}{level:Int}{L:List Fct}{N k:Nat}{path:List Mk}{F:List Mk×Say}(h:LZ H level L N k path F)(hk:k<N){r:List Mk×Say}(hr:yu H level L path=r):
 (r.2.said=0→LZ H level L N (k+1) r.1 F)∧(r.2.said≠0→F=r):=by
 obtain⟨h1,h2⟩:=Jq (H:=H) (level:=level) (L:=L) h.cyc;rw[hr]at h1 h2;have hf:=h.fin;rw[show N-k=(N-(k+1))+1 by omega]at hf;unfold Nc at hf;rw[hr]at hf;have hs:=h.size;refine⟨fun g=>⟨hk,by omega,h2,?_⟩,fun g=> ?_⟩
 ·rw[if_pos g]at hf;exact hf
 ·rw[if_neg g]at hf;exact hf
def ofC(order:List Int)(p:Cho):Cho:=if AO order p.a>AO order p.b then⟨p.key,p.b,p.a⟩else p
def ofL(H:List Txn)(order:List Int):List Cho:=(aM H).map (ofC order)
structure GI(n:Nat)(E:aj)(o:List Nat):Prop where
 t:NJ n E o
 len:o.length=n
 all:∀y,y<n→y∈o
theorem GI.at_{n:Nat}{E:aj}{o:List Nat}(h:GI n E o){x:Nat}(hx:x<n):∃hi:o.idxOf x<o.length,o[o.idxOf x]=x:=⟨List.idxOf_lt_length_of_mem (h.all x hx),List.getElem_idxOf _⟩
theorem GI.up{n:Nat}{E:aj}{o:List Nat}(h:GI n E o){x y:Nat}(hx:x<n)(hy:y<n)(he:E x y=true):o.idxOf x<o.idxOf y:=(h.t.up y (h.all y hy) x hx he).2
theorem GJ{H:List Txn}(hr:aC H=true){level:Int}{L:List Fct}{tree:List Nod}(h:BD tree):BD (eH H level L tree)∧(eH H level L tree).length=2*L.length+tree.length:=by
 unfold eH;refine⟨fun n hn=> ?_,by simp;omega⟩;rw[List.mem_append,List.mem_append]at hn;rcases hn with(hn|hn)|hn
 ·obtain⟨f,_,rfl⟩:=List.mem_map.1 hn;exact Nat.zero_le _
 ·exact h n hn
 ·obtain⟨k,_,rfl⟩:=List.mem_map.1 hn;exact mg hr _ _
theorem Jr{H:List Txn}(hr:aC H=true){E:aj}{o:List Nat}(h:fK H.length E=some o):(au o).length≤1000000:=by
 have hn:=((aA H).1 hr).1;have:=fU (show bX H.length _ H.length=some o from h);rw[aN];omega
theorem FM{H:List Txn}{level a i:Int}{L:List Fct}:Bb (dR H level a i L).2.tree∧(au (dR H level a i L).2.order).length≤1000000:=by
 have h0:Bb []:=⟨Nat.zero_le _,by simp⟩;unfold dR;split
 ·rename_i hg;simp only[Bool.and_eq_true,decide_eq_true_eq]at hg;have hr:=(iX.1 (fI hg.2)).1;have hl:L.length<20000:=hg.1.2;split
  ·show Bb (eZ H level L).tree∧(au (eZ H level L).order).length≤1000000;unfold eZ;split
   ·exact⟨h0,Nat.zero_le _⟩
   ·split
    ·rename_i o ho;exact⟨h0,Jr hr ho⟩
    ·obtain⟨g1,g2⟩:=GJ hr (level:=level) (L:=L) (tree:=[⟨bn,bA H level (ak L)⟩]) (by
      intro n hn;rw[List.mem_singleton]at hn;subst hn;exact mg hr _ _)
     exact⟨⟨by show(eH _ _ _ _).length≤_;rw[g2,List.length_singleton];omega,g1⟩,Nat.zero_le _⟩
  ·dsimp only;split
   ·exact⟨h0,Nat.zero_le _⟩
   ·generalize(aM H).getD a.toNat bn=p;show Bb (gQ H level L p).tree∧(au (gQ H level L p).order).length≤1000000;unfold gQ;split
    ·exact⟨h0,Nat.zero_le _⟩
    ·split
     ·exact⟨h0,Nat.zero_le _⟩
     ·dsimp only;split
      ·split
       ·exact⟨h0,Nat.zero_le _⟩
       ·exact⟨h0,Nat.zero_le _⟩
      ·split
       ·exact⟨h0,Nat.zero_le _⟩
       ·obtain⟨g1,g2⟩:=GJ hr (level:=level) (L:=L) (tree:=[⟨p,[]⟩,⟨bn,bA H level (ak L++[p])⟩,⟨bn,bA H level (ak L++[bg p])⟩]) (by
         intro n hn;simp only[List.mem_cons,List.not_mem_nil,or_false]at hn;rcases hn with rfl|rfl|rfl
         ·exact Nat.zero_le _
         ·exact mg hr _ _
         ·exact mg hr _ _)
        exact⟨⟨by show(eH _ _ _ _).length≤_;rw[g2];simp;omega,g1⟩,Nat.zero_le _⟩
 ·exact⟨h0,Nat.zero_le _⟩
end Go.Proofs.YtfhnamomiaekdaaGreatDoor
namespace Go.Proofs.YtfhnamomiaekdaaGreatDoor
open Go.RowKit Go.Inq
set_option maxHeartbeats 4000000
attribute [local go_sem↓] Go.wp_at_zero Go.wp_at_succ
abbrev nE:=Fct×Option Addr×Nat
def qj(x:nE):List Value:=[.int .i64 x.1.c.key,.int .i64 x.1.c.a,.int .i64 x.1.c.b,.int .i64 x.1.kind,.int .i64 x.1.i,.int .i64 x.1.j,.slice x.2.1 x.1.cyc.length x.2.2]
theorem L6(x:nE):(qj x).length=7:=rfl
theorem L8:∀x,∀u∈qj x,u.oneCell'=true:=by
 intro x u hu;simp only[qj,List.mem_cons,List.not_mem_nil,or_false]at hu;rcases hu with rfl|rfl|rfl|rfl|rfl|rfl|rfl<;>rfl
theorem L9:(Tryz.prog.info? 120).map (fun i=>(i.zero,i.size,i.bytes))=some (some (.agg #[.int .i64 0,.int .i64 0,.int .i64 0,.int .i64 0,.int .i64 0,.int .i64 0,.slice none 0 0]),7,72):=by kernel_rfl
theorem tJ{P:Program}{ops:Array Oper}{Q:Exit→Act→World→Prop}{o:Oper}{rest:List Oper}{a:Act}{W:World}(h:∀R,R=rest→wpList P ops Q (o::R) a W):wpList P ops Q (o::rest) a W:=h _ rfl
def FN(w:World)(M:List nE)(L:List Fct):Prop:=M.map (·.1)=L∧∀x∈M,aI w (Old w) (.slice x.2.1 x.1.cyc.length x.2.2) x.1.cyc
theorem FN.snoc{w:World}{M:List nE}{L:List Fct}{k:Nat}(h:FN w M (L.take k))(hk:k<L.length){A:Option Addr}{c:Nat}(hy:aI w (Old w) (.slice A L[k].cyc.length c) L[k].cyc):FN w (M++[(L[k],A,c)]) (L.take (k+1)):=by
 refine⟨by rw[List.map_append,h.1,List.take_succ_eq_append_getElem hk];rfl,fun x hx=> ?_⟩;rcases List.mem_append.1 hx with hx|hx
 ·exact h.2 x hx
 ·rw[List.mem_singleton.1 hx];exact hy
theorem FN.len{w:World}{M:List nE}{L:List Fct}(h:FN w M L):M.length=L.length:=by rw[←h.1,List.length_map]
theorem FN.s{w w':World}{M:List nE}{L:List Fct}{base:Nat}{e:TypeId}{v:Value}(h:FN w M L)(ho:w'.ownsRow base e 7 v M.length (M.map qj).flatten)(hb:Below w.heap.size w w'):bF w' (Old w') v L:=by
 refine SlR.mq (ys:=M.map qj) ho h.len rfl (by rw[List.length_map];exact h.len) (fun i cs x h1 h2=> ?_) (fun g hg=>(ho.lt g hg).2);rw[List.getElem?_map]at h1;obtain⟨m,hm,rfl⟩:=Option.map_eq_some_iff.1 h1;have e1:(M.map (·.1))[i]?=some m.1:=(by rw[List.getElem?_map,hm];rfl);rw[h.1,h2]at e1;injection e1 with e1
 refine⟨rfl,m.2.1,m.2.2,by rw[e1];rfl,?_⟩;rw[e1];exact(h.2 m (List.mem_of_getElem? hm)).below hb
abbrev mh:=Nod×Option Addr×Nat
def oV(x:mh):List Value:=[.int .i64 x.1.c.key,.int .i64 x.1.c.a,.int .i64 x.1.c.b,.slice x.2.1 x.1.cyc.length x.2.2]
theorem zX(x:mh):(oV x).length=4:=rfl
theorem Js:∀x,∀u∈oV x,u.oneCell'=true:=by
 intro x u hu;simp only[oV,List.mem_cons,List.not_mem_nil,or_false]at hu;rcases hu with rfl|rfl|rfl|rfl<;>rfl
theorem Dr:(Tryz.prog.info? 126).map (fun i=>(i.zero,i.size,i.bytes))=some (some (.agg #[.int .i64 0,.int .i64 0,.int .i64 0,.slice none 0 0]),4,48):=by kernel_rfl
def FP(w:World)(M:List mh)(L:List Nod):Prop:=M.map (·.1)=L∧∀x∈M,aI w (Old w) (.slice x.2.1 x.1.cyc.length x.2.2) x.1.cyc
theorem FP.snoc{w:World}{M:List mh}{L:List Nod}{k:Nat}(h:FP w M (L.take k))(hk:k<L.length){A:Option Addr}{c:Nat}(hy:aI w (Old w) (.slice A L[k].cyc.length c) L[k].cyc):FP w (M++[(L[k],A,c)]) (L.take (k+1)):=by
 refine⟨by rw[List.map_append,h.1,List.take_succ_eq_append_getElem hk];rfl,fun x hx=> ?_⟩;rcases List.mem_append.1 hx with hx|hx
 ·exact h.2 x hx
 ·rw[List.mem_singleton.1 hx];exact hy
theorem FP.len{w:World}{M:List mh}{L:List Nod}(h:FP w M L):M.length=L.length:=by rw[←h.1,List.length_map]
theorem FP.s{w w':World}{M:List mh}{L:List Nod}{base:Nat}{e:TypeId}{v:Value}(h:FP w M L)(ho:w'.ownsRow base e 4 v M.length (M.map oV).flatten)(hb:Below w.heap.size w w'):dH w' (Old w') v L:=by
 refine SlR.mq (ys:=M.map oV) ho h.len rfl (by rw[List.length_map];exact h.len) (fun i cs x h1 h2=> ?_) (fun g hg=>(ho.lt g hg).2);rw[List.getElem?_map]at h1;obtain⟨m,hm,rfl⟩:=Option.map_eq_some_iff.1 h1;have e1:(M.map (·.1))[i]?=some m.1:=(by rw[List.getElem?_map,hm];rfl);rw[h.1,h2]at e1;injection e1 with e1
 refine⟨rfl,m.2.1,m.2.2,by rw[e1];rfl,?_⟩;rw[e1];exact(h.2 m (List.mem_of_getElem? hm)).below hb
end Go.Proofs.YtfhnamomiaekdaaGreatDoor
