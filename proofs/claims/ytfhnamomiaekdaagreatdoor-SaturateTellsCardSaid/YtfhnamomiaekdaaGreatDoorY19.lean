/-
  Walks: layer 29: a fact of a choice by two others.
-/
import Derived.ArgAppend
import Derived.Test.YtfhnamomiaekdaaGreatDoorY12
import Derived.Test.YtfhnamomiaekdaaGreatDoorY17
import Derived.Test.YtfhnamomiaekdaaGreatDoorY05
import Derived.Test.YtfhnamomiaekdaaGreatDoorY09
import Derived.Test.YtfhnamomiaekdaaGreatDoorY11
import Derived.Test.YtfhnamomiaekdaaGreatDoorY08
import Derived.Test.YtfhnamomiaekdaaGreatDoorY14
import Derived.Test.YtfhnamomiaekdaaGreatDoorY15
import Derived.Test.YtfhnamomiaekdaaGreatDoorY02
set_option linter.unusedVariables false
set_option linter.unusedSimpArgs false
namespace Go.Proofs.YtfhnamomiaekdaaGreatDoor
open Go.RowKit Go.Inq
set_option maxHeartbeats 8000000
attribute [local go_sem↓] Go.wp_at_zero Go.wp_at_succ
theorem Dj{H:List Txn}{level:Int}{L:List Fct}{c:Cho}{i:Nat}(hi:i<L.length):∃r:List (Nat×Nat),Ou L.length=((List.range i).map fun a=>(List.range L.length).map fun b=>(a,b)).flatten++((List.range L.length).map fun b=>(i,b))++r:=by
 obtain⟨d,hd⟩:∃d,L.length=i+1+d:=⟨L.length-(i+1),by omega⟩;have h1:List.range L.length=List.range i++[i]++(List.range d).map (i+1+·):=(by rw[hd,List.range_add,List.range_succ]);have key:∀row:Nat→List (Nat×Nat),∃r,((List.range L.length).map row).flatten=((List.range i).map row).flatten++row i++r:=fun row=>by
  rw[h1,List.map_append,List.map_append,List.flatten_append,List.flatten_append];exact⟨(List.map row (List.map (fun x=>i+1+x) (List.range d))).flatten,by simp⟩
 exact key fun a=>(List.range L.length).map fun b=>(a,b)
theorem zQ{H:List Txn}{level:Int}{L:List Fct}{c:Cho}{i j:Nat}(hi:i<L.length)(hj:j<L.length)(h1:∀a,a<i→∀b,b<L.length→aR H level L (eB c (a,b))=false)(h2:∀b,b<j→aR H level L (eB c (i,b))=false)(h:aR H level L (eB c (i,j))=true):fq H level L c=some (eB c (i,j)):=by
 obtain⟨r,hr⟩:=Dj (H:=H) (level:=level) (c:=c) hi;unfold fq;rw[hr,List.map_append,List.map_append,List.find?_append,List.find?_append];have e1:((((List.range i).map fun a=>(List.range L.length).map fun b=>(a,b)).flatten).map (eB c)).find? (aR H level L)=none:=by
  rw[List.find?_eq_none];intro f hf;obtain⟨x,hx,rfl⟩:=List.mem_map.1 hf;obtain⟨l,hl,hx⟩:=List.mem_flatten.1 hx;obtain⟨a,ha,rfl⟩:=List.mem_map.1 hl;obtain⟨b,hb,rfl⟩:=List.mem_map.1 hx;rw[h1 a (List.mem_range.1 ha) b (List.mem_range.1 hb)];simp
 have e2:(((List.range L.length).map fun b=>(i,b)).map (eB c)).find? (aR H level L)=some (eB c (i,j)):=by
  rw[List.find?_eq_some_iff_getElem];refine⟨h,j,by simpa using hj,by simp,fun k hk=> ?_⟩;simp only[List.getElem_map,List.getElem_range];rw[h2 k hk];rfl
 rw[e1,e2];rfl
theorem yh{H:List Txn}{level:Int}{L:List Fct}{c:Cho}(h1:∀a,a<L.length→∀b,b<L.length→aR H level L (eB c (a,b))=false):fq H level L c=none:=by
 unfold fq;rw[List.find?_eq_none];intro f hf;obtain⟨x,hx,rfl⟩:=List.mem_map.1 hf;unfold Ou at hx;obtain⟨l,hl,hx⟩:=List.mem_flatten.1 hx;obtain⟨a,ha,rfl⟩:=List.mem_map.1 hl;obtain⟨b,hb,rfl⟩:=List.mem_map.1 hx;rw[h1 a (List.mem_range.1 ha) b (List.mem_range.1 hb)];simp
theorem I8{H:List Txn}{level:Int}{L:List Fct}{c:Cho}{i j:Nat}(hi:i<L.length)(h:L[i].c.key≠c.key∨L[i].c.a≠c.a):aR H level L (eB c (i,j))=false:=by
 rw[←Bool.not_eq_true];intro hh;rw[Cw,KM rfl,Bool.and_eq_true]at hh;have:=hh.2;unfold sF eB at this;simp only[Bool.and_eq_true,Int.toNat_natCast]at this;have h3:=this.2;rw[List.getElem?_eq_getElem hi]at h3;split at h3
 ·rename_i x y hx hy;injection hx with hx
  subst hx;simp only[Bool.and_eq_true,decide_eq_true_eq]at h3;obtain⟨-,h5⟩:=h3;subst h5;rcases h with h|h
  ·exact h rfl
  ·exact h rfl
 ·cases h3
def jnV(o:Option Fct):Value:= .tuple #[.agg #[.int .i64 (o.getD lV).c.key,.int .i64 (o.getD lV).c.a,.int .i64 (o.getD lV).c.b,.int .i64 (o.getD lV).kind,.int .i64 (o.getD lV).i,.int .i64 (o.getD lV).j,.slice none 0 0],.bool o.isSome]
def Fh(W:World)(g:Nat)(a b c d e f h:Value):World:=((((((W.setCell ⟨g,0,none⟩ a).setCell ⟨g,1,none⟩ b).setCell ⟨g,2,none⟩ c).setCell ⟨g,3,none⟩ d).setCell ⟨g,4,none⟩ e).setCell ⟨g,5,none⟩ f).setCell ⟨g,6,none⟩ h
section
variable{W:World}{g:Nat}{a b c d e f h x0 x1 x2 x3 x4 x5 x6:Value}
theorem Dk(k:Blk W g 104 #[x0,x1,x2,x3,x4,x5,x6]):Blk (Fh W g a b c d e f h) g 104 #[a,b,c,d,e,f,h]:=((((((k.aD 0 a).aD 1 b).aD 2 c).aD 3 d).aD 4 e).aD 5 f).aD 6 h
theorem nA{B:Nat}{w:World}(k:Below B w W)(hg:B≤g):Below B w (Fh W g a b c d e f h):=((((((k.setCell (p:=⟨g,0,none⟩) hg a).setCell (p:=⟨g,1,none⟩) hg b).setCell (p:=⟨g,2,none⟩) hg c).setCell (p:=⟨g,3,none⟩) hg d).setCell (p:=⟨g,4,none⟩) hg e).setCell (p:=⟨g,5,none⟩) hg f).setCell (p:=⟨g,6,none⟩) hg h
end
set_option maxRecDepth 100000 in
theorem Fj(A:Option Addr)(c:Nat)(H:List Txn)(level:Int)(Al:Option Addr)(cl:Nat)(L:List Fct)(x:Cho)(w:World)(h:aF w (Old w) (.slice A H.length c) H)(hn:aB H)(hL:bF w (Old w) (.slice Al L.length cl) L)(hl:L.length≤1000000):
 Calls Tryz.prog 118 #[.agg #[.slice A H.length c],.int .i64 level,.slice Al L.length cl,.agg #[.int .i64 x.key,.int .i64 x.a,.int .i64 x.b]] w fun e w'=>e= .returned (jnV (fq H level L x))∧Below w.heap.size w w':=by
 obtain⟨key,a0,b0⟩:=x;dsimp only;obtain⟨W0,hW0⟩:∃W0,((w.alloc (.cells #[.slice A H.length c] 24)).alloc (.cells #[.int .i64 key,.int .i64 a0,.int .i64 b0] 102)).alloc (.cells #[.int .i64 0,.int .i64 0,.int .i64 0,.int .i64 0,.int .i64 0,.int .i64 0,.slice none 0 0] 104)=W0:=⟨_,rfl⟩;have hB:=dY hW0;have k0:=Blk.oz hW0;have k1:=Blk.mK hW0;have kr:=Blk.mM hW0;have hho:=hide (fun i j W (hb:Below w.heap.size w W)=>uT A c H level Al cl L (eB ⟨key,a0,b0⟩ (i,j)) none 0 W (h.below hb) hn (hL.below hb) hl (aI.nil _ _ _ _) (Nat.zero_le _));have hhit:=hide (fun i j hi hj=>zQ (H:=H) (level:=level) (L:=L) (c:=⟨key,a0,b0⟩) (i:=i) (j:=j) hi hj);have lG:=hide (yh (H:=H) (level:=level) (L:=L) (c:=⟨key,a0,b0⟩));have hnt:=hide (fun i (hi:i<L.length) q j=>I8 (H:=H) (level:=level) (c:=⟨key,a0,b0⟩) (j:=j) hi q);obtain⟨o,ho⟩:∃o,fq H level L ⟨key,a0,b0⟩=o:=⟨_,rfl⟩;rw[ho]at hhit lG;rw[ho];replace hL:=hide hL;clear h ho;go_enter Tryz.func118,Tryz.ntmps118;go_wp2_with fail;clear hW0;go_loopw [15] (fun s15 wr=>∃i:Nat,i≤L.length∧s15= .int .i64 (i:Int)∧Hid (∀a,a<i→∀b,b<L.length→aR H level L (eB ⟨key,a0,b0⟩ (a,b))=false)∧Blk wr w.heap.size 24 #[.slice A H.length c]∧Blk wr (w.heap.size+1) 102 #[.int .i64 key,.int .i64 a0,.int .i64 b0]∧Blk wr (w.heap.size+1+1) 104 #[.int .i64 0,.int .i64 0,.int .i64 0,.int .i64 0,.int .i64 0,.int .i64 0,.slice none 0 0]∧Below w.heap.size w wr) (fun s15 _=>L.length-(intOf s15).toNat);case atStart=>exact⟨0,by omega,by go_num,hide fun a ha=>absurd ha (by omega),k0,k1,kr,hB⟩
 case round=>
  clear k0 k1 kr hB;obtain⟨Wo,rfl⟩:∃Wo,Wo=wr:=⟨_,rfl⟩;obtain⟨i,hi,rfl,hno,k0,k1,kr,hb⟩:=hrel;have hi0:(0:Int)≤(i:Int):=Int.natCast_nonneg _;by_cases hlt:i<L.length
  ·have hi1:(i:Int)<(L.length:Int):=(by omega);obtain⟨bl,ol,Ay,cy,rfl,-,d⟩:=(hL.out.below hb).at_ hlt;obtain⟨d0,d1,-,-,-,-,-,-⟩:=d;have I9:=hide (hnt.out i hlt);have c0:=Blk.n0 k1;have c1:=Blk.n1 k1;generalize L[i].c=lc at*;obtain⟨lk,la,lb⟩:=lc;dsimp only at d0 d1 I9;by_cases q1:lk=key
   ·have g1:(lk !=key)=false:=(by simp[q1]);by_cases q2:la=a0
    ·have g2:(la !=a0)=false:=(by simp[q2]);clear q1 q2 I9;go_upto_region 4 with fail;go_quiet (fail);go_wp2_with fail;go_loopw [40] (fun s40 wr=>∃j:Nat,j≤L.length∧s40= .int .i64 (j:Int)∧Hid (∀b,b<j→aR H level L (eB ⟨key,a0,b0⟩ (i,b))=false)∧Blk wr w.heap.size 24 #[.slice A H.length c]∧Blk wr (w.heap.size+1) 102 #[.int .i64 key,.int .i64 a0,.int .i64 b0]∧Blk wr (w.heap.size+1+1) 104 #[.int .i64 0,.int .i64 0,.int .i64 0,.int .i64 0,.int .i64 0,.int .i64 0,.slice none 0 0]∧Below w.heap.size w wr) (fun s40 _=>L.length-(intOf s40).toNat);case atStart=>exact⟨0,by omega,by go_num,hide fun b hb=>absurd hb (by omega),k0,k1,kr,hb.trans ⟨rfl,rfl,rfl,Nat.le_refl _,fun _ _=>rfl⟩⟩
     case round=>
      clear k0 k1 kr hb c0 c1 d0 d1;obtain⟨Wp,rfl⟩:∃Wp,Wp=wr:=⟨_,rfl⟩;obtain⟨j,hj,rfl,qh,k0,k1,kr,hb⟩:=hrel;have hj0:(0:Int)≤(j:Int):=Int.natCast_nonneg _;by_cases hjl:j<L.length
      ·have hj1:(j:Int)<(L.length:Int):=(by omega);have hh1:=hide (hhit.out i j hlt hjl hno.out qh.out);have hstp:Hid (aR H level L (eB ⟨key,a0,b0⟩ (i,j))=false→∀b,b<j+1→aR H level L (eB ⟨key,a0,b0⟩ (i,b))=false):=fun g b hb=>by
        by_cases e:b=j
        ·subst e;exact g
        ·exact qh.out b (by omega)
       have hs2:Below Wp.heap.size Wp (Wp.alloc (.cells #[.int .i64 key,.int .i64 a0,.int .i64 b0,.int .i64 2,.int .i64 (i:Int),.int .i64 (j:Int),.slice none 0 0] 104)):=(Below.refl _ _).alloc (Nat.le_refl _) _;have hA:=hb.trans (hs2.mono hb.size);have hcl:=hho.out i j _ hA;have n0:=k0.below hs2 k0.lt;have n1:=k1.below hs2 k1.lt;have nr:=kr.below hs2 kr.lt;generalize aR H level L (eB ⟨key,a0,b0⟩ (i,j))=q at*;dsimp only[eB,List.length_nil]at hcl;replace hcl:=hide hcl;replace n0:=hide n0;replace n1:=hide n1;replace nr:=hide nr;replace hA:=hide hA;have v0:=Blk.n0 k1;have v1:=Blk.n1 k1;have v2:=Blk.n2 k1;clear k0 k1 kr hs2 qh hb;go_upto_region 9 with fail;generalize hWa:Wp.alloc (.cells #[.int .i64 key,.int .i64 a0,.int .i64 b0,.int .i64 2,.int .i64 (i:Int),.int .i64 (j:Int),.slice none 0 0] 104)=Wa at*;have nn:=Blk.newEq hWa;replace n0:=n0.out;replace n1:=n1.out;replace nr:=nr.out;replace hA:=hA.out;have u0:=Blk.n0 n0;have m0:=Blk.n0 nn;have m1:=Blk.n1 nn;have m2:=Blk.n2 nn;have m3:=Blk.n3 nn;have m4:=Blk.n4 nn;have m5:=Blk.n5 nn;have m6:=Blk.n6 nn;clear hWa v0 v1 v2;go_wp2_with fail;refine hcl.out.mono ?_;rintro e w1 ⟨rfl,hb1⟩;have hb2:=hA.trans (hb1.mono hA.size);replace n0:=n0.below hb1 n0.lt;replace n1:=n1.below hb1 n1.lt;replace nr:=nr.below hb1 nr.lt;replace nn:=nn.below hb1 nn.lt;clear hcl u0 m0 m1 m2 m3 m4 m5 m6 hb1 hA;cases q with
       |true=>
        obtain rfl:=hh1.out rfl;have m0:=Blk.n0 nn;have m1:=Blk.n1 nn;have m2:=Blk.n2 nn;have m3:=Blk.n3 nn;have m4:=Blk.n4 nn;have m5:=Blk.n5 nn;have m6:=Blk.n6 nn;have z0:=Blk.n0 nr;have z1:=Blk.n1 nr;have z2:=Blk.n2 nr;have z3:=Blk.n3 nr;have z4:=Blk.n4 nr;have z5:=Blk.n5 nr;have z6:=Blk.n6 nr;have f0:=nr.frozen 0;have f1:=nr.frozen 1;have f2:=nr.frozen 2;have f3:=nr.frozen 3;have f4:=nr.frozen 4;have f5:=nr.frozen 5;have f6:=nr.frozen 6;have hBo:=hide (nA (a:= .int .i64 key) (b:= .int .i64 a0) (c:= .int .i64 b0) (d:= .int .i64 2) (e:= .int .i64 (i:Int)) (f:= .int .i64 (j:Int)) (h:= .slice none 0 0) hb2 (show w.heap.size≤w.heap.size+1+1 by omega));have kz:=Dk (a:= .int .i64 key) (b:= .int .i64 a0) (c:= .int .i64 b0) (d:= .int .i64 2) (e:= .int .i64 (i:Int)) (f:= .int .i64 (j:Int)) (h:= .slice none 0 0) nr;have y0:=kz.cell 0;have y1:=kz.cell 1;have y2:=kz.cell 2;have y3:=kz.cell 3;have y4:=kz.cell 4;have y5:=kz.cell 5;have y6:=kz.cell 6;unfold Fh at y0 y1 y2 y3 y4 y5 y6;simp only[gA,gZ,gS]at y0 y1 y2 y3 y4 y5 y6;clear hh1 hstp hno hhit lG hnt hho n0 n1 nr nn kz hb2;go_wp2_with fail;exact bodyPost_ret (v:= .tuple #[.agg #[.int .i64 key,.int .i64 a0,.int .i64 b0,.int .i64 2,.int .i64 (i:Int),.int .i64 (j:Int),.slice none 0 0],.bool true]) (by simp[results,Tryz.results118,go_sem,y0,y1,y2,y3,y4,y5,y6]) rfl ⟨rfl,hBo.out⟩
       |false=>
        have hs1:=hide (hstp.out rfl);clear hh1 hstp;go_wp2;go_roundw;case rel=>exact⟨j+1,by omega,by go_num,hs1,n0,n1,nr,hb2⟩
        case measure=>simp[intOf];omega
      ·obtain rfl:j=L.length:=(by omega);have hn1:=hide (show∀a,a<i+1→∀b,b<L.length→aR H level L (eB ⟨key,a0,b0⟩ (a,b))=false from fun a ha b hb=>by
        by_cases e:a=i
        ·subst e;exact qh.out b hb
        ·exact hno.out a (by omega) b hb)
       clear hno qh hhit lG;go_wp2;go_roundw;case rel=>exact⟨i+1,by omega,by go_num,hn1,k0,k1,kr,hb⟩
       case measure=>simp[intOf];omega
    ·have g2:(la !=a0)=true:=(by simpa using q2);have hnot:=hide (fun b=>I9.out (.inr q2) b);clear q1 q2 I9;have hn1:=hide (show∀a,a<i+1→∀b,b<L.length→aR H level L (eB ⟨key,a0,b0⟩ (a,b))=false from fun a ha b hb=>by
      by_cases e:a=i
      ·subst e;exact hnot.out b
      ·exact hno.out a (by omega) b hb)
     clear hnot hno hhit lG;go_upto_region 4 with fail;go_quiet (fail);go_wp2;go_roundw;case rel=>exact⟨i+1,by omega,by go_num,hn1,k0,k1,kr,hb.trans ⟨rfl,rfl,rfl,Nat.le_refl _,fun _ _=>rfl⟩⟩
     case measure=>simp[intOf];omega
   ·have g1:(lk !=key)=true:=(by simpa using q1);have hnot:=hide (fun b=>I9.out (.inl q1) b);clear q1 I9;have hn1:=hide (show∀a,a<i+1→∀b,b<L.length→aR H level L (eB ⟨key,a0,b0⟩ (a,b))=false from fun a ha b hb=>by
     by_cases e:a=i
     ·subst e;exact hnot.out b
     ·exact hno.out a (by omega) b hb)
    clear hnot hno hhit lG;go_upto_region 4 with fail;go_quiet (fail);go_wp2;go_roundw;case rel=>exact⟨i+1,by omega,by go_num,hn1,k0,k1,kr,hb.trans ⟨rfl,rfl,rfl,Nat.le_refl _,fun _ _=>rfl⟩⟩
    case measure=>simp[intOf];omega
  ·obtain rfl:i=L.length:=(by omega);obtain rfl:=lG.out hno.out;have z0:=Blk.n0 kr;have z1:=Blk.n1 kr;have z2:=Blk.n2 kr;have z3:=Blk.n3 kr;have z4:=Blk.n4 kr;have z5:=Blk.n5 kr;have z6:=Blk.n6 kr;have f0:=kr.frozen 0;have f1:=kr.frozen 1;have f2:=kr.frozen 2;have f3:=kr.frozen 3;have f4:=kr.frozen 4;have f5:=kr.frozen 5;have f6:=kr.frozen 6;have hBo:=hide (nA (a:= .int .i64 0) (b:= .int .i64 0) (c:= .int .i64 0) (d:= .int .i64 0) (e:= .int .i64 0) (f:= .int .i64 0) (h:= .slice none 0 0) hb (show w.heap.size≤w.heap.size+1+1 by omega));have kz:=Dk (a:= .int .i64 0) (b:= .int .i64 0) (c:= .int .i64 0) (d:= .int .i64 0) (e:= .int .i64 0) (f:= .int .i64 0) (h:= .slice none 0 0) kr;have y0:=kz.cell 0;have y1:=kz.cell 1;have y2:=kz.cell 2;have y3:=kz.cell 3;have y4:=kz.cell 4;have y5:=kz.cell 5;have y6:=kz.cell 6;unfold Fh at y0 y1 y2 y3 y4 y5 y6;simp only[gA,gZ,gS]at y0 y1 y2 y3 y4 y5 y6;clear hno hhit lG hnt hho k0 k1 kr kz hb;go_wp2_with fail;exact bodyPost_ret (v:= .tuple #[.agg #[.int .i64 0,.int .i64 0,.int .i64 0,.int .i64 0,.int .i64 0,.int .i64 0,.slice none 0 0],.bool false]) (by simp[results,Tryz.results118,go_sem,y0,y1,y2,y3,y4,y5,y6]) rfl ⟨rfl,hBo.out⟩
set_option maxHeartbeats 2000000
theorem Fp(A:Option Addr)(n c:Nat)(w:World)(h:n≤c):Calls Tryz.prog 82 #[.slice A n c] w fun e w'=>e= .returned (.slice A n n)∧w=w':=by
 have h1:(n:Int)≤(c:Int):=(by omega);have h0:(0:Int)≤(n:Int):=Int.natCast_nonneg _;go_enter Tryz.func82,Tryz.ntmps82;go_wp2;go_ret;exact⟨rfl,rfl⟩
theorem Ja{α:Type}{size:Nat}{enc:α→List Value}{w:World}{K:Nat→Prop}{ad:Addr}{n c:Nat}{l:List α}(h:SlR size (Flat enc) w K (.slice (some ad) n c) l)(hs:∀x,(enc x).length=size):∀(j:Nat) (u:Value),(l.map enc).flatten[j]?=some u→w.cell? (ad.add j)=some u:=by
 intro j u hj;obtain⟨i,k,cs,rfl,h1,h2⟩:=qI (size:=size) (l.map enc) j u (fun i cs e=>by
  rw[List.getElem?_map]at e;obtain⟨x,-,rfl⟩:=Option.map_eq_some_iff.1 e;exact hs x) hj
 rw[List.getElem?_map]at h1;obtain⟨x,hx,rfl⟩:=Option.map_eq_some_iff.1 h1;obtain⟨hi,rfl⟩:=List.getElem?_eq_some_iff.1 hx;obtain⟨b,off,cs',e,-,-,hR,hc⟩:=h.at_ hi;injection e with e
 subst e;unfold Flat at hR;subst hR;have:=hc k u h2;rw[show(⟨b,off,none⟩:Addr).add (i*size+k)=⟨b,off+i*size+k,none⟩ by unfold Addr.add;split<;>simp_all<;>omega];exact this
theorem rM {P:Program} {w:World} {ops:Array Oper} {rest:List Oper} {o:Oper} {a:Act} {Q:Exit→Act→World→Prop} {α:Type} {enc:α→List Value}
 (hgd:o.guard=none) (s x:Operand) (t:TypeId) (ho:o.op= .call {callee:= .builtin .append,args:=#[s,x],argTypes:=#[t,t]})
 (e:TypeId) (i:TypeInfo) (z:Value) (size bytes:Nat) (ht:P.underlying t=some (.slice e)) (hi:P.info? e=some i) (hz:i.zero=some z)
 (hsize:i.size=size) (hby:i.bytes=bytes) (hzs:z.cells.size=size) (hsz:0<size)
 (ao:Option Addr) (K:Nat→Prop) (l:List α) (hs:a.eval s= .slice ao l.length l.length) (hl:SlR size (Flat enc) w K (.slice ao l.length l.length) l) (hen:∀x,(enc x).length=size)
 (g:Nat) (cs:Array Value) (x0:α) (kg:Blk w g e cs) (hcs:cs.toList=enc x0) (hx:a.eval x= .slice (some ⟨g,0,none⟩) 1 1)
 (h1:∀x,∀u∈enc x,u.oneCell'=true) (h63:l.length+1≤maxLen) (hbytes:(l.length+1)*bytes≤140737488355328)
 (h:∀v' w',w'.ownsRow w.heap.size e size v' (l++[x0]).length ((l++[x0]).map enc).flatten→Below w.heap.size w w'→wpList P ops Q rest (a.put o.dst v') w'):
 wpList P ops Q (o::rest) a w:=by
 refine wpList_append_grows w hgd s x t ho e i z size bytes ht hi hz hsize hby hzs hsz ao l.length l.length (l.map enc).flatten hs (fun e=> ?_) ?_ (fun b e=> ?_) ⟨g,0,none⟩ 1 1 (enc x0) hx (by rw[hen];omega) (fun j u hj=> ?_) (h1 x0) (by omega) h63 hbytes ?_
 ·rcases Nat.eq_zero_or_pos l.length with h0|h0
  ·exact⟨h0,h0⟩
  ·obtain⟨b,off,cs',e',-⟩:=hl.at_ h0;rw[e]at e';cases e'
 ·clear h hs hl h63 hbytes
  induction l with
  |nil=>simp
  |cons y l ih=>rw[List.map_cons,List.flatten_cons,List.length_append,hen,ih,List.length_cons,Nat.add_mul];omega
 ·subst e;exact Ja hl hen
 ·have:=kg.cell j;rw[show(⟨g,0,none⟩:Addr).add j=⟨g,j,none⟩ by unfold Addr.add;split<;>simp_all,this];rw[←hcs]at hj;simpa using hj
 ·intro v' w' g1 g2;refine h v' w' ?_ ((Below.refl _ _).grown g2 (Nat.le_refl _) (by simp));rw[List.map_append,List.flatten_append,List.length_append];simpa using g1
set_option maxHeartbeats 8000000
def wGt(base n:Nat)(E:aj):Wrd:=⟨[172],fun v W=>∃g,base≤g∧v= .tuple #[.agg #[.int .i64 n,.slice (some ⟨g,0,none⟩) n n],.int .i64 0]∧Blk W g 172 (bH n E),fun _ _ _ _ _ h hT k=>by
 obtain⟨g,h1,h2,h3⟩:=k;exact⟨g,h1,h2,hT.blk h3 (h _ (by simp))⟩⟩
def wGa(base n:Nat)(E:aj):Wrd:=⟨[172],fun v W=>∃g,base≤g∧v= .agg #[.int .i64 n,.slice (some ⟨g,0,none⟩) n n]∧Blk W g 172 (bH n E),fun _ _ _ _ _ h hT k=>by
 obtain⟨g,h1,h2,h3⟩:=k;exact⟨g,h1,h2,hT.blk h3 (h _ (by simp))⟩⟩
def wGb(base n:Nat)(E:aj):Wrd:=⟨[77,172],fun v W=>∃gb g,base≤gb∧base≤g∧v= .pointer (some ⟨gb,0,none⟩)∧Blk W gb 77 #[.int .i64 n,.slice (some ⟨g,0,none⟩) n n]∧Blk W g 172 (bH n E),fun _ _ _ _ _ h hT k=>by
 obtain⟨gb,g,h1,h2,h3,h4,h5⟩:=k;exact⟨gb,g,h1,h2,h3,hT.blk h4 (h _ (by simp)),hT.blk h5 (h _ (by simp))⟩⟩
set_option maxRecDepth 100000 in
theorem Dl (A:Option Addr) (c:Nat) (H:List Txn) (level:Int) (Ak:Option Addr) (ck:Nat) (M:List Cho) (x:Cho) (g1 g2 g3:Nat) (w:World) (h:aF w (Old w) (.slice A H.length c) H) (hn:aB H) (hM:bq w (Old w) (.slice Ak M.length ck) M) (hr:cB H (M++[x])=true) (jP:level=0∨level=1) (hTB:iE w)
 (b1:Blk w g1 24 #[.slice A H.length c]) (b2:Blk w g2 3 #[.int .i64 level]) (b3:Blk w g3 65 #[.slice Ak M.length ck]):
 Calls Tryz.prog 119 #[.agg #[.int .i64 x.key,.int .i64 x.a,.int .i64 x.b],.pointer (some ⟨g1,0,none⟩),.pointer (some ⟨g2,0,none⟩),.pointer (some ⟨g3,0,none⟩)] w (yR w (bA H level (M++[x]))):=by
 obtain⟨ic,hic,hi1,hi2,hi3⟩:=info_parts mP;obtain⟨xk,xa,xb⟩:=x;dsimp only;obtain⟨W0,hW0⟩:∃W0,w.alloc (.cells #[.int .i64 xk,.int .i64 xa,.int .i64 xb] 102)=W0:=⟨_,rfl⟩;have hB:=ah (Below.refl w.heap.size w) hW0 (Nat.le_refl _);have k0:=Blk.newEq hW0;have k1:=b1.below hB b1.lt;have k2:=b2.below hB b2.lt;have k3:=b3.below hB b3.lt;have hri:aC H=true:=(by unfold cB at hr;simp only[Bool.and_eq_true]at hr;exact hr.1.1);have h64:H.length≤64:=(by have:=((aA H).1 hri).1;omega);have hNl:M.length+1≤20000:=(by unfold cB at hr;simp only[Bool.and_eq_true,decide_eq_true_eq]at hr;have:=hr.1.2;rw[List.length_append,List.length_singleton]at this;exact this);have hcap:M.length≤ck:=(by obtain⟨_,_,e,h1⟩:=SlR.len hM;simp only[Value.slice.injEq]at e;omega);have hMS:∀W,Below w.heap.size w W→bq W (fun b=>b<w.heap.size) (.slice Ak M.length M.length) M:=fun W hb=>by
  obtain⟨A',c',xs,e,h1,h2,h3,h4⟩:=bq.keep (K':=fun b=>b<w.heap.size) hM (Agree.below hb fun b h=>h) (fun b h=>h);injection e with e1 e2 e3
  subst e1;exact⟨Ak,M.length,xs,rfl,Nat.le_refl _,h2,h3,h4⟩
 have hfu:=hide (fun W (hb:Below w.heap.size w W) A' c' (hC:bq W (Old W) (.slice A' (M++[(⟨xk,xa,xb⟩:Cho)]).length c') (M++[⟨xk,xa,xb⟩]))=>rG A c H level A' c' (M++[⟨xk,xa,xb⟩]) W (h.below hb) hn hC hr jP (hTB.below hb));have hfi:=hide (fun g W (hb:Below w.heap.size w W) (kg:Blk W g 172 (bH H.length (bK H level (M++[⟨xk,xa,xb⟩]))))=>rH H.length (some ⟨g,0,none⟩) H.length (bK H level (M++[⟨xk,xa,xb⟩])) W (GrS.bB kg kg.lt h64) (hTB.below hb));have hFL:bA H level (M++[⟨xk,xa,xb⟩])=au (eY H.length (bK H level (M++[⟨xk,xa,xb⟩]))):=rfl;rw[hFL];obtain⟨N,hNM⟩:∃N,M++[(⟨xk,xa,xb⟩:Cho)]=N:=⟨_,rfl⟩;rw[hNM]at hfu hfi⊢;generalize bK H level N=E at*;generalize au (eY H.length E)=FL at*;clear hr hFL;go_enter Tryz.func119,Tryz.ntmps119;go_upto_region 1 with fail;clear hW0;refine bJ W0.heap.size [wV (.agg #[.slice A H.length c]),wV (.int .i64 level),wV (.slice Ak M.length ck),wV (.slice Ak M.length M.length),wV (.agg #[.int .i64 xk,.int .i64 xa,.int .i64 xb]),wS W0.heap.size 102 1 #[.int .i64 xk,.int .i64 xa,.int .i64 xb],wO W0.heap.size 102 3 N.length (N.map jJ).flatten,wGt W0.heap.size H.length E,wGt W0.heap.size H.length E,wGa W0.heap.size H.length E,wV (.int .i64 0),wB W0.heap.size 77 #[.int .i64 0,.slice none 0 0],wGb W0.heap.size H.length E,wV (.int .i64 0)] [[],[],[],[2],[],[4],[3,5],[0,1,6],[7],[8],[8],[],[9,11],[10]] [[],[],[],[],[],[],[],[],[],[],[],[],[77],[]] [[],[],[],[],[],[102],[102],[172],[172],[172],[],[77],[77,172],[]] [0,1,2,3,4,5,6,7,8,9,10,11,11,13] [77] (Nat.le_refl _) (by kernel_rfl) (by kernel_rfl) (by kernel_rfl) (by kernel_rfl) (by kernel_rfl) (by kernel_rfl) rfl trivial (by kernel_rfl) (by kernel_rfl) ?hstep ?hend;case hstep=>
  simp only[gP,fM,RsT,acV,wV,wO,wS,wB,wU,wX,wK,wA,wGt,wGa,wGb,dh,gA,gZ,gS,List.getD_cons_zero,List.getD_cons_succ,List.getD_nil,Act.put,sA,sZ,sS,Nat.zero_add,Nat.reduceAdd,if_true,and_true];refine⟨?o0,?o1,?o2,?o3,?o4,?o5,?o6,?o7,?o8,?o9,?o10,?o11,?o12,?_⟩;all_goals intro vs W R hR hT hd
  all_goals have hsz:=hT.size
  all_goals have hbW:=hB.trans (hT.below.mono hB.size)
  case o0=>
   have c0:=Blk.n0 (k1.below hT.below k1.lt);go_wp2;exact⟨rfl,_,rfl,hR _ _ rfl (TyW.refl _ _ _)⟩
  case o1=>
   have c0:=Blk.n0 (k2.below hT.below k2.lt);go_wp2;exact⟨rfl,_,rfl,hR _ _ rfl (TyW.refl _ _ _)⟩
  case o2=>
   have c0:=Blk.n0 (k3.below hT.below k3.lt);go_wp2;exact⟨rfl,_,rfl,hR _ _ rfl (TyW.refl _ _ _)⟩
  case o3=>
   rw[hd];go_wp2_with fail;refine(Fp Ak M.length ck W hcap).mono ?_;rintro e W2 ⟨rfl,rfl⟩;go_wp2;exact⟨rfl,_,rfl,hR _ _ rfl (TyW.refl _ _ _)⟩
  case o4=>
   have kq:=k0.below hT.below k0.lt;have c0:=Blk.n0 kq;have c1:=Blk.n1 kq;have c2:=Blk.n2 kq;go_wp2;exact⟨rfl,_,rfl,hR _ _ rfl (TyW.refl _ _ _)⟩
  case o5=>
   rw[hd];go_wp2;exact⟨rfl,_,rfl,hR _ _ ⟨W.heap.size,hsz,rfl,Blk.new _ _ _⟩ (TyW.calm ((Below.refl _ _).alloc (Nat.le_refl _) _) hsz)⟩
  case o6=>
   obtain⟨e3,g,hg,e5,kg⟩:=hd;rw[e3,e5];refine rM (enc:=jJ) rfl _ _ 65 rfl 102 ic _ 3 24 Tryz.underlying65 hic hi1 hi2 hi3 rfl (by decide) Ak (fun b=>b<w.heap.size) M rfl (hMS W hbW) (fun _=>rfl) g _ ⟨xk,xa,xb⟩ kg rfl rfl iG (by unfold maxLen;omega) (by omega) ?_;intro v6 W6 hown6 hb6;rw[hNM]at hown6;exact⟨rfl,_,rfl,hR _ _ (cO hown6 hsz) (TyW.calm hb6 hsz)⟩
  case o7=>
   obtain⟨e0,e1,o6⟩:=hd;obtain⟨A6,c6,e6⟩:=bY o6;rw[e6]at o6;rw[e0,e1,e6];go_wp2_with fail;refine(hfu.out W hbW A6 c6 (dw.sl o6 fun g _ h=>h)).mono ?_;rintro e W2 ⟨g,hg,rfl,kg,hb2⟩;go_wp2;exact⟨rfl,_,rfl,hR _ _ ⟨g,Nat.le_trans hsz hg,rfl,kg⟩ (TyW.calm hb2 hsz)⟩
  case o8=>
   go_wp2;exact⟨rfl,_,rfl,hR _ _ hd (TyW.refl _ _ _)⟩
  case o9=>
   obtain⟨g,hg,e8,kg⟩:=hd;rw[e8];go_wp2;exact⟨rfl,_,rfl,hR _ _ ⟨g,hg,rfl,kg⟩ (TyW.refl _ _ _)⟩
  case o10=>
   obtain⟨g,hg,e8,kg⟩:=hd;rw[e8];go_wp2;exact⟨rfl,_,rfl,hR _ _ rfl (TyW.refl _ _ _)⟩
  case o11=>
   go_wp2;exact⟨rfl,_,rfl,hR _ _ ⟨W.heap.size,hsz,rfl,Blk.new _ _ _⟩ (TyW.calm ((Below.refl _ _).alloc (Nat.le_refl _) _) hsz)⟩
  case o12=>
   obtain⟨⟨g,hg,e9,kg⟩,gb,hgb,e11,kb⟩:=hd;have z0:=Blk.n0 kb;have z1:=Blk.n1 kb;have f0:=kb.frozen 0;have f1:=kb.frozen 1;have hP:=(TyW.put kb (σ:=[77]) hgb (by simp) (i:=0) (.int .i64 H.length)).trans (TyW.put (kb.aD 0 _) hgb (by simp) (i:=1) (.slice (some ⟨g,0,none⟩) H.length H.length));have kP:=(kb.aD 0 (.int .i64 H.length)).aD 1 (.slice (some ⟨g,0,none⟩) H.length H.length);rw[e9,e11];go_wp2;exact⟨rfl,undef,rfl,hR undef _ ⟨gb,g,hgb,hg,e11,kP,hP.blk kg (by decide)⟩ hP⟩
  all_goals (go_wp2;exact⟨rfl,_,rfl,hR _ _ (by first|rfl|trivial) (TyW.refl _ _ _)⟩)
 case hend=>
  intro vs W hT hd;obtain⟨gb,g,hgb,hg,e11,kb,kg⟩:∃gb g,W0.heap.size≤gb∧W0.heap.size≤g∧vs 11= .pointer (some ⟨gb,0,none⟩)∧Blk W gb 77 #[.int .i64 H.length,.slice (some ⟨g,0,none⟩) H.length H.length]∧Blk W g 172 (bH H.length E):=hd 12 (by simp) (by kernel_rfl);have hbW:=hB.trans (hT.below.mono hB.size);simp only[acV,gA,gZ,gS,Act.put,sA,sZ,sS,List.length_cons,List.length_nil,Nat.reduceAdd];rw[e11];have hfc:=hide (hfi.out g W hbW kg);have z0:=Blk.n0 kb;have z1:=Blk.n1 kb;clear hd hT hfi hfu hMS kb kg k0 k1 k2 k3 hNM;go_wp2_with fail;refine hfc.out.mono ?_;rintro e w1 ⟨v,rfl,hv,hb1⟩;have hs:=hbW.size;go_wp2;go_ret;exact⟨_,rfl,cO hv hs,hbW.trans (hb1.mono hs)⟩
end Go.Proofs.YtfhnamomiaekdaaGreatDoor
namespace Go.Proofs.YtfhnamomiaekdaaGreatDoor
open Go.RowKit Go.Inq
set_option maxHeartbeats 1000000
theorem wH {α:Type} {size:Nat} {R:World→(Nat→Prop)→List Value→α→Prop} {w:World} {K:Nat→Prop} {g:Nat} {t:TypeId} {l:List α} (ys:List (List Value)) (h:Blk w g t ys.flatten.toArray) (hl:ys.length=l.length)
 (hR:∀(i:Nat) cs x,ys[i]?=some cs→l[i]?=some x→cs.length=size∧R w K cs x) (hK:K g) (hn:l.length≤1000000):SlR size R w K (.slice (some ⟨g,0,none⟩) l.length l.length) l:=by
 have hlen:∀(ys:List (List Value)),(∀cs∈ys,cs.length=size)→ys.flatten.length=ys.length*size:=by
  intro ys
  induction ys with
  |nil=>intro _;simp
  |cons y r ih=>
   intro hs;rw[List.flatten_cons,List.length_append,ih fun cs hc=>hs cs (List.mem_cons_of_mem _ hc),hs y (by simp),List.length_cons,Nat.add_mul];omega
 have h1:=hlen ys fun cs hc=>by
  obtain⟨i,hi⟩:=List.getElem?_of_mem hc;have hil:i<l.length:=by
   rcases Nat.lt_or_ge i ys.length with h|h
   ·omega
   ·rw[List.getElem?_eq_none h]at hi;cases hi
  exact(hR i cs l[i] hi (List.getElem?_eq_getElem hil)).1
 refine SlR.mq (base:=g) (e:=t) (n:=l.length) (xs:=ys.flatten) (ys:=ys) ⟨by rw[h1,hl],.inr ⟨g,l.length,_,rfl,Nat.le_refl _,h,Nat.le_refl _,by unfold maxLen;omega,by simp[h1,hl],List.take_of_length_le (by simp[h1,hl])⟩⟩ rfl rfl hl hR (fun g' hg=> ?_);have:g=g':=(by simpa[Value.ownBlock]using hg);exact this▸hK
end Go.Proofs.YtfhnamomiaekdaaGreatDoor
