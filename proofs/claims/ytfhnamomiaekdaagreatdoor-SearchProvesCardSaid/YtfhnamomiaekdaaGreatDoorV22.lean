/-
  Walks: layer 24: a reader of nodes: the next node, the end, the next tree's shape; the shape of a tree.
-/
import Derived.Defers
import Derived.Recover
import Derived.Test.YtfhnamomiaekdaaGreatDoorV05
import Derived.Test.YtfhnamomiaekdaaGreatDoorV09
set_option linter.unusedVariables false
set_option linter.unusedSimpArgs false
namespace Go.Proofs.YtfhnamomiaekdaaGreatDoor
open Go.RowKit Go.Inq
set_option maxHeartbeats 4000000
attribute [local go_sem↓] Go.wp_at_zero Go.wp_at_succ
def RdW(W:World)(g:Nat)(l:List Nod):Prop:=∃A c,Blk W g 231 #[.slice A l.length c]∧bJ W (fun b=>b<g) (.slice A l.length c) l
theorem RdW.lt{W:World}{g:Nat}{l:List Nod}(h:RdW W g l):g<W.heap.size:=by
 obtain⟨A,c,h1,-⟩:=h;exact h1.lt
theorem RdW.below{W W':World}{g:Nat}{l:List Nod}(h:RdW W g l)(hb:Below W.heap.size W W'):RdW W' g l:=by
 have hlt:=h.lt;obtain⟨A,c,h1,h2⟩:=h;exact⟨A,c,h1.below hb h1.lt,h2.keep (Agree.below hb fun b h=>by omega) fun _ h=>h⟩
theorem RdW.ty{W W':World}{g n0:Nat}{σ:List TypeId}{l:List Nod}(h:RdW W g l)(hT:TyW n0 σ W W')(hs:231∉σ)(hg:g≤n0):RdW W' g l:=by
 obtain⟨A,c,h1,h2⟩:=h;exact⟨A,c,hT.blk h1 hs,h2.keep (Agree.below hT.below fun b h=>by omega) fun _ h=>h⟩
def Dn:List PanicEntry:=[{v:= .iface 294 (.agg #[]),recovered:=false}]
def JA(g:Nat)(x:Nod)(l:List Nod)(w:World)(e:Ending)(w':World):Prop:=∃A c,e= .returned (.agg #[.int .i64 x.c.key,.int .i64 x.c.a,.int .i64 x.c.b,.slice A x.cyc.length c])∧aP w' (fun b=>b<g) (.slice A x.cyc.length c) x.cyc∧RdW w' g l∧TyW g [231] w w'
set_option maxRecDepth 100000 in
theorem BZ(g:Nat)(w:World)(h:RdW w g []):Calls Tryz.prog 206 #[.pointer (some ⟨g,0,none⟩)] w fun e w'=>e= .panicked Dn∧TyW g [231] w w':=by
 obtain⟨A,c,kg,-⟩:=h;obtain⟨W1,hW1⟩:∃W1,w.alloc (.cells #[.int .i64 0,.int .i64 0,.int .i64 0,.slice none 0 0] 125)=W1:=⟨_,rfl⟩;have hb:=ah (Below.refl w.heap.size w) hW1 (Nat.le_refl _);have k1:=kg.below hb kg.lt;have hT:TyW g [231] w W1:=TyW.calm hb (Nat.le_of_lt kg.lt);have c0:=k1.cell 0;simp only[gA,gZ,List.length_nil]at c0;clear kg k1 hb;go_enter Tryz.func206,Tryz.ntmps206;go_wp2;exact⟨rfl,rfl,hT⟩
set_option maxRecDepth 100000 in
theorem vN(g:Nat)(x:Nod)(l:List Nod)(w:World)(h:RdW w g (x::l))(hn:l.length+1≤maxLen):Calls Tryz.prog 206 #[.pointer (some ⟨g,0,none⟩)] w (JA g x l w):=by
 obtain⟨A,c,kg,hS⟩:=h;have hcap:=hS.cap;have hdr:=SlR.drop hS (k:=1) (by simp);obtain⟨b,off,Ay,cy,rfl,hb,d⟩:=bJ.at_ hS (i:=0) (by simp);obtain⟨d0,d1,d2,d3,hcy⟩:=d;unfold maxLen at hn;simp only[List.getElem_cons_zero,Nat.zero_mul,Nat.add_zero,List.length_cons,Nat.add_sub_cancel,List.drop_succ_cons,List.drop_zero,Option.map_some,Addr.add_lit,Nat.one_mul]at d0 d1 d2 d3 hcy hdr kg hcap;obtain⟨⟨xk,xa,xb⟩,xc⟩:=x;dsimp only at d0 d1 d2 d3 hcy;have hgl:=kg.lt;obtain⟨V,hV⟩:∃V,(if c=1 then(some ⟨b,off,none⟩:Option Addr)else some ⟨b,off+4,none⟩)=V:=⟨_,rfl⟩;rw[hV]at hdr;obtain⟨W1,hW1⟩:∃W1,w.alloc (.cells #[.int .i64 0,.int .i64 0,.int .i64 0,.slice none 0 0] 125)=W1:=⟨_,rfl⟩;have hb1:=ah (Below.refl w.heap.size w) hW1 (Nat.le_refl _);have s1:=aA hW1;have r1:=Blk.newEq hW1;have k1:=kg.below hb1 hgl;have hA1:Agree (fun q=>q<g) w W1:=Agree.below hb1 fun q hq=>(by omega);have e0:=(hA1.cell (p:=⟨b,off,none⟩) hb).trans d0;have e1:=(hA1.cell (p:=⟨b,off+1,none⟩) hb).trans d1;have e2:=(hA1.cell (p:=⟨b,off+2,none⟩) hb).trans d2;have e3:=(hA1.cell (p:=⟨b,off+3,none⟩) hb).trans d3;obtain⟨W2,hW2⟩:∃W2,W1.alloc (.cells #[.int .i64 xk,.int .i64 xa,.int .i64 xb,.slice Ay xc.length cy] 125)=W2:=⟨_,rfl⟩;have hb2:=hb1.trans ((ah (Below.refl W1.heap.size W1) hW2 (Nat.le_refl _)).mono hb1.size);have n2:=Blk.newEq hW2;have k2:=k1.au hW2;have r2:=r1.au hW2;rw[s1]at n2;obtain⟨W3,hW3⟩:∃W3,W2.setCell ⟨g,0,none⟩ (.slice V l.length (c-1))=W3:=⟨_,rfl⟩;have hne1:w.heap.size≠g:=(by omega);have hne2:w.heap.size+1≠g:=(by omega);have k3:Blk W3 g 231 #[.slice V l.length (c-1)]:=(by rw[←hW3];exact k2.aM 0 (.slice V l.length (c-1)));have r3:Blk W3 w.heap.size 125 #[.int .i64 0,.int .i64 0,.int .i64 0,.slice none 0 0]:=(by rw[←hW3];exact r2.far (p:=⟨g,0,none⟩) hne1 (.slice V l.length (c-1)));have n3:Blk W3 (w.heap.size+1) 125 #[.int .i64 xk,.int .i64 xa,.int .i64 xb,.slice Ay xc.length cy]:=(by rw[←hW3];exact n2.far (p:=⟨g,0,none⟩) hne2 (.slice V l.length (c-1)));have hT3:TyW g [231] w W3:=by
  rw[←hW3];exact(TyW.calm hb2 (Nat.le_of_lt hgl)).trans (TyW.put k2 (Nat.le_refl _) (by simp) _)
 obtain⟨W4,hW4⟩:∃W4,(((W3.setCell ⟨w.heap.size,0,none⟩ (.int .i64 xk)).setCell ⟨w.heap.size,1,none⟩ (.int .i64 xa)).setCell ⟨w.heap.size,2,none⟩ (.int .i64 xb)).setCell ⟨w.heap.size,3,none⟩ (.slice Ay xc.length cy)=W4:=⟨_,rfl⟩;have hb4:Below w.heap.size W3 W4:=by
  rw[←hW4];exact((((Below.refl w.heap.size W3).setCell (p:=⟨w.heap.size,0,none⟩) (Nat.le_refl _) _).setCell (p:=⟨w.heap.size,1,none⟩) (Nat.le_refl _) _).setCell (p:=⟨w.heap.size,2,none⟩) (Nat.le_refl _) _).setCell (p:=⟨w.heap.size,3,none⟩) (Nat.le_refl _) _
 have r4:Blk W4 w.heap.size 125 #[.int .i64 xk,.int .i64 xa,.int .i64 xb,.slice Ay xc.length cy]:=by
  rw[←hW4];have:=(((r3.aM 0 (.int .i64 xk)).aM 1 (.int .i64 xa)).aM 2 (.int .i64 xb)).aM 3 (.slice Ay xc.length cy);simpa only[sA,sZ,sS]using this
 have k4:Blk W4 g 231 #[.slice V l.length (c-1)]:=k3.below hb4 hgl;have hT4:TyW g [231] w W4:=⟨hT3.below.trans (hb4.mono (Nat.le_of_lt hgl)),fun q o ho hno=>(hb4.block q (Array.getElem?_eq_some_iff.1 ho).1).trans (hT3.keep q o ho hno)⟩;have hA4:Agree (fun q=>q<g) w W4:=Agree.below hT4.below fun q hq=>hq;have hO:JA g ⟨⟨xk,xa,xb⟩,xc⟩ l w (.returned (.agg #[.int .i64 xk,.int .i64 xa,.int .i64 xb,.slice Ay xc.length cy])) W4:=
  ⟨Ay,cy,rfl,hcy.keep hA4 fun _ h=>h,⟨V,c-1,k4,hdr.keep fE.aO hA4 fun _ h=>h⟩,hT4⟩
 have hc1:(1:Int)≤(l.length+1:Int):=(by omega);have hc2:(l.length+1:Int)≤(c:Int):=(by omega);have g0:=Blk.n0 k1;have g1:=Blk.n0 k2;have g2:=k2.frozen 0;have v0:=Blk.n0 r3;have v1:=Blk.n1 r3;have v2:=Blk.n2 r3;have v3:=Blk.n3 r3;have fr0:=r3.frozen 0;have fr1:=r3.frozen 1;have fr2:=r3.frozen 2;have fr3:=r3.frozen 3;have m0:=Blk.n0 n3;have m1:=Blk.n1 n3;have m2:=Blk.n2 n3;have m3:=Blk.n3 n3;have y0:=Blk.n0 r4;have y1:=Blk.n1 r4;have y2:=Blk.n2 r4;have y3:=Blk.n3 r4;replace hO:=hide hO;clear hT4 hA4 hT3 hb4 k4 k3 r4 n3 r1 r2 k1 k2 n2 hcy hdr hS d0 d1 d2 d3 hA1 hb1 hb2 hb r3 kg;go_enter Tryz.func206,Tryz.ntmps206;go_wp2_with fail;exact bodyPost_ret (v:= .agg #[.int .i64 xk,.int .i64 xa,.int .i64 xb,.slice Ay xc.length cy]) (by simp[results,Tryz.results206,go_sem,y0,y1,y2,y3]) rfl hO.out
theorem Ot(g:Nat)(A:Option Addr)(c:Nat)(w:World)(kg:Blk w g 231 #[.slice A 0 c]):Calls Tryz.prog 205 #[.pointer (some ⟨g,0,none⟩)] w fun e w'=>e= .returned (.tuple #[])∧w=w':=by
 have c0:=kg.cell 0;simp only[gA,gZ,List.length_nil]at c0;clear kg;go_enter Tryz.func205,Tryz.ntmps205;go_wp2
 go_end0
 exact⟨rfl,rfl⟩
theorem Ou(g:Nat)(A:Option Addr)(n c:Nat)(w:World)(kg:Blk w g 231 #[.slice A (n+1) c]):Calls Tryz.prog 205 #[.pointer (some ⟨g,0,none⟩)] w fun e w'=>e= .panicked Dn∧w=w':=by
 have c0:=Blk.n0 kg;have g1:decide (((n+1:Nat):Int)>0)=true:=(by simp);clear kg;go_enter Tryz.func205,Tryz.ntmps205;go_wp2;exact⟨rfl,rfl,rfl⟩
theorem qJ:∀t:Tr,t.leaves≤t.flat.length
 | .leaf _=>by simp[Tr.leaves,Tr.flat]
 | .fork _ l r=>by
  have h1:=qJ l;have h2:=qJ r;simp[Tr.leaves,Tr.flat];omega
theorem yx:∀t:Tr,t.deep≤t.flat.length
 | .leaf _=>by simp[Tr.deep,Tr.flat]
 | .fork _ l r=>by
  have h1:=yx l;have h2:=yx r;simp only[Tr.deep,Tr.flat,List.length_cons,List.length_append];omega
theorem JB(k a b:Int)(v:Value)(w:World):(Instr.field 125 (.agg #[.int .i64 k,.int .i64 a,.int .i64 b,v]) 1).run Tryz.prog w= .ok v w:=by kernel_rfl
def mO(g k:Nat)(l:List Nod)(w:World)(e:Ending)(w':World):Prop:=
 (bR k l=none→e= .panicked Dn)∧(∀t r,bR k l=some (t,r)→e= .returned (.tuple #[.int .i64 (t.leaves:Int),.int .i64 (t.deep:Int)])∧RdW w' g r)∧TyW g [231] w w'
theorem Lj(k:Nat):bR k []=none:=by cases k<;>rfl
theorem Ib(k:Nat){n:Nod}(l:List Nod)(h:n.cyc≠[]):bR (k+1) (n::l)=some (.leaf n,l):=by
 conv=>lhs;unfold bR
 rw[if_pos h]
theorem Ic(k:Nat){n:Nod}(l:List Nod)(h:n.cyc=[]):(bR k l=none→bR (k+1) (n::l)=none)∧∀x r1,bR k l=some (x,r1)→(bR k r1=none→bR (k+1) (n::l)=none)∧∀y r2,bR k r1=some (y,r2)→bR (k+1) (n::l)=some (.fork n.c x y,r2):=by
 refine⟨fun h1=> ?_,fun x r1 h1=>⟨fun h2=> ?_,fun y r2 h2=> ?_⟩⟩<;>conv=>lhs;unfold bR
 ·rw[if_neg (by rw[h];simp),h1]
 ·rw[if_neg (by rw[h];simp),h1];dsimp only;rw[h2]
 ·rw[if_neg (by rw[h];simp),h1];dsimp only;rw[h2]
set_option maxRecDepth 100000 in
theorem Qu(g:Nat):∀(k:Nat) (l:List Nod) (w:World),RdW w g l→l.length≤100000000→l.length≤k→Calls Tryz.prog 204 #[.pointer (some ⟨g,0,none⟩)] w (mO g k l w):=by
 intro k
 induction k with
 |zero=>
  intro l w h hl hk;obtain rfl:l=[]:=List.length_eq_zero_iff.1 (by omega);have hx:=hide (BZ g w h);clear h;go_enter Tryz.func204,Tryz.ntmps204;go_wp2_with fail;refine hx.out.mono ?_;rintro e w1 ⟨rfl,hT⟩;go_wp2;refine⟨rfl,?_⟩;unfold mO;exact⟨fun _=>rfl,fun t r e=>(by cases e),hT⟩
 |succ k ih=>
  intro l w h hl hk;cases l with
  |nil=>
   have hx:=hide (BZ g w h);clear h ih;go_enter Tryz.func204,Tryz.ntmps204;go_wp2_with fail;refine hx.out.mono ?_;rintro e w1 ⟨rfl,hT⟩;go_wp2;refine⟨rfl,?_⟩;unfold mO;exact⟨fun _=>rfl,fun t r e=>(by rw[Lj]at e;cases e),hT⟩
  |cons n l=>
   rw[List.length_cons]at hl hk;have hx:=hide (vN g n l w h (by unfold maxLen;omega));by_cases hc:n.cyc=[]
   ·have hp:=hide (Ic k l hc);have hcl:n.cyc.length=0:=(by rw[hc];rfl);have h1:=hide (ih l);have hih:=hide ih;clear ih h hc;obtain⟨P,hP⟩:∃P,mO g (k+1) (n::l) w=P:=⟨_,rfl⟩;rw[hP];replace hP:=hide hP;go_enter Tryz.func204,Tryz.ntmps204;go_wp2_with fail;refine hx.out.mono ?_;rintro e w1 ⟨A,c,rfl,-,hR,hT⟩;rw[hcl];have hfd:=JB n.c.key n.c.a n.c.b (.slice A 0 c);have h2:=h1.out w1 hR (by omega) (by omega);clear hx h1 hR;replace h2:=hide h2;cases hq:bR k l with
    |none=>
     have hn0:=hide (hp.out.1 hq);replace hq:=hide hq;clear hp hih;go_wp2_with fail;refine h2.out.mono ?_;rintro e w2 ⟨s1,-,hT2⟩;obtain rfl:=s1 hq.out;go_wp2;refine⟨rfl,?_⟩;rw[←hP.out];exact⟨fun _=>rfl,fun t r e=>(by rw[hn0.out]at e;cases e),hT.trans hT2⟩
    |some xr=>
     obtain⟨x,r1⟩:=xr;obtain⟨p1,p2⟩:=hp.out.2 x r1 hq;have hfl:=(jm hq).1;have hlr:l.length=x.flat.length+r1.length:=(by rw[hfl,List.length_append]);have hxl:=qJ x;have hxd:=yx x;have hpos:=Nc x;replace hq:=hide hq;replace p1:=hide p1;replace p2:=hide p2;replace hlr:=hide hlr;clear hp hfl;go_wp2_with fail;refine h2.out.mono ?_;rintro e w2 ⟨-,s2,hT2⟩;obtain⟨rfl,hR2⟩:=s2 x r1 hq.out;have h3:=hide (hih.out r1 w2 hR2 (by have:=hlr.out;omega) (by have:=hlr.out;omega));clear h2 hih hR2 hq s2;cases hq2:bR k r1 with
     |none=>
      have hn0:=hide (p1.out hq2);replace hq2:=hide hq2;clear p1 p2;go_wp2_with fail;refine h3.out.mono ?_;rintro e w3 ⟨s1,-,hT3⟩;obtain rfl:=s1 hq2.out;go_wp2;refine⟨rfl,?_⟩;rw[←hP.out];exact⟨fun _=>rfl,fun t r e=>(by rw[hn0.out]at e;cases e),(hT.trans hT2).trans hT3⟩
     |some yr=>
      obtain⟨y,r2⟩:=yr;have hn0:=hide (p2.out y r2 hq2);have hfl:=(jm hq2).1;have Vf:r1.length=y.flat.length+r2.length:=(by rw[hfl,List.length_append]);have hyl:=qJ y;have hyd:=yx y;replace hq2:=hide hq2;have b1:x.leaves+y.leaves≤100000000:=(by have:=hlr.out;omega);have b2:1+max x.deep y.deep≤100000000:=(by have:=hlr.out;omega);clear hfl Vf hlr p1 p2;go_wp2_with fail;refine h3.out.mono ?_;rintro e w3 ⟨-,s2,hT3⟩;obtain⟨rfl,hR3⟩:=s2 y r2 hq2.out;clear h3 s2 hq2;go_wp2;all_goals
       rw[←hP.out];refine⟨fun e=>(by rw[hn0.out]at e;cases e),fun t r e=> ?_,(hT.trans hT2).trans hT3⟩;rw[hn0.out]at e;simp only[Option.some.injEq,Prod.mk.injEq]at e;obtain⟨rfl,rfl⟩:=e;refine⟨?_,hR3⟩;have q1:(x.leaves:Int)+y.leaves=((x.leaves+y.leaves:Nat):Int):=(by omega);rw[q1];first
        |(have q2:1+max (x.deep:Int) (y.deep:Int)=((1+max x.deep y.deep:Nat):Int):=(by omega);rw[q2];rfl)
        |(have q2:1+(x.deep:Int)=((1+max x.deep y.deep:Nat):Int):=(by omega);rw[q2];rfl)
        |(have q2:1+(y.deep:Int)=((1+max x.deep y.deep:Nat):Int):=(by omega);rw[q2];rfl)
   ·have hp:=hide (Ib k l hc);have hcl:0<n.cyc.length:=List.length_pos_iff.2 hc;have g1:decide ((n.cyc.length:Int)>0)=true:=(by simp;omega);have g2:decide (0<n.cyc.length)=true:=(by simp;omega);clear ih h hc;obtain⟨P,hP⟩:∃P,mO g (k+1) (n::l) w=P:=⟨_,rfl⟩;rw[hP];replace hP:=hide hP;go_enter Tryz.func204,Tryz.ntmps204;go_wp2_with fail;refine hx.out.mono ?_;rintro e w1 ⟨A,c,rfl,-,hR,hT⟩;have hfd:=JB n.c.key n.c.a n.c.b (.slice A n.cyc.length c);clear hx;go_wp2;rw[←hP.out];refine⟨fun e=>(by rw[hp.out]at e;cases e),fun t r e=> ?_,hT⟩;rw[hp.out]at e;simp only[Option.some.injEq,Prod.mk.injEq]at e;obtain⟨rfl,rfl⟩:=e;exact⟨rfl,hR⟩
end Go.Proofs.YtfhnamomiaekdaaGreatDoor
