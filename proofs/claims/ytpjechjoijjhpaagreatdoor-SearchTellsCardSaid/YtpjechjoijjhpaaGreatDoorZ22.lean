/-
  Walks: layer 24: a reader of nodes: the next node, the end, the next tree's shape; the shape of a tree.
-/
import Derived.Defers
import Derived.Recover
import Derived.ArgAppend
import Derived.MapKept
import Derived.ChangeMaps4
import Derived.Carry
import Derived.Test.YtpjechjoijjhpaaGreatDoorZ05
import Derived.Test.YtpjechjoijjhpaaGreatDoorZ09
import Derived.Test.YtpjechjoijjhpaaGreatDoorZ11
import Derived.Test.YtpjechjoijjhpaaGreatDoorZ01
import Derived.Test.YtpjechjoijjhpaaGreatDoorZ16
import Derived.Test.YtpjechjoijjhpaaGreatDoorZ04
import Derived.Test.YtpjechjoijjhpaaGreatDoorZ03
import Derived.Test.YtpjechjoijjhpaaGreatDoorZ02
set_option linter.unusedVariables false
set_option linter.unusedSimpArgs false
namespace Go.Proofs.YtpjechjoijjhpaaGreatDoor
open Go.RowKit Go.Inq
set_option maxHeartbeats 4000000
attribute [local go_sem↓] Go.wp_at_zero Go.wp_at_succ
def RdW(W:World)(g:Nat)(l:List Nod):Prop:=∃A c,Blk W g 145 #[.slice A l.length c]∧aY W (fun b=>b<g) (.slice A l.length c) l
theorem RdW.lt{W:World}{g:Nat}{l:List Nod}(h:RdW W g l):g<W.heap.size:=by
 obtain⟨A,c,h1,-⟩:=h;exact h1.lt
theorem RdW.below{W W':World}{g:Nat}{l:List Nod}(h:RdW W g l)(hb:Below W.heap.size W W'):RdW W' g l:=by
 have hlt:=h.lt;obtain⟨A,c,h1,h2⟩:=h;exact⟨A,c,h1.below hb h1.lt,h2.keep (Agree.below hb fun b h=>by omega) fun _ h=>h⟩
theorem RdW.ty{W W':World}{g n0:Nat}{σ:List TypeId}{l:List Nod}(h:RdW W g l)(hT:TyW n0 σ W W')(hs:145∉σ)(hg:g≤n0):RdW W' g l:=by
 obtain⟨A,c,h1,h2⟩:=h;exact⟨A,c,hT.blk h1 hs,h2.keep (Agree.below hT.below fun b h=>by omega) fun _ h=>h⟩
def DJ:List PanicEntry:=[{v:= .iface 205 (.agg #[]),recovered:=false}]
def J3(g:Nat)(x:Nod)(l:List Nod)(w:World)(e:Ending)(w':World):Prop:=∃A c,e= .returned (.agg #[.int .i64 x.c.key,.int .i64 x.c.a,.int .i64 x.c.b,.slice A x.cyc.length c])∧aM w' (fun b=>b<g) (.slice A x.cyc.length c) x.cyc∧RdW w' g l∧TyW g [145] w w'
set_option maxRecDepth 100000 in
theorem Cy(g:Nat)(w:World)(h:RdW w g []):Calls Tryz.prog 122 #[.pointer (some ⟨g,0,none⟩)] w fun e w'=>e= .panicked DJ∧TyW g [145] w w':=by
 obtain⟨A,c,kg,-⟩:=h;obtain⟨W1,hW1⟩:∃W1,w.alloc (.cells #[.int .i64 0,.int .i64 0,.int .i64 0,.slice none 0 0] 69)=W1:=⟨_,rfl⟩;have hb:=ah (Below.refl w.heap.size w) hW1 (Nat.le_refl _);have k1:=kg.below hb kg.lt;have hT:TyW g [145] w W1:=TyW.calm hb (Nat.le_of_lt kg.lt);have c0:=k1.cell 0;simp only[gA,gZ,List.length_nil]at c0;clear kg k1 hb;go_enter Tryz.func122,Tryz.ntmps122;go_wp2;exact⟨rfl,rfl,hT⟩
set_option maxRecDepth 100000 in
theorem vX(g:Nat)(x:Nod)(l:List Nod)(w:World)(h:RdW w g (x::l))(hn:l.length+1≤maxLen):Calls Tryz.prog 122 #[.pointer (some ⟨g,0,none⟩)] w (J3 g x l w):=by
 obtain⟨A,c,kg,hS⟩:=h;have hcap:=hS.cap;have hdr:=SlR.drop hS (k:=1) (by simp);obtain⟨b,off,Ay,cy,rfl,hb,d⟩:=aY.at_ hS (i:=0) (by simp);obtain⟨d0,d1,d2,d3,hcy⟩:=d;unfold maxLen at hn;simp only[List.getElem_cons_zero,Nat.zero_mul,Nat.add_zero,List.length_cons,Nat.add_sub_cancel,List.drop_succ_cons,List.drop_zero,Option.map_some,Addr.add_lit,Nat.one_mul]at d0 d1 d2 d3 hcy hdr kg hcap;obtain⟨⟨xk,xa,xb⟩,xc⟩:=x;dsimp only at d0 d1 d2 d3 hcy;have hgl:=kg.lt;obtain⟨V,hV⟩:∃V,(if c=1 then(some ⟨b,off,none⟩:Option Addr)else some ⟨b,off+4,none⟩)=V:=⟨_,rfl⟩;rw[hV]at hdr;obtain⟨W1,hW1⟩:∃W1,w.alloc (.cells #[.int .i64 0,.int .i64 0,.int .i64 0,.slice none 0 0] 69)=W1:=⟨_,rfl⟩;have hb1:=ah (Below.refl w.heap.size w) hW1 (Nat.le_refl _);have s1:=aB hW1;have r1:=Blk.newEq hW1;have k1:=kg.below hb1 hgl;have hA1:Agree (fun q=>q<g) w W1:=Agree.below hb1 fun q hq=>(by omega);have e0:=(hA1.cell (p:=⟨b,off,none⟩) hb).trans d0;have e1:=(hA1.cell (p:=⟨b,off+1,none⟩) hb).trans d1;have e2:=(hA1.cell (p:=⟨b,off+2,none⟩) hb).trans d2;have e3:=(hA1.cell (p:=⟨b,off+3,none⟩) hb).trans d3;obtain⟨W2,hW2⟩:∃W2,W1.alloc (.cells #[.int .i64 xk,.int .i64 xa,.int .i64 xb,.slice Ay xc.length cy] 69)=W2:=⟨_,rfl⟩;have hb2:=hb1.trans ((ah (Below.refl W1.heap.size W1) hW2 (Nat.le_refl _)).mono hb1.size);have n2:=Blk.newEq hW2;have k2:=k1.av hW2;have r2:=r1.av hW2;rw[s1]at n2;obtain⟨W3,hW3⟩:∃W3,W2.setCell ⟨g,0,none⟩ (.slice V l.length (c-1))=W3:=⟨_,rfl⟩;have hne1:w.heap.size≠g:=(by omega);have hne2:w.heap.size+1≠g:=(by omega);have k3:Blk W3 g 145 #[.slice V l.length (c-1)]:=(by rw[←hW3];exact k2.aH 0 (.slice V l.length (c-1)));have r3:Blk W3 w.heap.size 69 #[.int .i64 0,.int .i64 0,.int .i64 0,.slice none 0 0]:=(by rw[←hW3];exact r2.far (p:=⟨g,0,none⟩) hne1 (.slice V l.length (c-1)));have n3:Blk W3 (w.heap.size+1) 69 #[.int .i64 xk,.int .i64 xa,.int .i64 xb,.slice Ay xc.length cy]:=(by rw[←hW3];exact n2.far (p:=⟨g,0,none⟩) hne2 (.slice V l.length (c-1)));have hT3:TyW g [145] w W3:=by
  rw[←hW3];exact(TyW.calm hb2 (Nat.le_of_lt hgl)).trans (TyW.put k2 (Nat.le_refl _) (by simp) _)
 obtain⟨W4,hW4⟩:∃W4,(((W3.setCell ⟨w.heap.size,0,none⟩ (.int .i64 xk)).setCell ⟨w.heap.size,1,none⟩ (.int .i64 xa)).setCell ⟨w.heap.size,2,none⟩ (.int .i64 xb)).setCell ⟨w.heap.size,3,none⟩ (.slice Ay xc.length cy)=W4:=⟨_,rfl⟩;have hb4:Below w.heap.size W3 W4:=by
  rw[←hW4];exact((((Below.refl w.heap.size W3).setCell (p:=⟨w.heap.size,0,none⟩) (Nat.le_refl _) _).setCell (p:=⟨w.heap.size,1,none⟩) (Nat.le_refl _) _).setCell (p:=⟨w.heap.size,2,none⟩) (Nat.le_refl _) _).setCell (p:=⟨w.heap.size,3,none⟩) (Nat.le_refl _) _
 have r4:Blk W4 w.heap.size 69 #[.int .i64 xk,.int .i64 xa,.int .i64 xb,.slice Ay xc.length cy]:=by
  rw[←hW4];have:=(((r3.aH 0 (.int .i64 xk)).aH 1 (.int .i64 xa)).aH 2 (.int .i64 xb)).aH 3 (.slice Ay xc.length cy);simpa only[sA,sZ,sS]using this
 have k4:Blk W4 g 145 #[.slice V l.length (c-1)]:=k3.below hb4 hgl;have hT4:TyW g [145] w W4:=⟨hT3.below.trans (hb4.mono (Nat.le_of_lt hgl)),fun q o ho hno=>(hb4.block q (Array.getElem?_eq_some_iff.1 ho).1).trans (hT3.keep q o ho hno)⟩;have hA4:Agree (fun q=>q<g) w W4:=Agree.below hT4.below fun q hq=>hq;have hO:J3 g ⟨⟨xk,xa,xb⟩,xc⟩ l w (.returned (.agg #[.int .i64 xk,.int .i64 xa,.int .i64 xb,.slice Ay xc.length cy])) W4:=
  ⟨Ay,cy,rfl,hcy.keep hA4 fun _ h=>h,⟨V,c-1,k4,hdr.keep fu.aS hA4 fun _ h=>h⟩,hT4⟩
 have hc1:(1:Int)≤(l.length+1:Int):=(by omega);have hc2:(l.length+1:Int)≤(c:Int):=(by omega);have g0:=Blk.n0 k1;have g1:=Blk.n0 k2;have g2:=k2.frozen 0;have v0:=Blk.n0 r3;have v1:=Blk.n1 r3;have v2:=Blk.n2 r3;have v3:=Blk.n3 r3;have fr0:=r3.frozen 0;have fr1:=r3.frozen 1;have fr2:=r3.frozen 2;have fr3:=r3.frozen 3;have m0:=Blk.n0 n3;have m1:=Blk.n1 n3;have m2:=Blk.n2 n3;have m3:=Blk.n3 n3;have y0:=Blk.n0 r4;have y1:=Blk.n1 r4;have y2:=Blk.n2 r4;have y3:=Blk.n3 r4;replace hO:=hide hO;clear hT4 hA4 hT3 hb4 k4 k3 r4 n3 r1 r2 k1 k2 n2 hcy hdr hS d0 d1 d2 d3 hA1 hb1 hb2 hb r3 kg;go_enter Tryz.func122,Tryz.ntmps122;go_wp2_with fail;exact bodyPost_ret (v:= .agg #[.int .i64 xk,.int .i64 xa,.int .i64 xb,.slice Ay xc.length cy]) (by simp[results,Tryz.results122,go_sem,y0,y1,y2,y3]) rfl hO.out
theorem OJ(g:Nat)(A:Option Addr)(c:Nat)(w:World)(kg:Blk w g 145 #[.slice A 0 c]):Calls Tryz.prog 121 #[.pointer (some ⟨g,0,none⟩)] w fun e w'=>e= .returned (.tuple #[])∧w=w':=by
 have c0:=kg.cell 0;simp only[gA,gZ,List.length_nil]at c0;clear kg;go_enter Tryz.func121,Tryz.ntmps121;go_wp2
 go_end0
 exact⟨rfl,rfl⟩
theorem OL(g:Nat)(A:Option Addr)(n c:Nat)(w:World)(kg:Blk w g 145 #[.slice A (n+1) c]):Calls Tryz.prog 121 #[.pointer (some ⟨g,0,none⟩)] w fun e w'=>e= .panicked DJ∧w=w':=by
 have c0:=Blk.n0 kg;have g1:decide (((n+1:Nat):Int)>0)=true:=(by simp);clear kg;go_enter Tryz.func121,Tryz.ntmps121;go_wp2;exact⟨rfl,rfl,rfl⟩
theorem qP:∀t:Tr,t.leaves≤t.flat.length
 | .leaf _=>by simp[Tr.leaves,Tr.flat]
 | .fork _ l r=>by
  have h1:=qP l;have h2:=qP r;simp[Tr.leaves,Tr.flat];omega
theorem yF:∀t:Tr,t.deep≤t.flat.length
 | .leaf _=>by simp[Tr.deep,Tr.flat]
 | .fork _ l r=>by
  have h1:=yF l;have h2:=yF r;simp only[Tr.deep,Tr.flat,List.length_cons,List.length_append];omega
theorem J4(k a b:Int)(v:Value)(w:World):(Instr.field 69 (.agg #[.int .i64 k,.int .i64 a,.int .i64 b,v]) 1).run Tryz.prog w= .ok v w:=by kernel_rfl
def mV(g k:Nat)(l:List Nod)(w:World)(e:Ending)(w':World):Prop:=
 (bf k l=none→e= .panicked DJ)∧(∀t r,bf k l=some (t,r)→e= .returned (.tuple #[.int .i64 (t.leaves:Int),.int .i64 (t.deep:Int)])∧RdW w' g r)∧TyW g [145] w w'
theorem vY(k:Nat):bf k []=none:=by cases k<;>rfl
theorem Ip(k:Nat){n:Nod}(l:List Nod)(h:n.cyc≠[]):bf (k+1) (n::l)=some (.leaf n,l):=by
 conv=>lhs;unfold bf
 rw[if_pos h]
theorem Iq(k:Nat){n:Nod}(l:List Nod)(h:n.cyc=[]):(bf k l=none→bf (k+1) (n::l)=none)∧∀x r1,bf k l=some (x,r1)→(bf k r1=none→bf (k+1) (n::l)=none)∧∀y r2,bf k r1=some (y,r2)→bf (k+1) (n::l)=some (.fork n.c x y,r2):=by
 refine⟨fun h1=> ?_,fun x r1 h1=>⟨fun h2=> ?_,fun y r2 h2=> ?_⟩⟩<;>conv=>lhs;unfold bf
 ·rw[if_neg (by rw[h];simp),h1]
 ·rw[if_neg (by rw[h];simp),h1];dsimp only;rw[h2]
 ·rw[if_neg (by rw[h];simp),h1];dsimp only;rw[h2]
set_option maxRecDepth 100000 in
theorem Qv(g:Nat):∀(k:Nat) (l:List Nod) (w:World),RdW w g l→l.length≤100000000→l.length≤k→Calls Tryz.prog 120 #[.pointer (some ⟨g,0,none⟩)] w (mV g k l w):=by
 intro k
 induction k with
 |zero=>
  intro l w h hl hk;obtain rfl:l=[]:=List.length_eq_zero_iff.1 (by omega);have hx:=hide (Cy g w h);clear h;go_enter Tryz.func120,Tryz.ntmps120;go_wp2_with fail;refine hx.out.mono ?_;rintro e w1 ⟨rfl,hT⟩;go_wp2;refine⟨rfl,?_⟩;unfold mV;exact⟨fun _=>rfl,fun t r e=>(by cases e),hT⟩
 |succ k ih=>
  intro l w h hl hk;cases l with
  |nil=>
   have hx:=hide (Cy g w h);clear h ih;go_enter Tryz.func120,Tryz.ntmps120;go_wp2_with fail;refine hx.out.mono ?_;rintro e w1 ⟨rfl,hT⟩;go_wp2;refine⟨rfl,?_⟩;unfold mV;exact⟨fun _=>rfl,fun t r e=>(by rw[vY]at e;cases e),hT⟩
  |cons n l=>
   rw[List.length_cons]at hl hk;have hx:=hide (vX g n l w h (by unfold maxLen;omega));by_cases hc:n.cyc=[]
   ·have hp:=hide (Iq k l hc);have hcl:n.cyc.length=0:=(by rw[hc];rfl);have h1:=hide (ih l);have hih:=hide ih;clear ih h hc;obtain⟨P,hP⟩:∃P,mV g (k+1) (n::l) w=P:=⟨_,rfl⟩;rw[hP];replace hP:=hide hP;go_enter Tryz.func120,Tryz.ntmps120;go_wp2_with fail;refine hx.out.mono ?_;rintro e w1 ⟨A,c,rfl,-,hR,hT⟩;rw[hcl];have hfd:=J4 n.c.key n.c.a n.c.b (.slice A 0 c);have h2:=h1.out w1 hR (by omega) (by omega);clear hx h1 hR;replace h2:=hide h2;cases hq:bf k l with
    |none=>
     have hn0:=hide (hp.out.1 hq);replace hq:=hide hq;clear hp hih;go_wp2_with fail;refine h2.out.mono ?_;rintro e w2 ⟨s1,-,hT2⟩;obtain rfl:=s1 hq.out;go_wp2;refine⟨rfl,?_⟩;rw[←hP.out];exact⟨fun _=>rfl,fun t r e=>(by rw[hn0.out]at e;cases e),hT.trans hT2⟩
    |some xr=>
     obtain⟨x,r1⟩:=xr;obtain⟨p1,p2⟩:=hp.out.2 x r1 hq;have hfl:=(dN hq).1;have hlr:l.length=x.flat.length+r1.length:=(by rw[hfl,List.length_append]);have hxl:=qP x;have hxd:=yF x;have hpos:=tT x;replace hq:=hide hq;replace p1:=hide p1;replace p2:=hide p2;replace hlr:=hide hlr;clear hp hfl;go_wp2_with fail;refine h2.out.mono ?_;rintro e w2 ⟨-,s2,hT2⟩;obtain⟨rfl,hR2⟩:=s2 x r1 hq.out;have h3:=hide (hih.out r1 w2 hR2 (by have:=hlr.out;omega) (by have:=hlr.out;omega));clear h2 hih hR2 hq s2;cases hq2:bf k r1 with
     |none=>
      have hn0:=hide (p1.out hq2);replace hq2:=hide hq2;clear p1 p2;go_wp2_with fail;refine h3.out.mono ?_;rintro e w3 ⟨s1,-,hT3⟩;obtain rfl:=s1 hq2.out;go_wp2;refine⟨rfl,?_⟩;rw[←hP.out];exact⟨fun _=>rfl,fun t r e=>(by rw[hn0.out]at e;cases e),(hT.trans hT2).trans hT3⟩
     |some yr=>
      obtain⟨y,r2⟩:=yr;have hn0:=hide (p2.out y r2 hq2);have hfl:=(dN hq2).1;have Wh:r1.length=y.flat.length+r2.length:=(by rw[hfl,List.length_append]);have hyl:=qP y;have hyd:=yF y;replace hq2:=hide hq2;have b1:x.leaves+y.leaves≤100000000:=(by have:=hlr.out;omega);have b2:1+max x.deep y.deep≤100000000:=(by have:=hlr.out;omega);clear hfl Wh hlr p1 p2;go_wp2_with fail;refine h3.out.mono ?_;rintro e w3 ⟨-,s2,hT3⟩;obtain⟨rfl,hR3⟩:=s2 y r2 hq2.out;clear h3 s2 hq2;go_wp2;all_goals
       rw[←hP.out];refine⟨fun e=>(by rw[hn0.out]at e;cases e),fun t r e=> ?_,(hT.trans hT2).trans hT3⟩;rw[hn0.out]at e;simp only[Option.some.injEq,Prod.mk.injEq]at e;obtain⟨rfl,rfl⟩:=e;refine⟨?_,hR3⟩;have q1:(x.leaves:Int)+y.leaves=((x.leaves+y.leaves:Nat):Int):=(by omega);rw[q1];first
        |(have q2:1+max (x.deep:Int) (y.deep:Int)=((1+max x.deep y.deep:Nat):Int):=(by omega);rw[q2];rfl)
        |(have q2:1+(x.deep:Int)=((1+max x.deep y.deep:Nat):Int):=(by omega);rw[q2];rfl)
        |(have q2:1+(y.deep:Int)=((1+max x.deep y.deep:Nat):Int):=(by omega);rw[q2];rfl)
   ·have hp:=hide (Ip k l hc);have hcl:0<n.cyc.length:=List.length_pos_iff.2 hc;have g1:decide ((n.cyc.length:Int)>0)=true:=(by simp;omega);have g2:decide (0<n.cyc.length)=true:=(by simp;omega);clear ih h hc;obtain⟨P,hP⟩:∃P,mV g (k+1) (n::l) w=P:=⟨_,rfl⟩;rw[hP];replace hP:=hide hP;go_enter Tryz.func120,Tryz.ntmps120;go_wp2_with fail;refine hx.out.mono ?_;rintro e w1 ⟨A,c,rfl,-,hR,hT⟩;have hfd:=J4 n.c.key n.c.a n.c.b (.slice A n.cyc.length c);clear hx;go_wp2;rw[←hP.out];refine⟨fun e=>(by rw[hp.out]at e;cases e),fun t r e=> ?_,hT⟩;rw[hp.out]at e;simp only[Option.some.injEq,Prod.mk.injEq]at e;obtain⟨rfl,rfl⟩:=e;exact⟨rfl,hR⟩
set_option maxRecDepth 100000 in
theorem DK(w:World)(g:Nat):
 CallsD Tryz.prog 119 #[.pointer (some ⟨g,0,none⟩),.pointer (some ⟨g+1,0,none⟩),.pointer (some ⟨g+2,0,none⟩)] .returning w fun e u' w'=>e= .returned (.tuple #[])∧u'= .returning∧Below w.heap.size w w':=by
 refine callsD_of_wpS Tryz.func119 rfl fun c₀ cs hu=> ?_;change Code.wpS _ _ _ {tmps:=#[.pointer (some ⟨g,0,none⟩),.pointer (some ⟨g+1,0,none⟩),.pointer (some ⟨g+2,0,none⟩),undef,undef],defers:=[]} _ _;apply wpS_seq;apply wpS_region;simp[wpOpsS,go_sem,recoverD,hu,Exit.thenS];refine wpS_of_wp ?_;go_wp2;cases c₀
 simp_all [bodyPostS,results,Tryz.results119]
 exact Below.refl _ _
set_option maxRecDepth 100000 in
theorem uI(older:List PanicEntry)(w:World)(g:Nat)(v0 v1 v2:Value)(k0:Blk w g 3 #[v0])(k1:Blk w (g+1) 3 #[v1])(k2:Blk w (g+2) 4 #[v2]):
 CallsD Tryz.prog 119 #[.pointer (some ⟨g,0,none⟩),.pointer (some ⟨g+1,0,none⟩),.pointer (some ⟨g+2,0,none⟩)] (.panicking ({v:= .iface 205 (.agg #[]),recovered:=false}::older)) w fun e u' w'=>
  e= .returned (.tuple #[])∧u'= .panicking ({v:= .iface 205 (.agg #[]),recovered:=true}::older)∧
   Blk w' g 3 #[.int .i64 0]∧Blk w' (g+1) 3 #[.int .i64 0]∧Blk w' (g+2) 4 #[.bool false]∧Below g w w':=by
 refine callsD_of_wpS Tryz.func119 rfl fun c₀ cs hu=> ?_;change Code.wpS _ _ _ {tmps:=#[.pointer (some ⟨g,0,none⟩),.pointer (some ⟨g+1,0,none⟩),.pointer (some ⟨g+2,0,none⟩),undef,undef],defers:=[]} _ _;apply wpS_seq;apply wpS_region;simp[wpOpsS,go_sem,recoverD,hu,Exit.thenS];have f0:=k0.frozen 0;have f1:=k1.frozen 0;have f2:=k2.frozen 0;have d0:=Blk.n0 k0;have d1:=Blk.n0 k1;have d2:=Blk.n0 k2;refine wpS_of_wp ?_;go_wp2;refine⟨rfl,_,rfl,.tuple #[],by simp[results,Tryz.results119],rfl,rfl,?_,?_,?_,?_⟩
 ·exact((k0.aH 0 _).far (by simp) _).far (by simp) _
 ·exact((k1.far (by simp) _).aH 0 _).far (by simp) _
 ·exact((k2.far (by simp) _).far (by simp) _).aH 0 _
 ·exact(((Below.refl _ _).setCell (by simp) _).setCell (by simp) _).setCell (by simp) _
theorem results24 {tmps:Array Value} {w:World} {g:Nat} {v0 v1 v2:Value} (h2:tmps.getD 2 undef= .pointer (some ⟨g,0,none⟩)) (h3:tmps.getD 3 undef= .pointer (some ⟨g+1,0,none⟩)) (h4:tmps.getD 4 undef= .pointer (some ⟨g+2,0,none⟩))
 (k0:Blk w g 3 #[v0]) (k1:Blk w (g+1) 3 #[v1]) (k2:Blk w (g+2) 4 #[v2]):(results Tryz.f81 tmps).run Tryz.prog w= .ok (.tuple #[v0,v1,v2]) w:=by
 have c0:=Blk.n0 k0;have c1:=Blk.n0 k1;have c2:=Blk.n0 k2;have e2:tmps[2]?.getD undef= .pointer (some ⟨g,0,none⟩):=(by simpa using h2);have e3:tmps[3]?.getD undef= .pointer (some ⟨g+1,0,none⟩):=(by simpa using h3);have e4:tmps[4]?.getD undef= .pointer (some ⟨g+2,0,none⟩):=(by simpa using h4);unfold results;simp[Tryz.results81,e2,e3,e4,go_sem,c0,c1,c2]
def J5(g:Nat):Deferred:={target:= .fn (.func 119) #[.pointer (some ⟨g,0,none⟩),.pointer (some ⟨g+1,0,none⟩),.pointer (some ⟨g+2,0,none⟩)],args:=#[]}
theorem uJ {R:Ending→World→Prop} {tmps:Array Value} {w:World} {g:Nat} {v0 v1 v2:Value} (k0:Blk w g 3 #[v0]) (k1:Blk w (g+1) 3 #[v1]) (k2:Blk w (g+2) 4 #[v2])
 (h2:tmps.getD 2 undef= .pointer (some ⟨g,0,none⟩)) (h3:tmps.getD 3 undef= .pointer (some ⟨g+1,0,none⟩)) (h4:tmps.getD 4 undef= .pointer (some ⟨g+2,0,none⟩))
 (h:∀w',Below g w w'→R (.returned (.tuple #[.int .i64 0,.int .i64 0,.bool false])) w'):
 Leaves Tryz.prog Tryz.f81 tmps R [J5 g] (.panicking DJ) w:=by
 refine leaves_cons (f:=119) (args:=#[.pointer (some ⟨g,0,none⟩),.pointer (some ⟨g+1,0,none⟩),.pointer (some ⟨g+2,0,none⟩)]) (by simp) (by simp[go_sem]) ?_;refine(uI [] w g v0 v1 v2 k0 k1 k2).mono ?_;rintro e u' w'' ⟨rfl,rfl,j0,j1,j2,hb⟩;exact⟨_,results24 h2 h3 h4 j0 j1 j2,h w'' hb⟩
theorem Bd {R:Ending→World→Prop} {tmps:Array Value} {w:World} {g:Nat} {v0 v1 v2:Value} (k0:Blk w g 3 #[v0]) (k1:Blk w (g+1) 3 #[v1]) (k2:Blk w (g+2) 4 #[v2])
 (h2:tmps.getD 2 undef= .pointer (some ⟨g,0,none⟩)) (h3:tmps.getD 3 undef= .pointer (some ⟨g+1,0,none⟩)) (h4:tmps.getD 4 undef= .pointer (some ⟨g+2,0,none⟩))
 (h:∀w',Below w.heap.size w w'→R (.returned (.tuple #[v0,v1,v2])) w'):Leaves Tryz.prog Tryz.f81 tmps R [J5 g] .returning w:=by
 refine leaves_cons (f:=119) (args:=#[.pointer (some ⟨g,0,none⟩),.pointer (some ⟨g+1,0,none⟩),.pointer (some ⟨g+2,0,none⟩)]) (by simp) (by simp[go_sem]) ?_;refine(DK w g).mono ?_;rintro e u' w'' ⟨rfl,rfl,hb⟩;exact⟨_,results24 h2 h3 h4 (k0.below hb k0.lt) (k1.below hb k1.lt) (k2.below hb k2.lt),h w'' hb⟩
def lq(l:List Nod):Int×Int×Bool:=match jh l with
 |some t=>((t.leaves:Int),(t.deep:Int),true)
 |none=>(0,0,false)
theorem Fx{l:List Nod}(h:bf l.length l=none):lq l=(0,0,false):=by
 unfold lq jh;rw[h]
theorem Fy{l:List Nod}{t:Tr}{n:Nod}{r:List Nod}(h:bf l.length l=some (t,n::r)):lq l=(0,0,false):=by
 unfold lq jh;rw[h]
theorem Fz{l:List Nod}{t:Tr}(h:bf l.length l=some (t,[])):lq l=((t.leaves:Int),(t.deep:Int),true):=by
 unfold lq jh;rw[h]
def J6(w:World)(r:Int×Int×Bool)(e:Ending)(w':World):Prop:=e= .returned (.tuple #[.int .i64 r.1,.int .i64 r.2.1,.bool r.2.2])∧Below w.heap.size w w'
theorem Sq{w W:World}{v0 v1 v2:Value}{cs:Array Value}(hW:(((w.alloc (.cells #[v0] 3)).alloc (.cells #[v1] 3)).alloc (.cells #[v2] 4)).alloc (.cells cs 145)=W):
 Blk W w.heap.size 3 #[v0]∧Blk W (w.heap.size+1) 3 #[v1]∧Blk W (w.heap.size+2) 4 #[v2]∧Blk W (w.heap.size+3) 145 cs∧Below w.heap.size w W:=by
 obtain⟨W1,hW1⟩:∃W1,w.alloc (.cells #[v0] 3)=W1:=⟨_,rfl⟩;rw[hW1]at hW;obtain⟨W2,hW2⟩:∃W2,W1.alloc (.cells #[v1] 3)=W2:=⟨_,rfl⟩;rw[hW2]at hW;obtain⟨W3,hW3⟩:∃W3,W2.alloc (.cells #[v2] 4)=W3:=⟨_,rfl⟩;rw[hW3]at hW;have s1:=aB hW1;have s2:=aB hW2;have s3:=aB hW3;have n1:=Blk.newEq hW2;have n2:=Blk.newEq hW3;have n3:=Blk.newEq hW;rw[s1]at n1;rw[s2,s1]at n2;rw[s3,s2,s1]at n3;exact⟨(((Blk.newEq hW1).av hW2).av hW3).av hW,(n1.av hW3).av hW,n2.av hW,n3,ah (ah (ah (ah (Below.refl w.heap.size w) hW1 (Nat.le_refl _)) hW2 (by omega)) hW3 (by omega)) hW (by omega)⟩
set_option maxRecDepth 100000 in
theorem FB(A:Option Addr)(c:Nat)(l:List Nod)(w:World)(h:aY w (Old w) (.slice A l.length c) l)(hn:l.length≤100000000):Calls Tryz.prog 81 #[.slice A l.length c] w (J6 w (lq l)):=by
 have hmf:∀(fn:Fn) (first cap:Array Value) (w:World),(Instr.makeFunc fn first cap).run Tryz.prog w= .ok (.func fn first cap) w:=fun _ _ _ _=>rfl;obtain⟨W0,hW0⟩:∃W0,(((w.alloc (.cells #[.int .i64 0] 3)).alloc (.cells #[.int .i64 0] 3)).alloc (.cells #[.bool false] 4)).alloc (.cells #[.slice A l.length c] 145)=W0:=⟨_,rfl⟩;obtain⟨k0,k1,k2,k3,hB⟩:=Sq hW0;have hR:RdW W0 (w.heap.size+3) l:=⟨A,c,k3,h.keep (Agree.below hB fun b hb=>hb) fun b hb=>by show b<w.heap.size+3;have:b<w.heap.size:=hb;omega⟩;have hs:=hide (Qv (w.heap.size+3) l.length l W0 hR hn (Nat.le_refl _));have hN:=hide (Fx (l:=l));have hM:=hide (fun t n r=>Fy (l:=l) (t:=t) (n:=n) (r:=r));have hS:=hide (fun t=>Fz (l:=l) (t:=t));obtain⟨P,hP⟩:∃P,J6 w (lq l)=P:=⟨_,rfl⟩;rw[hP];replace hP:=hide hP;clear h hR k3
 go_enter_defers Tryz.func81,Tryz.ntmps81
 have k2':Blk W0 (w.heap.size+1+1) 4 #[.bool false]:=k2;have hs':Hid (Calls Tryz.prog 120 #[.pointer (some ⟨w.heap.size+1+1+1,0,none⟩)] W0 (mV (w.heap.size+1+1+1) l.length l W0)):=hs;clear hs k2;go_wp2_with fail;refine hs'.out.mono ?_;rintro e w1 ⟨s1,s2,hT⟩;have j0:=hT.blk k0 (by decide);have j1:=hT.blk k1 (by decide);have j2:=hT.blk k2' (by decide);have hB1:Below w.heap.size w w1:=hB.trans (hT.below.mono (by omega));clear hs' k0 k1 k2' hB hT hW0;cases hq:bf l.length l with
 |none=>
  obtain rfl:=s1 hq;have e1:=hide (hN.out hq);clear s1 s2 hM hS hq;go_wp2;refine uJ j0 j1 j2 rfl rfl rfl fun w' hb'=> ?_;rw[←hP.out];exact⟨by rw[e1.out],hB1.trans hb'⟩
 |some tr=>
  obtain⟨t,r⟩:=tr;obtain⟨rfl,hR1⟩:=s2 t r hq;have d0:=Blk.n0 j0;have d1:=Blk.n0 j1;have d2:=Blk.n0 j2;have f0:=j0.frozen 0;have f1:=j1.frozen 0;have f2:=j2.frozen 0;obtain⟨W2,hW2⟩:∃W2,(w1.setCell ⟨w.heap.size,0,none⟩ (.int .i64 (t.leaves:Int))).setCell ⟨w.heap.size+1,0,none⟩ (.int .i64 (t.deep:Int))=W2:=⟨_,rfl⟩;have hTy:TyW w.heap.size [3] w1 W2:=by
   rw[←hW2];exact(TyW.put j0 (Nat.le_refl _) (by simp) _).trans (TyW.put (j1.far (p:=⟨w.heap.size,0,none⟩) (by simp) _) (by omega) (by simp) _)
  have i0:Blk W2 w.heap.size 3 #[.int .i64 (t.leaves:Int)]:=by
   rw[←hW2];exact(j0.aH 0 _).far (p:=⟨w.heap.size+1,0,none⟩) (by simp) _
  have i1:Blk W2 (w.heap.size+1) 3 #[.int .i64 (t.deep:Int)]:=by
   rw[←hW2];exact(j1.far (p:=⟨w.heap.size,0,none⟩) (by simp) _).aH 0 _
  have i2:Blk W2 (w.heap.size+1+1) 4 #[.bool false]:=hTy.blk j2 (by decide);have hB2:=hB1.trans hTy.below;obtain⟨A',c',kr,-⟩:=hR1;have kr2:=hTy.blk kr (by decide);clear s1 s2 hN kr hTy j0 j1 j2;cases r with
  |nil=>
   have e1:=hide (hS.out t hq);have he:=hide (OJ (w.heap.size+1+1+1) A' c' W2 kr2);clear hM hS hq kr2;go_wp2_with fail;refine he.out.mono ?_;rintro e w' ⟨rfl,rfl⟩;clear he hW2 d0 d1 d2 f0 f1 f2;have d0:=Blk.n0 i0;have d1:=Blk.n0 i1;have d2:=Blk.n0 i2;have f0:=i0.frozen 0;have f1:=i1.frozen 0;have f2:=i2.frozen 0;go_wp2_with fail;go_region;have q0:=(((i0.aH 0 (.int .i64 (t.leaves:Int))).far (p:=⟨w.heap.size+1,0,none⟩) (by simp) (.int .i64 (t.deep:Int))).far (p:=⟨w.heap.size+1+1,0,none⟩) (by show w.heap.size≠w.heap.size+1+1;omega) (.bool true)).drew;have q1:=(((i1.far (p:=⟨w.heap.size,0,none⟩) (by simp) (.int .i64 (t.leaves:Int))).aH 0 (.int .i64 (t.deep:Int))).far (p:=⟨w.heap.size+1+1,0,none⟩) (by simp) (.bool true)).drew;have q2:=(((i2.far (p:=⟨w.heap.size,0,none⟩) (by show w.heap.size+1+1≠w.heap.size;omega) (.int .i64 (t.leaves:Int))).far (p:=⟨w.heap.size+1,0,none⟩) (by simp) (.int .i64 (t.deep:Int))).aH 0 (.bool true)).drew;have hB3:=(((hB2.setCell (p:=⟨w.heap.size,0,none⟩) (by simp) (.int .i64 (t.leaves:Int))).setCell (p:=⟨w.heap.size+1,0,none⟩) (by simp) (.int .i64 (t.deep:Int))).setCell (p:=⟨w.heap.size+1+1,0,none⟩) (by show w.heap.size≤w.heap.size+1+1;omega) (.bool true)).drew;generalize(((W2.setCell ⟨w.heap.size,0,none⟩ (.int .i64 (t.leaves:Int))).setCell ⟨w.heap.size+1,0,none⟩ (.int .i64 (t.deep:Int))).setCell ⟨w.heap.size+1+1,0,none⟩ (.bool true)).drew=W5 at*;go_wp2;refine Bd q0 q1 q2 rfl rfl rfl fun w' hb'=> ?_;rw[←hP.out];exact⟨by rw[e1.out],hB3.trans (hb'.mono hB3.size)⟩
  |cons x r=>
   have e1:=hide (hM.out t x r hq);have he:=hide (OL (w.heap.size+1+1+1) A' r.length c' W2 kr2);clear hM hS hq kr2;go_wp2_with fail;refine he.out.mono ?_;rintro e w' ⟨rfl,rfl⟩;go_wp2;refine uJ i0 i1 i2 rfl rfl rfl fun w' hb'=> ?_;rw[←hP.out];exact⟨by rw[e1.out],hB2.trans hb'⟩
set_option maxHeartbeats 8000000
set_option maxRecDepth 100000 in
theorem OM(A:Option Addr)(c:Nat)(H:List Txn)(t key:Int)(bh bc:Nat)(w:World)(h:aC w (Old w) (.slice A H.length c) H)(hn:aA H)(hbh:w.cell? ⟨bh,0,none⟩=some (.slice A H.length c))(hbc:w.cell? ⟨bc,0,none⟩=some (.int .i64 key)):
 Calls Tryz.prog 153 #[.int .i64 t,.pointer (some ⟨bh,0,none⟩),.pointer (some ⟨bc,0,none⟩)] w fun e w'=>e= .returned (.bool (wrB H t key))∧Below w.heap.size w w':=by
 have hlen:=hn.1;have Hy:=hide (fun W (hW:Below w.heap.size w W)=>(hW.cell (p:=⟨bh,0,none⟩) (block_lt_of_cell hbh)).trans hbh);have hbc2:=hide (fun W (hW:Below w.heap.size w W)=>(hW.cell (p:=⟨bc,0,none⟩) (block_lt_of_cell hbc)).trans hbc);clear hbh hbc;by_cases h0:0≤t
 ·have h0b:decide (t≥0)=true:=(by simpa using h0);by_cases h1:t<(H.length:Int)
  ·obtain⟨m,rfl⟩:∃m:Nat,t=m:=⟨t.toNat,by omega⟩;have hm:m<H.length:=(by omega);have hr:=mZ (key:=key) hm;rw[aQ hm]at hr;obtain⟨b,off,Aw,cw,Ar,cr,rfl,hbK,d0,d1,d2,hws,_⟩:=aC.at_ h hm;have hd1:=hide (fun W (hW:Below w.heap.size w W)=>(hW.cell (p:=⟨b,off+m*3+1,none⟩) hbK).trans d1);have hwl:H[m].writes.length≤maxLen:=(by have:=(hn.2 _ (List.getElem_mem hm)).1;unfold maxLen;omega);have hcc:=hide (fun W (hW:Below w.heap.size w W)=>fO Aw cw H[m].writes key (Old W) W (aM.below hws hW) hwl);generalize H[m].writes=L at*;generalize hqe:L.contains key=q at*;rw[hr];have hm1:decide (m<H.length)=true:=(by simpa using hm);have hm2:(0:Int)≤(m:Int):=Int.natCast_nonneg _;replace hn:=hide hn;clear h h0 hws d0 d1 d2 hr hqe;go_enter Tryz.func153,Tryz.ntmps153;go_upto_region 1 with fail;refine bT (fun W=>Below w.heap.size w W) (by kernel_rfl) (by kernel_rfl) (Below.refl _ _).drew ?_;refine⟨.int .i64 (m:Int),fun W hW=>(by go_wp2),?_⟩;refine⟨.bool true,fun W hW=>(by go_wp2),?_⟩;refine⟨.bool true,fun W hW=>(by go_wp2),?_⟩;refine⟨.int .i64 (m:Int),fun W hW=>(by go_wp2),?_⟩;refine⟨.pointer (some ⟨bh,0,none⟩),fun W hW=>(by go_wp2),?_⟩;refine⟨.slice (some ⟨b,off,none⟩) H.length c,fun W hW=>(by have v0:=Hy.out W hW;go_wp2),?_⟩;refine⟨.int .i64 (H.length:Int),fun W hW=>(by go_wp2),?_⟩;refine⟨.bool true,fun W hW=>(by go_wp2),?_⟩;refine⟨.bool true,fun W hW=>(by go_wp2),?_⟩;refine⟨.bool true,fun W hW=>(by go_wp2),?_⟩;refine⟨.pointer (some ⟨bh,0,none⟩),fun W hW=>(by go_wp2),?_⟩;refine⟨.slice (some ⟨b,off,none⟩) H.length c,fun W hW=>(by have v0:=Hy.out W hW;go_wp2),?_⟩;refine⟨.int .i64 (m:Int),fun W hW=>(by go_wp2),?_⟩;refine⟨.pointer (some ⟨b,off+m*3,none⟩),fun W hW=>(by go_wp2),?_⟩;refine⟨.pointer (some ⟨b,off+m*3+1,none⟩),fun W hW=>(by go_wp2),?_⟩;refine⟨.slice Aw L.length cw,fun W hW=>(by have v0:=hd1.out W hW;go_wp2),?_⟩;refine⟨.pointer (some ⟨bc,0,none⟩),fun W hW=>(by go_wp2),?_⟩;refine⟨.int .i64 key,fun W hW=>(by have v0:=hbc2.out W hW;go_wp2),?_⟩;refine⟨.bool q,fun W hW=>(by
    go_wp2_with fail;refine(hcc.out W hW).mono ?_;rintro e w' ⟨rfl,rfl⟩;go_wp2),?_⟩
   refine⟨.bool q,fun W hW=>(by go_wp2),?_⟩;refine⟨.bool q,fun W hW=>(by go_wp2),?_⟩;intro W5 hW5;simp only[Act.put,sA,sZ,sS];go_wp2;go_ret;exact⟨rfl,hW5⟩
  ·have hr:wrB H t key=false:=(by unfold wrB;simp;intro _ e;exact absurd e h1);have h1b:decide (t<(H.length:Int))=false:=(by simpa using h1);rw[hr];replace hn:=hide hn;clear h h0 h1 hr;go_enter Tryz.func153,Tryz.ntmps153;go_upto_region 1 with fail;refine bT (fun W=>Below w.heap.size w W) (by kernel_rfl) (by kernel_rfl) (Below.refl _ _).drew ?_;refine⟨.int .i64 t,fun W hW=>(by go_wp2),?_⟩;refine⟨.bool true,fun W hW=>(by go_wp2),?_⟩;refine⟨.bool true,fun W hW=>(by go_wp2),?_⟩;refine⟨.int .i64 t,fun W hW=>(by go_wp2),?_⟩;refine⟨.pointer (some ⟨bh,0,none⟩),fun W hW=>(by go_wp2),?_⟩;refine⟨.slice A H.length c,fun W hW=>(by have v0:=Hy.out W hW;go_wp2),?_⟩;refine⟨.int .i64 (H.length:Int),fun W hW=>(by go_wp2),?_⟩;refine⟨.bool false,fun W hW=>(by go_wp2),?_⟩;refine⟨.bool false,fun W hW=>(by go_wp2),?_⟩;refine⟨.bool false,fun W hW=>(by go_wp2),?_⟩;refine⟨undef,fun W hW=>(by go_wp2),?_⟩;refine⟨undef,fun W hW=>(by go_wp2),?_⟩;refine⟨undef,fun W hW=>(by go_wp2),?_⟩;refine⟨undef,fun W hW=>(by go_wp2),?_⟩;refine⟨undef,fun W hW=>(by go_wp2),?_⟩;refine⟨undef,fun W hW=>(by go_wp2),?_⟩;refine⟨undef,fun W hW=>(by go_wp2),?_⟩;refine⟨undef,fun W hW=>(by go_wp2),?_⟩;refine⟨undef,fun W hW=>(by go_wp2),?_⟩;refine⟨.bool false,fun W hW=>(by go_wp2),?_⟩;refine⟨.bool false,fun W hW=>(by go_wp2),?_⟩;intro W5 hW5;simp only[Act.put,sA,sZ,sS];go_wp2;go_ret;exact⟨rfl,hW5⟩
 ·have hr:wrB H t key=false:=(by unfold wrB;simp;intro e;exact absurd e h0);have h0b:decide (t≥0)=false:=(by simpa using h0);rw[hr];replace hn:=hide hn;clear h h0 hr;go_enter Tryz.func153,Tryz.ntmps153;go_upto_region 1 with fail;refine bT (fun W=>Below w.heap.size w W) (by kernel_rfl) (by kernel_rfl) (Below.refl _ _).drew ?_;refine⟨.int .i64 t,fun W hW=>(by go_wp2),?_⟩;refine⟨.bool false,fun W hW=>(by go_wp2),?_⟩;refine⟨.bool false,fun W hW=>(by go_wp2),?_⟩;refine⟨undef,fun W hW=>(by go_wp2),?_⟩;refine⟨undef,fun W hW=>(by go_wp2),?_⟩;refine⟨undef,fun W hW=>(by go_wp2),?_⟩;refine⟨undef,fun W hW=>(by go_wp2),?_⟩;refine⟨undef,fun W hW=>(by go_wp2),?_⟩;refine⟨.bool false,fun W hW=>(by go_wp2),?_⟩;refine⟨.bool false,fun W hW=>(by go_wp2),?_⟩;refine⟨undef,fun W hW=>(by go_wp2),?_⟩;refine⟨undef,fun W hW=>(by go_wp2),?_⟩;refine⟨undef,fun W hW=>(by go_wp2),?_⟩;refine⟨undef,fun W hW=>(by go_wp2),?_⟩;refine⟨undef,fun W hW=>(by go_wp2),?_⟩;refine⟨undef,fun W hW=>(by go_wp2),?_⟩;refine⟨undef,fun W hW=>(by go_wp2),?_⟩;refine⟨undef,fun W hW=>(by go_wp2),?_⟩;refine⟨undef,fun W hW=>(by go_wp2),?_⟩;refine⟨.bool false,fun W hW=>(by go_wp2),?_⟩;refine⟨.bool false,fun W hW=>(by go_wp2),?_⟩;intro W5 hW5;simp only[Act.put,sA,sZ,sS];go_wp2;go_ret;exact⟨rfl,hW5⟩
set_option maxRecDepth 100000 in
theorem DL(A:Option Addr)(c:Nat)(H:List Txn)(key a b:Int)(w:World)(h:aC w (Old w) (.slice A H.length c) H)(hn:aA H):
 Calls Tryz.prog 125 #[.agg #[.slice A H.length c],.agg #[.int .i64 key,.int .i64 a,.int .i64 b]] w fun e w'=>e= .returned (.bool (dh H ⟨key,a,b⟩))∧Below w.heap.size w w':=by
 obtain⟨W0,hW0⟩:∃W0,(w.alloc (.cells #[.slice A H.length c] 24)).alloc (.cells #[.int .i64 key,.int .i64 a,.int .i64 b] 62)=W0:=⟨_,rfl⟩;have hB:=aF hW0;have k0:=Blk.fG hW0;have k1:=Blk.eP hW0;have hT:=hide (h.below hB);have hcl:=hide (fun(t:Int) W (hW:Below W0.heap.size W0 W)=>OM A c H t key w.heap.size (w.heap.size+1) W (hT.out.below hW) hn (by have:=(k0.below hW k0.lt).cell 0;simpa using this) (by have:=(k1.below hW k1.lt).cell 0;simpa using this));have c0:=Blk.n0 k1;have c1:=Blk.n1 k1;have c2:=Blk.n2 k1;have hone:Hid (dh H ⟨key,a,b⟩=(decide (a≠b)&&wrB H a key&&wrB H b key)):=hide rfl;obtain⟨r,hr⟩:∃r,dh H ⟨key,a,b⟩=r:=⟨_,rfl⟩;rw[hr]at hone;rw[hr];clear h hr;by_cases hab:a=b
 ·have g1:(a !=b)=false:=(by simp[hab]);have hre:r=false:=(by rw[hone.out];simp[hab]);subst hre;clear hab hone hcl;go_enter Tryz.func125,Tryz.ntmps125;go_wp2;go_ret;exact⟨rfl,hB⟩
 ·have g1:(a !=b)=true:=(by simpa using hab);have uo:=hide (show r=(wrB H a key&&wrB H b key) by rw[hone.out];simp[hab]);have h1:=hide (hcl.out a W0 (Below.refl _ _));have h2:=hide (fun W hW=>hcl.out b W hW);generalize wrB H a key=q1 at*;generalize wrB H b key=q2 at*;clear hab hone hcl;go_enter Tryz.func125,Tryz.ntmps125;go_wp2_with fail;refine h1.out.mono ?_;rintro e w1 ⟨rfl,hb1⟩;have d2:=(hb1.cell (p:=⟨w.heap.size+1,2,none⟩) k1.lt).trans c2;have hb2:=hB.trans (hb1.mono hB.size);have h3:=hide (h2.out w1 hb1);clear hW0 h1 h2 c0 c1 c2;cases q1 with
  |false=>
   have hre:r=false:=(by rw[uo.out];rfl);subst hre;clear h3 uo;go_wp2;go_ret;exact⟨rfl,hb2⟩
  |true=>
   have hre:r=q2:=(by rw[uo.out];rfl);subst hre;clear uo;go_wp2_with fail;refine h3.out.mono ?_;rintro e w2 ⟨rfl,hb3⟩;go_wp2;go_ret;exact⟨rfl,hb2.trans (hb3.mono hb2.size)⟩
theorem Ir(k a b:Int)(w:World):Calls Tryz.prog 124 #[.agg #[.int .i64 k,.int .i64 a,.int .i64 b]] w fun e w'=>e= .returned (.agg #[.int .i64 k,.int .i64 b,.int .i64 a])∧Below w.heap.size w w':=by
 obtain⟨W0,hW0⟩:∃W0,(w.alloc (.cells #[.int .i64 k,.int .i64 a,.int .i64 b] 62)).alloc (.cells #[.int .i64 0,.int .i64 0,.int .i64 0] 62)=W0:=⟨_,rfl⟩;have hb:=aF hW0;have k1:=Blk.fG hW0;have k2:=Blk.eP hW0;have a0:=Blk.n0 k1;have a1:=Blk.n1 k1;have a2:=Blk.n2 k1;have b0:=Blk.n0 k2;have b1:=Blk.n1 k2;have b2:=Blk.n2 k2;have f0:=k2.frozen 0;have f1:=k2.frozen 1;have f2:=k2.frozen 2;have hz:=hide (((hb.setCell (p:=⟨w.heap.size+1,0,none⟩) (by simp) (.int .i64 k)).setCell (p:=⟨w.heap.size+1,1,none⟩) (by simp) (.int .i64 b)).setCell (p:=⟨w.heap.size+1,2,none⟩) (by simp) (.int .i64 a));have hq:=((k2.aH 0 (.int .i64 k)).aH 1 (.int .i64 b)).aH 2 (.int .i64 a);simp only[sA,sZ,sS]at hq;have y0:=Blk.n0 hq;have y1:=Blk.n1 hq;have y2:=Blk.n2 hq;clear hq;go_enter Tryz.func124,Tryz.ntmps124;go_wp2_with fail;exact bodyPost_ret (v:= .agg #[.int .i64 k,.int .i64 b,.int .i64 a]) (by simp[results,Tryz.results124,go_sem,y0,y1,y2]) rfl ⟨rfl,hz.out⟩
theorem uK(k a b:Int)(w:World):Calls Tryz.prog 41 #[.agg #[.int .i64 k,.int .i64 a,.int .i64 b]] w fun e w'=>e= .returned (.agg #[.int .i64 k,.int .i64 b,.int .i64 a])∧Below w.heap.size w w':=by
 obtain⟨W0,hW0⟩:∃W0,(w.alloc (.cells #[.int .i64 k,.int .i64 a,.int .i64 b] 62)).alloc (.cells #[.int .i64 0,.int .i64 0,.int .i64 0] 62)=W0:=⟨_,rfl⟩;have hb:=aF hW0;have k1:=Blk.fG hW0;have k2:=Blk.eP hW0;have a0:=Blk.n0 k1;have a1:=Blk.n1 k1;have a2:=Blk.n2 k1;have b0:=Blk.n0 k2;have b1:=Blk.n1 k2;have b2:=Blk.n2 k2;have f0:=k2.frozen 0;have f1:=k2.frozen 1;have f2:=k2.frozen 2;have hz:=hide (((hb.setCell (p:=⟨w.heap.size+1,0,none⟩) (by simp) (.int .i64 k)).setCell (p:=⟨w.heap.size+1,1,none⟩) (by simp) (.int .i64 b)).setCell (p:=⟨w.heap.size+1,2,none⟩) (by simp) (.int .i64 a));have hq:=((k2.aH 0 (.int .i64 k)).aH 1 (.int .i64 b)).aH 2 (.int .i64 a);simp only[sA,sZ,sS]at hq;have y0:=Blk.n0 hq;have y1:=Blk.n1 hq;have y2:=Blk.n2 hq;clear hq;go_enter Tryz.func41,Tryz.ntmps41;go_wp2_with fail;exact bodyPost_ret (v:= .agg #[.int .i64 k,.int .i64 b,.int .i64 a]) (by simp[results,Tryz.results41,go_sem,y0,y1,y2]) rfl ⟨rfl,hz.out⟩
set_option maxHeartbeats 2000000
theorem sK(A:Option Addr)(n c:Nat)(w:World)(h:n≤c):Calls Tryz.prog 39 #[.slice A n c] w fun e w'=>e= .returned (.slice A n n)∧w=w':=by
 have h1:(n:Int)≤(c:Int):=(by omega);have h0:(0:Int)≤(n:Int):=Int.natCast_nonneg _;go_enter Tryz.func39,Tryz.ntmps39;go_wp2;go_ret;exact⟨rfl,rfl⟩
theorem LA{α:Type}{size:Nat}{enc:α→List Value}{w:World}{K:Nat→Prop}{ad:Addr}{n c:Nat}{l:List α}(h:SlR size (Flat enc) w K (.slice (some ad) n c) l)(hs:∀x,(enc x).length=size):∀(j:Nat) (u:Value),(l.map enc).flatten[j]?=some u→w.cell? (ad.add j)=some u:=by
 intro j u hj;obtain⟨i,k,cs,rfl,h1,h2⟩:=rM (size:=size) (l.map enc) j u (fun i cs e=>by
  rw[List.getElem?_map]at e;obtain⟨x,-,rfl⟩:=Option.map_eq_some_iff.1 e;exact hs x) hj
 rw[List.getElem?_map]at h1;obtain⟨x,hx,rfl⟩:=Option.map_eq_some_iff.1 h1;obtain⟨hi,rfl⟩:=List.getElem?_eq_some_iff.1 hx;obtain⟨b,off,cs',e,-,-,hR,hc⟩:=h.at_ hi;injection e with e
 subst e;unfold Flat at hR;subst hR;have:=hc k u h2;rw[show(⟨b,off,none⟩:Addr).add (i*size+k)=⟨b,off+i*size+k,none⟩ by unfold Addr.add;split<;>simp_all<;>omega];exact this
theorem fP {P:Program} {w:World} {ops:Array Oper} {rest:List Oper} {o:Oper} {a:Act} {Q:Exit→Act→World→Prop} {α:Type} {enc:α→List Value}
 (hgd:o.guard=none) (s x:Operand) (t:TypeId) (ho:o.op= .call {callee:= .builtin .append,args:=#[s,x],argTypes:=#[t,t]})
 (e:TypeId) (i:TypeInfo) (z:Value) (size bytes:Nat) (ht:P.underlying t=some (.slice e)) (hi:P.info? e=some i) (hz:i.zero=some z)
 (hsize:i.size=size) (hby:i.bytes=bytes) (hzs:z.cells.size=size) (hsz:0<size)
 (ao:Option Addr) (K:Nat→Prop) (l:List α) (hs:a.eval s= .slice ao l.length l.length) (hl:SlR size (Flat enc) w K (.slice ao l.length l.length) l) (hen:∀x,(enc x).length=size)
 (g:Nat) (cs:Array Value) (x0:α) (kg:Blk w g e cs) (hcs:cs.toList=enc x0) (hx:a.eval x= .slice (some ⟨g,0,none⟩) 1 1)
 (h1:∀x,∀u∈enc x,u.oneCell'=true) (h63:l.length+1≤maxLen) (hbytes:(l.length+1)*bytes≤140737488355328)
 (h:∀v' w',w'.ownsRow w.heap.size e size v' (l++[x0]).length ((l++[x0]).map enc).flatten→Below w.heap.size w w'→wpList P ops Q rest (a.put o.dst v') w'):
 wpList P ops Q (o::rest) a w:=by
 refine wpList_append_grows w hgd s x t ho e i z size bytes ht hi hz hsize hby hzs hsz ao l.length l.length (l.map enc).flatten hs (fun e=> ?_) ?_ (fun b e=> ?_) ⟨g,0,none⟩ 1 1 (enc x0) hx (by rw[hen];omega) (fun j u hj=> ?_) (h1 x0) (by omega) h63 hbytes ?_
 ·rcases Nat.eq_zero_or_pos l.length with h0|h0
  ·exact⟨h0,h0⟩
  ·obtain⟨b,off,cs',e',-⟩:=hl.at_ h0;rw[e]at e';cases e'
 ·clear h hs hl h63 hbytes
  induction l with
  |nil=>simp
  |cons y l ih=>rw[List.map_cons,List.flatten_cons,List.length_append,hen,ih,List.length_cons,Nat.add_mul];omega
 ·subst e;exact LA hl hen
 ·have:=kg.cell j;rw[show(⟨g,0,none⟩:Addr).add j=⟨g,j,none⟩ by unfold Addr.add;split<;>simp_all,this];rw[←hcs]at hj;simpa using hj
 ·intro v' w' g1 g2;refine h v' w' ?_ ((Below.refl _ _).grown g2 (Nat.le_refl _) (by simp));rw[List.map_append,List.flatten_append,List.length_append];simpa using g1
end Go.Proofs.YtpjechjoijjhpaaGreatDoor
namespace Go.Inq
open Go Go.RowKit
def Cho.jI(x:Cho):Value:= .agg #[.int .i64 x.key,.int .i64 x.a,.int .i64 x.b]
structure vZ(P:Program)(k:TypeId):Prop where
 kind:∃fs,P.underlying k=some (.struct fs)
 check:∀(e:Bool) (x:Cho) (w:World),(Instr.checkKey e 10000 k x.jI).run P w= .ok () w
 eq:∀(x y:Cho) (w:World),(Op.equal k x.jI y.jI).run P w= .ok (decide (x=y)) w
section
variable{P:Program}{k:TypeId}{α:Type}{enc:α→Value}{w:World}{g:Nat}
def dn(x:Cho):List (Cho×α)→Option (Nat×α)
 |[]=>none
 |(y,v)::r=>if x=y then some (0,v)else(dn x r).map fun p=>(p.1+1,p.2)
def nY(enc:α→Value):List MapEntry→List (Cho×α)→Prop
 |[],[]=>True
 |e::es,(y,v)::r=>e.key=y.jI∧e.val=enc v∧nY enc es r
 |_,_=>False
theorem uL(K:vZ P k)(x:Cho)(w:World):∀(es:List MapEntry) (l:List (Cho×α)) (i:Nat),nY enc es l→
 (Instr.findAsking k x.jI es i).run P w= .ok ((dn x l).map fun p=>(i+p.1,enc p.2)) w
 |[],[],i,_=>by simp[Instr.findAsking,dn]
 |e::es,(y,v)::r,i,h=>by
  obtain⟨h1,h2,h3⟩:=h;unfold Instr.findAsking;simp only[Sem.run_bind,h1,K.eq,Result.andThen_ok,dn];by_cases hx:x=y
  ·simp[hx,h2]
  ·simp only[hx,decide_false,Bool.false_eq_true,if_false];rw[uL K x w es r (i+1) h3];congr 1;cases dn x r with
   |none=>rfl
   |some p=>simp;omega
theorem wh(K:vZ P k)(x:Cho)(w:World)(es:List MapEntry)(l:List (Cho×α))(h:nY enc es l):(Instr.findKey k x.jI es).run P w= .ok ((dn x l).map fun p=>(p.1,enc p.2)) w:=by
 obtain⟨fs,hk⟩:=K.kind;unfold Instr.findKey;simp only[Sem.run_bind,run_underlying hk,Result.andThen_ok];cases es with
 |nil=>
  cases l with
  |nil=>simp[Instr.findNow,dn]
  |cons a r=>exact h.elim
 |cons e es=>
  have:Instr.findNow (.struct fs) x.jI (e::es) 0=none:=(by simp[Instr.findNow,Instr.sameNow]);rw[this];have:=uL K x w (e::es) l 0 h;simpa using this
def Bj(x:Cho)(v:α):List (Cho×α)→List (Cho×α)
 |[]=>[(x,v)]
 |(y,u)::r=>if x=y then(x,v)::r else(y,u)::Bj x v r
theorem sM(x:Cho)(v:α)(y:Cho):∀l:List (Cho×α),(dn y (Bj x v l)).map (·.2)=if y=x then some v else(dn y l).map (·.2)
 |[]=>by
  by_cases h:y=x<;>simp[Bj,dn,h]
 |(z,u)::r=>by
  have ih:=sM x v y r;unfold Bj;by_cases hz:x=z
  ·subst hz;rw[if_pos rfl];by_cases hy:y=x
   ·simp[dn,hy]
   ·simp[dn,hy]
  ·rw[if_neg hz];by_cases hy:y=z
   ·subst hy;simp[dn,Ne.symm hz]
   ·simp only[dn,if_neg hy,Option.map_map];have e:((fun p:Nat×α=>p.2)∘fun p:Nat×α=>(p.1+1,p.2))=fun p=>p.2:=rfl;rw[e];exact ih
theorem xA{x:Cho}:∀{l:List (Cho×α)} {i:Nat} {u:α} {es:List MapEntry},dn x l=some (i,u)→nY enc es l→(es[i]?).map (·.key)=some x.jI
 |[],_,_,_,h,_=>by simp[dn]at h
 |(y,w)::r,i,u,[],_,h=>h.elim
 |(y,w)::r,i,u,e::es,h,hr=>by
  obtain⟨h1,h2,h3⟩:=hr;unfold dn at h;by_cases hx:x=y
  ·rw[if_pos hx]at h;injection h with h
   injection h with h4 h5
   subst h4 hx;simp[h1]
  ·rw[if_neg hx]at h;cases ha:dn x r with
   |none=>rw[ha]at h;simp at h
   |some p=>
    rw[ha]at h;simp at h;obtain⟨rfl,rfl⟩:=h;have:=xA (i:=p.1) (u:=p.2) ha h3;simpa using this
theorem rD{x:Cho}{v:α}:∀{l:List (Cho×α)} {i:Nat} {u:α} {es:List MapEntry},dn x l=some (i,u)→nY enc es l→
 nY enc (es.modify i fun e=>{e with key:=x.jI,val:=enc v}) (Bj x v l)
 |[],_,_,_,h,_=>by simp[dn]at h
 |(y,w)::r,i,u,[],_,h=>h.elim
 |(y,w)::r,i,u,e::es,h,hr=>by
  obtain⟨h1,h2,h3⟩:=hr;unfold dn at h;unfold Bj;by_cases hx:x=y
  ·rw[if_pos hx]at h⊢;injection h with h
   injection h with h4 h5
   subst h4;rw[List.modify_zero_cons];exact⟨rfl,rfl,h3⟩
  ·rw[if_neg hx]at h⊢;cases ha:dn x r with
   |none=>rw[ha]at h;simp at h
   |some p=>
    rw[ha]at h;simp at h;obtain⟨rfl,rfl⟩:=h;rw[List.modify_succ_cons];exact⟨h1,h2,rD (i:=p.1) (u:=p.2) ha h3⟩
theorem xB{x:Cho}{v:α}{c:Nat}:∀{l:List (Cho×α)} {es:List MapEntry},dn x l=none→nY enc es l→nY enc (es++[⟨x.jI,enc v,c⟩]) (Bj x v l)
 |[],[],_,_=>⟨rfl,rfl,trivial⟩
 |[],e::es,_,h=>h.elim
 |(y,w)::r,[],_,h=>h.elim
 |(y,w)::r,e::es,h,hr=>by
  obtain⟨h1,h2,h3⟩:=hr;unfold dn at h;unfold Bj;by_cases hx:x=y
  ·rw[if_pos hx]at h;cases h
  ·rw[if_neg hx]at h⊢;exact⟨h1,h2,xB (by simpa using h) h3⟩
def sN(enc:α→Value)(z:Value):Option α→Value
 |some v=>enc v
 |none=>z
def jJ(enc:α→Value)(w:World)(g:Nat)(B:Cho→Option α):Prop:=
 ∃es clock l,w.heap[g]?=some (.map es clock)∧nY enc es.toList l∧∀x,(dn x l).map (·.2)=B x
theorem jJ.lt{B:Cho→Option α}(h:jJ enc w g B):g<w.heap.size:=by
 obtain⟨es,c,l,h1,_⟩:=h;exact(Array.getElem?_eq_some_iff.1 h1).1
theorem jJ.new(w:World):jJ enc (w.alloc (.map #[] 0)) w.heap.size (fun _=>none):=⟨#[],0,[],(MapKept.heap_alloc w _).1,trivial,fun _=>rfl⟩
theorem jJ.agree{w':World}{B:Cho→Option α}(h:jJ enc w g B)(ha:w'.heap[g]?=w.heap[g]?):jJ enc w' g B:=by
 obtain⟨es,c,l,h1,h2,h3⟩:=h;exact⟨es,c,l,ha.trans h1,h2,h3⟩
theorem jJ.below{w':World}{n:Nat}{B:Cho→Option α}(h:jJ enc w g B)(hb:Below n w w')(hg:g<n):jJ enc w' g B:=h.agree (hb.block g hg)
theorem jJ.same{B B':Cho→Option α}(h:jJ enc w g B)(hB:∀x,B x=B' x):jJ enc w g B':=by
 obtain⟨es,c,l,h1,h2,h3⟩:=h;exact⟨es,c,l,h1,h2,fun x=>(h3 x).trans (hB x)⟩
theorem jJ.lookup(K:vZ P k){t e:TypeId}{z:Value}(ht:P.underlying t=some (.map k e))(hz:∀w,(zeroValue e).run P w= .ok z w){B:Cho→Option α}(h:jJ enc w g B)(x:Cho):
 (Instr.lookup t (.map (some g)) x.jI true).run P w= .ok (.tuple #[sN enc z (B x),.bool (B x).isSome]) w:=by
 obtain⟨es,c,l,h1,h2,h3⟩:=h;have hf:=wh K x w es.toList l h2;have hB:=h3 x;unfold Instr.lookup;simp only[Sem.run_bind,run_underlying ht,Result.andThen_ok,MapKept.run_getObj_map h1,Sem.run_pure,K.check,hf];cases ha:dn x l with
 |none=>
  rw[ha]at hB;rw[←hB];simp[hz,sN]
 |some p=>
  rw[ha]at hB;rw[←hB];simp[sN]
theorem jJ.Qw(K:vZ P k){t e:TypeId}{z:Value}(ht:P.underlying t=some (.map k e))(hz:∀w,(zeroValue e).run P w= .ok z w){B:Cho→Option α}(h:jJ enc w g B)(x:Cho):
 (Instr.lookup t (.map (some g)) x.jI false).run P w= .ok (sN enc z (B x)) w:=by
 obtain⟨es,c,l,h1,h2,h3⟩:=h;have hf:=wh K x w es.toList l h2;have hB:=h3 x;unfold Instr.lookup;simp only[Sem.run_bind,run_underlying ht,Result.andThen_ok,MapKept.run_getObj_map h1,Sem.run_pure,K.check,hf];cases ha:dn x l with
 |none=>
  rw[ha]at hB;rw[←hB];simp[hz,sN]
 |some p=>
  rw[ha]at hB;rw[←hB];simp[sN]
theorem jJ.update(K:vZ P k){t e:TypeId}(ht:P.underlying t=some (.map k e)){B:Cho→Option α}(h:jJ enc w g B)(x:Cho)(v:α):
 ∃es c,(Instr.mapUpdate t (.map (some g)) x.jI (enc v)).run P w= .ok () (ChangeMaps.setBlock w g (.map es c))∧jJ enc (ChangeMaps.setBlock w g (.map es c)) g (fun y=>if y=x then some v else B y):=by
 have hg:=h.lt;obtain⟨es,c,l,h1,h2,h3⟩:=h;have hf:=wh K x w es.toList l h2;have hs:Instr.sameBits 10000 x.jI x.jI=true:=(by simp[Cho.jI,Instr.sameBits]);cases ha:dn x l with
 |none=>
  refine⟨es.push ⟨x.jI,enc v,c⟩,c+1,?_,⟨es.push ⟨x.jI,enc v,c⟩,c+1,Bj x v l,?_,?_,fun y=> ?_⟩⟩
  ·unfold Instr.mapUpdate;simp only[Sem.run_bind,run_underlying ht,Result.andThen_ok,MapKept.run_getObj_map h1,K.check,hf,ha,Option.map_none];exact MapKept.run_setObj_map _ h1
  ·unfold ChangeMaps.setBlock;simp[hg]
  ·rw[Array.toList_push];exact xB ha h2
  ·rw[sM,h3]
 |some p=>
  obtain⟨i,u⟩:=p;have hk:=xA ha h2;refine⟨es.modify i fun e=>{e with key:=x.jI,val:=enc v},c,?_,⟨es.modify i fun e=>{e with key:=x.jI,val:=enc v},c,Bj x v l,?_,?_,fun y=> ?_⟩⟩
  ·unfold Instr.mapUpdate;simp only[Sem.run_bind,run_underlying ht,Result.andThen_ok,MapKept.run_getObj_map h1,K.check,hf,ha,Option.map_some];have hk2:((es[i]?).map (·.key)).getD x.jI=x.jI:=by
    rw[←Array.getElem?_toList,hk];rfl
   rw[hk2];unfold Instr.keyThatStays;rw[hs];simp only[if_true,Sem.run_pure,Result.andThen_ok];exact MapKept.run_setObj_map _ h1
  ·unfold ChangeMaps.setBlock;simp[hg]
  ·rw[Array.toList_modify];exact rD ha h2
  ·rw[sM,h3]
end
end Go.Inq
namespace Go.Proofs.YtpjechjoijjhpaaGreatDoor
open Go.RowKit Go.Inq
set_option maxHeartbeats 1000000
theorem Qx(x y:Cho)(w:World):(Op.equal 62 x.jI y.jI).run Tryz.prog w= .ok (decide (x=y)) w:=by
 unfold Op.equal Op.maxDepth Cho.jI;rw[run_equalIn_agg w 9999 62 _ _ (by kernel_rfl) (by kernel_rfl)];have h1:decide (x=y)=(x.key==y.key&&(x.a==y.a&&x.b==y.b)):=by
  rw[Bool.eq_iff_iff];simp only[decide_eq_true_eq,Bool.and_eq_true,beq_iff_eq];cases x;cases y;simp
 rw[h1];cases g0:(x.key==y.key)<;>cases g1:(x.a==y.a)<;>cases g2:(x.b==y.b)<;>simp[Program.fieldsOf,Tryz.underlying62,Op.eqFields,go_sem,g0,g1,g2]
theorem Iu(e:Bool)(x:Cho)(w:World):(Instr.checkKey e 10000 62 x.jI).run Tryz.prog w= .ok () w:=by
 kernel_rfl
theorem Iw:vZ Tryz.prog 62:=⟨⟨_,Tryz.underlying62⟩,Iu,Qx⟩
def wm(b:Bool):Value:= .bool b
end Go.Proofs.YtpjechjoijjhpaaGreatDoor
namespace Go.Proofs.YtpjechjoijjhpaaGreatDoor
open Go.RowKit Go.Inq
set_option maxHeartbeats 8000000
attribute [local go_sem↓] Go.wp_at_zero Go.wp_at_succ
def KC(g:Nat)(w:World):Nat→Prop:=fun b=>b<g∨∃cs,Blk w b 62 cs
theorem KC.agree{g n0:Nat}{σ:List TypeId}{w w':World}(hT:TyW n0 σ w w')(hg:g≤n0)(hs:62∉σ):Agree (KC g w) w w':=fun b hb=>by
 rcases hb with hb|⟨cs,hb⟩
 ·exact hT.below.block b (by omega)
 ·exact(show w'.heap[b]?=_ from hT.blk hb hs).trans hb.symm
theorem KC.step{g n0:Nat}{σ:List TypeId}{w w':World}(hT:TyW n0 σ w w')(hs:62∉σ){b:Nat}(h:KC g w b):KC g w' b:=by
 rcases h with h|⟨cs,h⟩
 ·exact .inl h
 ·exact .inr ⟨cs,hT.blk h hs⟩
theorem KC.ty{g n0:Nat}{σ:List TypeId}{w w':World}{v:Value}{M:List Cho}(h:aV w (KC g w) v M)(hT:TyW n0 σ w w')(hg:g≤n0)(hs:62∉σ):aV w' (KC g w') v M:=
 aV.keep h (KC.agree hT hg hs) fun _ h=>KC.step hT hs h
theorem KC.own{g:Nat}{w:World}{v:Value}{M:List Cho}(h:w.ownsRow g 62 3 v M.length (M.map dX).flatten):aV w (KC g w) v M:=by
 have h2:aJ 3 (Flat dX) w (KC g w) g 62 v M:=aJ.flat h (fun _=>rfl);refine h2.sl fun b hb=> ?_;obtain⟨cs,h3⟩:=h2.blk hb;exact .inr ⟨cs,h3⟩
def RdV(w0:World)(g:Nat)(l:List Nod)(W:World):Prop:=∃A c,Blk W g 145 #[.slice A l.length c]∧aY w0 (fun b=>b<g) (.slice A l.length c) l
theorem RdV.rd{w0 W:World}{g:Nat}{l:List Nod}(h:RdV w0 g l W)(ha:Agree (fun b=>b<g) w0 W):RdW W g l:=by
 obtain⟨A,c,h1,h2⟩:=h;exact⟨A,c,h1,h2.keep ha fun _ h=>h⟩
theorem RdW.rv{w0 W:World}{g:Nat}{l:List Nod}(h:RdW W g l)(ha:Agree (fun b=>b<g) w0 W):RdV w0 g l W:=by
 obtain⟨A,c,h1,h2⟩:=h;exact⟨A,c,h1,h2.keep (fun b hb=>(ha b hb).symm) fun _ h=>h⟩
def wRd(w0:World)(g:Nat)(l:List Nod):Wrd:=⟨[145],fun _ W=>RdV w0 g l W,fun _ _ _ _ _ h hT k=>by
 obtain⟨A,c,h1,h2⟩:=k;exact⟨A,c,hT.blk h1 (h _ (by simp)),h2⟩⟩
theorem aV.clip{w:World}{K:Nat→Prop}{A:Option Addr}{c:Nat}{M:List Cho}(h:aV w K (.slice A M.length c) M):aV w K (.slice A M.length M.length) M:=by
 obtain⟨A',c',xs,e,h1,h2,h3,h4⟩:=h;injection e with e1 e2 e3
 subst e1;exact⟨A,M.length,xs,rfl,Nat.le_refl _,h2,h3,h4⟩
theorem aV.Uo{w:World}{K:Nat→Prop}{A:Option Addr}{c:Nat}{M:List Cho}(h:aV w K (.slice A M.length c) M):M.length≤c:=by
 obtain⟨_,_,e,h1⟩:=SlR.len h;simp only[Value.slice.injEq]at e;omega
def jW(g:Nat)(q:Bool)(rest:List Nod)(w:World)(e:Ending)(w':World):Prop:=e= .returned (.bool q)∧RdW w' g rest∧TyW g [145] w w'
set_option maxRecDepth 100000 in
theorem FC (g:Nat) (A:Option Addr) (c:Nat) (H:List Txn) (level:Int) (n:Nod) (rest:List Nod) (M:List Cho) (Am:Option Addr) (cm:Nat) (w:World) (h:aC w (fun b=>b<g) (.slice A H.length c) H) (hn:aA H)
 (hM:aV w (KC g w) (.slice Am M.length cm) M) (hR:RdW w g (n::rest)) (hc:n.cyc≠[]) (hcl:n.cyc.length≤1000000) (hrl:rest.length+1≤maxLen) (hml:M.length≤1000000000):
 Calls Tryz.prog 82 #[.pointer (some ⟨g,0,none⟩),.agg #[.slice A H.length c],.int .i64 level,.slice Am M.length cm] w (jW g (decide (n.c=dA)&&iE H level M n.cyc) rest w):=by
 have hgl:=hR.lt;obtain⟨W1,hW1⟩:∃W1,w.alloc (.cells #[.slice A H.length c] 24)=W1:=⟨_,rfl⟩;have hb1:=ah (Below.refl w.heap.size w) hW1 (Nat.le_refl _);have k1:=Blk.newEq hW1;have hT1:TyW g [145] w W1:=TyW.calm hb1 (Nat.le_of_lt hgl);have hx:=hide (vX g n rest W1 (hR.below hb1) hrl);obtain⟨P,hP⟩:∃P,jW g (decide (n.c=dA)&&iE H level M n.cyc) rest w=P:=⟨_,rfl⟩;rw[hP];replace hP:=hide hP;go_enter Tryz.func82,Tryz.ntmps82;go_wp2_with fail;refine hx.out.mono ?_;rintro e w2 ⟨Ay,cy,rfl,hI,hR2,hT2⟩;clear hx hW1;have hT:=hT1.trans hT2;have k2:=hT2.blk k1 (by decide);obtain⟨⟨nk,na,nb⟩,nc⟩:=n;dsimp only at hc hcl hI hP⊢;have hsz:=hT.size;obtain⟨W3,hW3⟩:∃W3,w2.alloc (.cells #[.int .i64 nk,.int .i64 na,.int .i64 nb,.slice Ay nc.length cy] 69)=W3:=⟨_,rfl⟩;have hb3:=ah (Below.refl w2.heap.size w2) hW3 (Nat.le_refl _);have n3:=Blk.newEq hW3;have k3:=k2.below hb3 k2.lt;have hT3:TyW g [145] w W3:=hT.trans (TyW.calm hb3 (by omega));have hR3:=hR2.below hb3;have hI3:=hI.keep (Agree.below hb3 fun b (hb:b<g)=>by omega) fun _ h=>h;have h3:=aC.keep (K':=fun b=>b<g) h (Agree.below hT3.below fun b hb=>hb) fun _ h=>h;have hM3:=KC.ty hM hT3 (Nat.le_refl _) (by decide);have c0:=Blk.n0 k3;have m0:=Blk.n0 n3;have m1:=Blk.n1 n3;have m2:=Blk.n2 n3;have m3:=Blk.n3 n3;have g1:decide ((nc.length:Int)>0)=true:=(by have:=List.length_pos_iff.2 hc;simp;omega);have g2:decide (0<nc.length)=true:=(by have:=List.length_pos_iff.2 hc;simp;omega);have hrg:=hide (zl A c H level Am cm M Ay cy nc W3 (h3.fit fun b hb=>by show b<_;have:=hT3.size;omega) hn (hM3.fit fun b hb=>by
  rcases hb with hb|⟨cs,hb⟩
  ·show b<_;have:=hT3.size;omega
  ·exact hb.lt) hml (hI3.fit fun b hb=>by show b<_;have:=hT3.size;omega) (by omega))
 have hO:∀q W',q=(decide ((⟨nk,na,nb⟩:Cho)=dA)&&iE H level M nc)→Below W3.heap.size W3 W'→Hid (jW g (decide ((⟨nk,na,nb⟩:Cho)=dA)&&iE H level M nc) rest w (.returned (.bool q)) W'):=fun q W' e hb=>
  hide ⟨by rw[e],hR3.below hb,hT3.trans (TyW.calm hb (by have:=hT3.size;omega))⟩
 clear hR hM hI h k1 k2 hR2 hT hT1 hT2 hb1 hb3 n3 k3 hI3 h3 hM3 hc hT3 hR3;replace hO:=hide hO;by_cases hz:(⟨nk,na,nb⟩:Cho)=⟨0,0,0⟩
 ·injection hz with z0 z1 z2
  subst z0 z1 z2;go_upto_region 3 with fail;try rw[hW3]
  clear hW3;go_wp2_with fail;refine hrg.out.mono ?_;rintro e w4 ⟨rfl,hb4⟩;go_wp2;rw[←hP.out];exact(hO.out _ _ rfl hb4).out
 ·have hz0:decide ((⟨nk,na,nb⟩:Cho)=dA)=false:=decide_eq_false hz;have hO2:=hide (hO.out false W3 (by rw[hz0];rfl) (Below.refl _ _));have hsp:nk≠0∨(nk=0∧na≠0)∨(nk=0∧na=0∧nb≠0):=by
   by_cases q0:nk=0
   ·by_cases q1:na=0
    ·by_cases q2:nb=0
     ·subst q0 q1 q2;exact absurd rfl hz
     ·exact .inr (.inr ⟨q0,q1,q2⟩)
    ·exact .inr (.inl ⟨q0,q1⟩)
   ·exact .inl q0
  replace hO2:=hide hO2;replace hz:=hide hz;clear hO hrg hz0;rcases hsp with q|⟨rfl,q⟩|⟨rfl,rfl,q⟩
  ·have qb:(nk==0)=false:=(by simpa using q);clear q;go_upto_region 3 with fail;try rw[hW3]
   clear hW3;go_wp2;rw[←hP.out];exact hO2.out.out
  ·have qb:(na==0)=false:=(by simpa using q);clear q;go_upto_region 3 with fail;try rw[hW3]
   clear hW3;go_wp2;rw[←hP.out];exact hO2.out.out
  ·have qb:(nb==0)=false:=(by simpa using q);clear q;go_upto_region 3 with fail;try rw[hW3]
   clear hW3;go_wp2;rw[←hP.out];exact hO2.out.out
set_option maxRecDepth 100000 in
theorem Iy(g:Nat)(A:Option Addr)(c:Nat)(H:List Txn)(level:Int)(hn:aA H):∀(t:Tr) (rest:List Nod) (M:List Cho) (Am:Option Addr) (cm:Nat) (w:World),aC w (fun b=>b<g) (.slice A H.length c) H→
 aV w (KC g w) (.slice Am M.length cm) M→RdW w g (t.flat++rest)→t.ok→jU t.flat→t.flat.length+rest.length≤100000000→M.length+t.flat.length≤1000000000→
 Calls Tryz.prog 82 #[.pointer (some ⟨g,0,none⟩),.agg #[.slice A H.length c],.int .i64 level,.slice Am M.length cm] w (jW g (t.held H level M) rest w):=by
 intro t
 induction t with
 |leaf n=>
  intro rest M Am cm w h hM hR hok hcy hl hml;have h1:(Tr.leaf n).flat=[n]:=rfl;rw[h1]at hR hcy hl hml;exact FC g A c H level n rest M Am cm w h hn hM hR hok (hcy n (by simp)) (by simp only[List.length_cons,List.length_nil]at hl;unfold maxLen;omega) (by omega)
 |fork f x y ihx ihy=>
  intro rest M Am cm w h hM hR hok hcy hl hml;obtain⟨ic,hic,hi1,hi2,hi3⟩:=info_parts gY;have JA:(Tr.fork f x y).flat=⟨f,[]⟩::(x.flat++y.flat):=rfl;rw[JA]at hR hcy hl hml;rw[List.cons_append,List.append_assoc]at hR;simp only[List.length_cons,List.length_append]at hl hml;have Cz:Hid ((Tr.fork f x y).held H level M=(x.held H level (M++[f])&&y.held H level (M++[bD f])&&dh H f)):=hide rfl;have hcx:jU x.flat:=fun n hn=>hcy n (by simp[hn]);have Uq:jU y.flat:=fun n hn=>hcy n (by simp[hn]);obtain⟨fk,fa,fb⟩:=f;have hgl:=hR.lt;obtain⟨W1,hW1⟩:∃W1,w.alloc (.cells #[.slice A H.length c] 24)=W1:=⟨_,rfl⟩;have hb1:=ah (Below.refl w.heap.size w) hW1 (Nat.le_refl _);have k1:=Blk.newEq hW1;have hT1:TyW g [145] w W1:=TyW.calm hb1 (Nat.le_of_lt hgl);have hx:=hide (vX g ⟨⟨fk,fa,fb⟩,[]⟩ (x.flat++(y.flat++rest)) W1 (hR.below hb1) (by simp only[List.length_append];unfold maxLen;omega));obtain⟨P,hP⟩:∃P,jW g ((Tr.fork ⟨fk,fa,fb⟩ x y).held H level M) rest w=P:=⟨_,rfl⟩;rw[hP];rw[Cz.out]at hP;replace hP:=hide hP;clear Cz JA hcy;obtain⟨qx,hqx⟩:∃qx,x.held H level (M++[⟨fk,fa,fb⟩])=qx:=⟨_,rfl⟩;obtain⟨qy,hqy⟩:∃qy,y.held H level (M++[bD ⟨fk,fa,fb⟩])=qy:=⟨_,rfl⟩;rw[hqx,hqy]at hP;have hcap:=aV.Uo hM;replace hcap:=hide hcap;go_enter Tryz.func82,Tryz.ntmps82;go_wp2_with fail;refine hx.out.mono ?_;rintro e w2 ⟨Ay,cy,rfl,-,hR2,hT2⟩;clear hx hW1;have hT:=hT1.trans hT2;have k2:=hT2.blk k1 (by decide);dsimp only at hP⊢;have hsz:=hT.size;obtain⟨W3,hW3⟩:∃W3,w2.alloc (.cells #[.int .i64 fk,.int .i64 fa,.int .i64 fb,.slice Ay 0 cy] 69)=W3:=⟨_,rfl⟩;have hb3:=ah (Below.refl w2.heap.size w2) hW3 (Nat.le_refl _);have n3:=Blk.newEq hW3;have k3:=k2.below hb3 k2.lt;have hT3:TyW g [145] w W3:=hT.trans (TyW.calm hb3 (by omega));have hR3:=hR2.below hb3;have h3:=aC.keep (K':=fun b=>b<g) h (Agree.below hT3.below fun b hb=>hb) fun _ h=>h;have hM3:=KC.ty hM hT3 (Nat.le_refl _) (by decide);have hMc:Hid (aV W3 (KC g W3) (.slice Am M.length M.length) M):=hide (aV.clip hM3);obtain⟨N,hNM⟩:∃N,M++[(⟨fk,fa,fb⟩:Cho)]=N:=⟨_,rfl⟩;obtain⟨N2,Sr⟩:∃N2,M++[(⟨fk,fb,fa⟩:Cho)]=N2:=⟨_,rfl⟩;have hN2:M++[bD ⟨fk,fa,fb⟩]=N2:=Sr;have hNl:N.length=M.length+1:=(by rw[←hNM];simp);have Sv:N2.length=M.length+1:=(by rw[←Sr];simp);rw[hNM]at hqx;rw[hN2]at hqy;have Qy:=hide (fun W (A6:Option Addr) (c6:Nat) (hT:TyW g [145] W3 W) (hC:aV W (KC g W) (.slice A6 N.length c6) N) (hRd:RdW W g (x.flat++(y.flat++rest)))=>(by
   have:=ihx (y.flat++rest) N A6 c6 W (aC.keep (K':=fun b=>b<g) h3 (Agree.below hT.below fun b hb=>hb) fun _ h=>h) hC hRd hok.1 hcx (by rw[List.length_append];omega) (by omega);rw[hqx]at this;exact this:Calls Tryz.prog 82 #[.pointer (some ⟨g,0,none⟩),.agg #[.slice A H.length c],.int .i64 level,.slice A6 N.length c6] W (jW g qx (y.flat++rest) W)))
  have Sw:=hide (fun W (A6:Option Addr) (c6:Nat) (hT:TyW g [145] W3 W) (hC:aV W (KC g W) (.slice A6 N2.length c6) N2) (hRd:RdW W g (y.flat++rest))=>(by
   have:=ihy rest N2 A6 c6 W (aC.keep (K':=fun b=>b<g) h3 (Agree.below hT.below fun b hb=>hb) fun _ h=>h) hC hRd hok.2 Uq (by omega) (by omega);rw[hqy]at this;exact this:Calls Tryz.prog 82 #[.pointer (some ⟨g,0,none⟩),.agg #[.slice A H.length c],.int .i64 level,.slice A6 N2.length c6] W (jW g qy rest W)))
  have hF1:=hR3.rv (Agree.refl _ W3);have Ur:=hide (fun W (hT:TyW g [145] W3 W)=>DL A c H fk fa fb W ((aC.keep (K':=fun b=>b<g) h3 (Agree.below hT.below fun b hb=>hb) fun _ h=>h).fit fun b (hb:b<g)=>by show b<_;have:=hT.size;have:=hT3.size;omega) hn);have c0:=Blk.n3 n3;have hszA:g≤W3.heap.size:=(by have:=hT3.size;omega);have hMl:M.length≤1000000000:=(by omega);clear hR hM h k1 k2 hR2 hT hT1 hT2 hb1 hb3 h3 hM3 hR3 ihx ihy hqx hqy hok hcx Uq hN2;replace hNl:=hide hNl;replace Sv:=hide Sv;obtain⟨l1,hl1⟩:∃l1,x.flat++(y.flat++rest)=l1:=⟨_,rfl⟩;obtain⟨l2,hl2⟩:∃l2,y.flat++rest=l2:=⟨_,rfl⟩;rw[hl1]at hF1 Qy;rw[hl2]at Qy Sw;clear hl1 hl2 hl hml;go_upto_region 4 with fail;try rw[hW3]
  generalize w2.heap.size=gN at*;clear hW3 c0;go_wp2_with fail;refine(sK Am M.length cm W3 hcap.out).mono ?_;rintro e w' ⟨rfl,rfl⟩;replace hMc:=hMc.out;go_upto_region 5 with fail;refine cZ g [wV (.pointer (some ⟨g,0,none⟩)),wV (.agg #[.slice A H.length c]),wV (.int .i64 level),wV (.slice Am M.length M.length),wV (.pointer (some ⟨gN,0,none⟩)),wV (.agg #[.int .i64 fk,.int .i64 fa,.int .i64 fb]),wS g 62 1 #[.int .i64 fk,.int .i64 fa,.int .i64 fb],wO g 62 3 N.length (N.map dX).flatten,wA (wV (.bool qx)) (wRd W3 g l2),wV (.bool qx),wRd W3 g l1] [[],[],[],[],[],[4],[5],[3,6],[0,1,2,7,10],[8]] [[],[],[],[],[],[],[],[],[145],[]] [[],[],[],[],[],[],[62],[62],[145],[],[145]] [] [145] hszA (by kernel_rfl) (by kernel_rfl) (by kernel_rfl) (by kernel_rfl) (by kernel_rfl) (by kernel_rfl) rfl ⟨fun _=>hF1,trivial⟩ (by kernel_rfl) (by kernel_rfl) ?hstep ?hend;case hstep=>
   simp only[iO,gW,RsT,acV,wV,wO,wS,wB,wU,wX,wK,wA,wRd,cK,gA,gZ,gS,List.getD_cons_zero,List.getD_cons_succ,List.getD_nil,Act.put,sA,sZ,sS,Nat.zero_add,Nat.reduceAdd,if_true,and_true];refine⟨?_,?o1,?_,?_,?_,?o5,?o6,?o7,?o8,?o9⟩;all_goals intro vs W R hR hT hd
   all_goals have hsz:g≤W.heap.size:=Nat.le_trans hszA hT.size
   case o1=>
    have c0:=Blk.n0 (hT.blk k3 (by decide));go_wp2;exact⟨rfl,_,rfl,hR _ _ rfl (TyW.refl _ _ _)⟩
   case o5=>
    have kq:=hT.blk n3 (by decide);have c0:=Blk.n0 kq;have c1:=Blk.n1 kq;have c2:=Blk.n2 kq;rw[hd];go_wp2;exact⟨rfl,_,rfl,hR _ _ rfl (TyW.refl _ _ _)⟩
   case o6=>
    rw[hd];go_wp2;exact⟨rfl,_,rfl,hR _ _ ⟨W.heap.size,hsz,rfl,Blk.new _ _ _⟩ (TyW.calm ((Below.refl _ _).alloc (Nat.le_refl _) _) hsz)⟩
   case o7=>
    obtain⟨e3,gg,hg,e5,kg⟩:=hd;rw[e3,e5];refine fP (enc:=dX) rfl _ _ 52 rfl 62 ic _ 3 24 Tryz.underlying52 hic hi1 hi2 hi3 rfl (by decide) Am (KC g W) M rfl (KC.ty hMc hT (Nat.le_refl _) (by decide)) (fun _=>rfl) gg _ ⟨fk,fa,fb⟩ kg rfl rfl bR (by unfold maxLen;omega) (by omega) ?_;intro v6 W6 hown6 hb6;rw[hNM]at hown6;exact⟨rfl,_,rfl,hR _ _ (bO hown6 hsz) (TyW.calm hb6 hsz)⟩
   case o8=>
    obtain⟨e0,e1,e2,o7,hF⟩:=hd;obtain⟨A6,c6,e6⟩:=aW o7;rw[e6]at o7;rw[e0,e1,e2,e6];have hag:=Agree.below hT.below (K:=fun b=>b<g) fun b hb=>hb;go_wp2_with fail;refine(Qy.out W A6 c6 hT (KC.own o7) (RdV.rd hF hag)).mono ?_;rintro e W2 ⟨rfl,hR2,hT2⟩;go_wp2;exact⟨rfl,_,rfl,hR _ _ ⟨rfl,hR2.rv (hag.trans (Agree.below hT2.below fun b hb=>hb))⟩ hT2⟩
   case o9=>
    rw[hd.1];go_wp2;exact⟨rfl,_,rfl,hR _ _ rfl (TyW.refl _ _ _)⟩
   all_goals (go_wp2;exact⟨rfl,_,rfl,hR _ _ (by first|rfl|trivial) (TyW.refl _ _ _)⟩)
  case hend=>
   intro vs W hT hd;have o8:vs 8= .bool qx∧RdV W3 g l2 W:=hd 8 (by simp) (by kernel_rfl);have o9:vs 9= .bool qx:=hd 9 (by simp) (by kernel_rfl);simp only[acV,gA,gZ,gS,Act.put,sA,sZ,sS,List.length_cons,List.length_nil,Nat.reduceAdd];rw[o9];have hF2:=o8.2;have k4:=hT.blk k3 (by decide);have n4:=hT.blk n3 (by decide);have Sy:=Agree.below hT.below (K:=fun b=>b<g) fun b hb=>hb;have Ls:=hT;have hMd:=KC.ty hMc hT (Nat.le_refl _) (by decide);have Sz:g≤W.heap.size:=Nat.le_trans hszA hT.size;clear hd o8 o9 hT Qy hF1 k3 n3 hszA hMc;obtain⟨W4,hW4⟩:∃W4,W4=W:=⟨_,rfl⟩;subst hW4;go_upto_region 6 with fail;refine cZ g [wV (.pointer (some ⟨g,0,none⟩)),wV (.agg #[.slice A H.length c]),wV (.int .i64 level),wV (.slice Am M.length M.length),wV (.pointer (some ⟨gN,0,none⟩)),wV (.agg #[.int .i64 fk,.int .i64 fa,.int .i64 fb]),wV (.agg #[.int .i64 fk,.int .i64 fb,.int .i64 fa]),wS g 62 1 #[.int .i64 fk,.int .i64 fb,.int .i64 fa],wO g 62 3 N2.length (N2.map dX).flatten,wA (wV (.bool qy)) (wRd W3 g rest),wV (.bool qy),wRd W3 g l2] [[],[],[],[],[],[4],[5],[6],[3,7],[0,1,2,8,11],[9]] [[],[],[],[],[],[],[],[],[],[145],[]] [[],[],[],[],[],[],[],[62],[62],[145],[],[145]] [] [145] Sz (by kernel_rfl) (by kernel_rfl) (by kernel_rfl) (by kernel_rfl) (by kernel_rfl) (by kernel_rfl) rfl ⟨fun _=>hF2,trivial⟩ (by kernel_rfl) (by kernel_rfl) ?hstep ?hend;case hstep=>
    simp only[iO,gW,RsT,acV,wV,wO,wS,wB,wU,wX,wK,wA,wRd,cK,gA,gZ,gS,List.getD_cons_zero,List.getD_cons_succ,List.getD_nil,Act.put,sA,sZ,sS,Nat.zero_add,Nat.reduceAdd,if_true,and_true];refine⟨?_,?o1,?_,?_,?_,?o5,?o6,?o7,?o8,?o9,?o10⟩;all_goals intro vs W R hR hT hd
    all_goals have hsz:g≤W.heap.size:=Nat.le_trans Sz hT.size
    case o1=>
     have c0:=Blk.n0 (hT.blk k4 (by decide));go_wp2;exact⟨rfl,_,rfl,hR _ _ rfl (TyW.refl _ _ _)⟩
    case o5=>
     have kq:=hT.blk n4 (by decide);have c0:=Blk.n0 kq;have c1:=Blk.n1 kq;have c2:=Blk.n2 kq;rw[hd];go_wp2;exact⟨rfl,_,rfl,hR _ _ rfl (TyW.refl _ _ _)⟩
    case o6=>
     rw[hd];go_wp2_with fail;refine(Ir fk fa fb W).mono ?_;rintro e W2 ⟨rfl,hb2⟩;go_wp2;exact⟨rfl,_,rfl,hR _ _ rfl (TyW.calm hb2 hsz)⟩
    case o7=>
     rw[hd];go_wp2;exact⟨rfl,_,rfl,hR _ _ ⟨W.heap.size,hsz,rfl,Blk.new _ _ _⟩ (TyW.calm ((Below.refl _ _).alloc (Nat.le_refl _) _) hsz)⟩
    case o8=>
     obtain⟨e3,gg,hg,e5,kg⟩:=hd;rw[e3,e5];refine fP (enc:=dX) rfl _ _ 52 rfl 62 ic _ 3 24 Tryz.underlying52 hic hi1 hi2 hi3 rfl (by decide) Am (KC g W) M rfl (KC.ty hMd hT (Nat.le_refl _) (by decide)) (fun _=>rfl) gg _ ⟨fk,fb,fa⟩ kg rfl rfl bR (by unfold maxLen;omega) (by omega) ?_;intro v6 W6 hown6 hb6;rw[Sr]at hown6;exact⟨rfl,_,rfl,hR _ _ (bO hown6 hsz) (TyW.calm hb6 hsz)⟩
    case o9=>
     obtain⟨e0,e1,e2,o7,hF⟩:=hd;obtain⟨A6,c6,e6⟩:=aW o7;rw[e6]at o7;rw[e0,e1,e2,e6];have hag:=Sy.trans (Agree.below hT.below (K:=fun b=>b<g) fun b hb=>hb);go_wp2_with fail;refine(Sw.out W A6 c6 (Ls.trans hT) (KC.own o7) (RdV.rd hF hag)).mono ?_;rintro e W2 ⟨rfl,hR2,hT2⟩;go_wp2;exact⟨rfl,_,rfl,hR _ _ ⟨rfl,hR2.rv (hag.trans (Agree.below hT2.below fun b hb=>hb))⟩ hT2⟩
    case o10=>
     rw[hd.1];go_wp2;exact⟨rfl,_,rfl,hR _ _ rfl (TyW.refl _ _ _)⟩
    all_goals (go_wp2;exact⟨rfl,_,rfl,hR _ _ (by first|rfl|trivial) (TyW.refl _ _ _)⟩)
   case hend=>
    intro vs W hT hd;have o9:vs 9= .bool qy∧RdV W3 g rest W:=hd 9 (by simp) (by kernel_rfl);have o10:vs 10= .bool qy:=hd 10 (by simp) (by kernel_rfl);simp only[acV,gA,gZ,gS,Act.put,sA,sZ,sS,List.length_cons,List.length_nil,Nat.reduceAdd];rw[o10];have hT6:=Ls.trans hT;have hag:=Sy.trans (Agree.below hT.below (K:=fun b=>b<g) fun b hb=>hb);have hRd:=RdV.rd o9.2 hag;have k5:=hT.blk k4 (by decide);have n5:=hT.blk n4 (by decide);have hTf:=hT3.trans hT6;have hcc:=hide (Ur.out W hT6);have hgW:=hTf.size;clear hd o9 o10 hT Sw hF2 k4 n4 Sz hMd Ls Sy hag Ur hT6 hT3;have c0:=Blk.n0 k5;have m0:=Blk.n0 n5;have m1:=Blk.n1 n5;have m2:=Blk.n2 n5;have hO:∀q W',q=(qx&&qy&&dh H ⟨fk,fa,fb⟩)→Below W.heap.size W W'→P (.returned (.bool q)) W':=fun q W' e hb=>by
     rw[←hP.out];exact⟨by rw[e],hRd.below hb,hTf.trans (TyW.calm hb (by omega))⟩
    replace hO:=hide hO;clear k5 n5 hRd hTf;cases qx with
    |false=>
     have hf:=hide (hO.out false W rfl (Below.refl _ _));clear hO hcc;go_wp2;exact hf.out
    |true=>
     cases qy with
     |false=>
      have hf:=hide (hO.out false W rfl (Below.refl _ _));clear hO hcc;go_wp2;exact hf.out
     |true=>
      go_wp2_with fail;refine hcc.out.mono ?_;rintro e w' ⟨rfl,hb7⟩;have hf:=hide (hO.out _ w' rfl hb7);clear hO;go_wp2;exact hf.out
set_option maxHeartbeats 1000000
theorem OO{l:List Nod}:(lq l).2.2=(jh l).isSome:=by
 unfold lq;cases jh l<;>rfl
set_option maxRecDepth 100000 in
theorem FD (A:Option Addr) (c:Nat) (H:List Txn) (level:Int) (Am:Option Addr) (cm:Nat) (M:List Cho) (At:Option Addr) (ct:Nat) (tree:List Nod) (w:World) (h:aC w (Old w) (.slice A H.length c) H) (hn:aA H)
 (hM:aV w (Old w) (.slice Am M.length cm) M) (hml:M.length≤100000000) (ht:aY w (Old w) (.slice At tree.length ct) tree) (htl:tree.length≤100000000) (hcy:jU tree):
 Calls Tryz.prog 38 #[.agg #[.slice A H.length c],.int .i64 level,.slice Am M.length cm,.slice At tree.length ct] w fun e w'=>e= .returned (.bool (tV H level M tree))∧Below w.heap.size w w':=by
 obtain⟨W0,hW0⟩:∃W0,w.alloc (.cells #[.slice A H.length c] 24)=W0:=⟨_,rfl⟩;have hB:=ah (Below.refl w.heap.size w) hW0 (Nat.le_refl _);have k0:=Blk.newEq hW0;have hsh:=hide (FB At ct tree W0 (ht.below hB) htl);have hrc:=hide (fun W (hb:Below w.heap.size w W)=>gL A c H W (h.below hb) hn);have hdef:Hid (tV H level M tree=(kI H level&&match jh tree with|some t=>t.held H level M|none=>false)):=hide rfl;have htO:Hid (∀t,jh tree=some t→tree=t.flat∧t.ok):=hide fun t e=>nL.1 e;have hsO:=hide (OO (l:=tree));obtain⟨⟨sl,sd,so⟩,hsr⟩:∃r,lq tree=r:=⟨_,rfl⟩;rw[hsr]at hsh hsO;dsimp only at hsO;have Cz:=hide (fun t g W (hb:Below w.heap.size w W) (hg:w.heap.size≤g) (kg:Blk W g 145 #[.slice At tree.length ct]) (e:tree=Tr.flat t) (hok:t.ok)=>(by
  have hag:Agree (Old w) w W:=Agree.below hb fun b hb=>hb;have hk:∀b,Old w b→b<g:=fun b hb=>Nat.lt_of_lt_of_le hb hg;have hR:RdW W g (t.flat++[]):=by
   rw[List.append_nil,←e];exact⟨At,ct,kg,ht.keep hag hk⟩
  exact Iy g A c H level hn t [] M Am cm W (aC.keep h hag hk) (aV.keep hM hag fun b hb=> .inl (hk b hb)) hR hok (by rw[←e];exact hcy) (by rw[←e];simpa using htl) (by rw[←e];omega):
  Calls Tryz.prog 82 #[.pointer (some ⟨g,0,none⟩),.agg #[.slice A H.length c],.int .i64 level,.slice Am M.length cm] W (jW g (t.held H level M) [] W)))
 have c0:=Blk.n0 k0;obtain⟨r,hr⟩:∃r,tV H level M tree=r:=⟨_,rfl⟩;rw[hr]at hdef;rw[hr];clear h hM ht hcy hr hsr;go_enter Tryz.func38,Tryz.ntmps38;go_wp2_with fail;refine hsh.out.mono ?_;rintro e w1 ⟨rfl,hb1⟩;have hB1:=hB.trans (hb1.mono hB.size);have k1:=k0.below hb1 k0.lt;clear hsh hW0 c0 k0 hb1 hB;have c0:=Blk.n0 k1;have hz:decide (level=0)=(level==0):=(by rw[Bool.eq_iff_iff];simp);have ho:decide (level=1)=(level==1):=(by rw[Bool.eq_iff_iff];simp);have hmay:Hid (kI H level=(aG H&&((level==0)||(level==1)))):=hide (by unfold kI;rw[hz,ho]);rw[hmay.out]at hdef;clear hz ho hmay;cases hto:jh tree with
 |none=>
  rw[hto]at hdef hsO;have hso:so=false:=hsO.out;have hrf:r=false:=(by rw[hdef.out];simp);subst hso hrf;clear hdef hsO htO hrc Cz hto;go_wp2;go_ret;exact⟨rfl,hB1⟩
 |some t=>
  obtain⟨e1,e2⟩:=htO.out t hto;rw[hto]at hdef hsO;dsimp only at hdef;have hso:so=true:=hsO.out;subst hso;have hhe:=hide (fun g W hb hg kg=>Cz.out t g W hb hg kg e1 e2);have Us:=hide (hrc.out w1 hB1);generalize aG H=q at*;generalize t.held H level M=hq at*;generalize hzz:(level==0)=z at*;generalize hoo:(level==1)=o at*;replace e1:=hide e1;clear hsO htO hrc Cz hto e2;go_wp2_with fail;refine Us.out.mono ?_;rintro e w2 ⟨rfl,hb2⟩;have hB2:=hB1.trans (hb2.mono hB1.size);have k2:=k1.below hb2 k1.lt;clear Us c0 k1 hb2 hB1 w1;have c0:=Blk.n0 k2;have hno:(q&&(z||o))=false→r=false:=fun e=>(by rw[hdef.out,e];rfl);have hyes:(q&&(z||o))=true→r=hq:=fun e=>(by rw[hdef.out,e];rfl);obtain⟨W3,hW3⟩:∃W3,w2.alloc (.cells #[.slice At tree.length ct] 145)=W3:=⟨_,rfl⟩;have hb3:=ah (Below.refl w2.heap.size w2) hW3 (Nat.le_refl _);have hB3:=hB2.trans (hb3.mono hB2.size);have hhx:=hide (hhe.out w2.heap.size W3 hB3 hB2.size (Blk.newEq hW3));have k3:=k2.below hb3 k2.lt;have c1:=Blk.n0 k3;have hfin:∀(e:Ending) w',jW w2.heap.size hq [] W3 e w'→r=hq→e= .returned (.bool r)∧Below w.heap.size w w':=fun e w' he hr=>by
   obtain⟨rfl,-,hT⟩:=he;exact⟨by rw[hr],hB3.trans (hT.below.mono hB2.size)⟩
  clear hhe hdef k2 k3 hb3 hB3;replace hfin:=hide hfin;cases q with
  |false=>
   obtain rfl:=hno rfl;clear hyes hno hfin hhx c1 hW3;go_wp2;go_ret;exact⟨rfl,hB2⟩
  |true=>
   cases z with
   |true=>
    have hr:=hide (hyes rfl);obtain rfl:level=0:=(by simpa using hzz);clear hyes hno hzz hoo;go_wp2_with fail;refine hhx.out.mono ?_;intro e w' he;obtain⟨f1,f2⟩:=hfin.out e w' he hr.out;subst f1;clear he hhx;go_wp2;go_ret;exact⟨rfl,f2⟩
   |false=>
    cases o with
    |true=>
     have hr:=hide (hyes rfl);obtain rfl:level=1:=(by simpa using hoo);clear hyes hno hzz hoo;go_wp2_with fail;refine hhx.out.mono ?_;intro e w' he;obtain⟨f1,f2⟩:=hfin.out e w' he hr.out;subst f1;clear he hhx;go_wp2;go_ret;exact⟨rfl,f2⟩
    |false=>
     obtain rfl:=hno rfl;have n0:(level !=0)=true:=(by simpa using hzz);have n1:(level !=1)=true:=(by simpa using hoo);clear hyes hno hfin hhx c1 hW3 hzz hoo;go_wp2;go_ret;exact⟨rfl,hB2⟩
set_option maxHeartbeats 4000000
def Mk.val(m:Mk)(v:Value):Value:= .agg #[.int .i64 m.c.key,.int .i64 m.c.a,.int .i64 m.c.b,.bool m.right,v]
set_option maxRecDepth 100000 in
theorem uM(k a b:Int)(q:Bool)(A:Option Addr)(n c:Nat)(w:World):Calls Tryz.prog 40 #[.agg #[.int .i64 k,.int .i64 a,.int .i64 b,.bool q,.slice A n c]] w fun e w'=>
 e= .returned (.agg #[.int .i64 k,.int .i64 (if q then b else a),.int .i64 (if q then a else b)])∧Below w.heap.size w w':=by
 obtain⟨W0,hW0⟩:∃W0,(w.alloc (.cells #[.int .i64 k,.int .i64 a,.int .i64 b,.bool q,.slice A n c] 64)).alloc (.cells #[.int .i64 0,.int .i64 0,.int .i64 0] 62)=W0:=⟨_,rfl⟩;have hb:=aF hW0;have k1:=Blk.fG hW0;have k2:=Blk.eP hW0;have a0:=Blk.n0 k1;have a1:=Blk.n1 k1;have a2:=Blk.n2 k1;have a3:=Blk.n3 k1;cases q with
 |false=>
  have b0:=Blk.n0 k2;have b1:=Blk.n1 k2;have b2:=Blk.n2 k2;have f0:=k2.frozen 0;have f1:=k2.frozen 1;have f2:=k2.frozen 2;have hz:=hide (((hb.setCell (p:=⟨w.heap.size+1,0,none⟩) (by simp) (.int .i64 k)).setCell (p:=⟨w.heap.size+1,1,none⟩) (by simp) (.int .i64 a)).setCell (p:=⟨w.heap.size+1,2,none⟩) (by simp) (.int .i64 b));have hq:=((k2.aH 0 (.int .i64 k)).aH 1 (.int .i64 a)).aH 2 (.int .i64 b);simp only[sA,sZ,sS]at hq;have y0:=Blk.n0 hq;have y1:=Blk.n1 hq;have y2:=Blk.n2 hq;clear hq k1 k2;go_enter Tryz.func40,Tryz.ntmps40;go_wp2_with fail;exact bodyPost_ret (v:= .agg #[.int .i64 k,.int .i64 a,.int .i64 b]) (by simp[results,Tryz.results40,go_sem,y0,y1,y2]) rfl ⟨rfl,hz.out⟩
 |true=>
  have ht:=hide (uK k a b W0);go_enter Tryz.func40,Tryz.ntmps40;go_wp2_with fail;refine ht.out.mono ?_;rintro e w1 ⟨rfl,hb1⟩;have hB:=hb.trans (hb1.mono hb.size);replace k2:=k2.below hb1 k2.lt;clear a0 a1 a2 a3 ht hW0 hb hb1 k1;have b0:=Blk.n0 k2;have b1:=Blk.n1 k2;have b2:=Blk.n2 k2;have f0:=k2.frozen 0;have f1:=k2.frozen 1;have f2:=k2.frozen 2;have hz:=hide (((hB.setCell (p:=⟨w.heap.size+1,0,none⟩) (by simp) (.int .i64 k)).setCell (p:=⟨w.heap.size+1,1,none⟩) (by simp) (.int .i64 b)).setCell (p:=⟨w.heap.size+1,2,none⟩) (by simp) (.int .i64 a));have hq:=((k2.aH 0 (.int .i64 k)).aH 1 (.int .i64 b)).aH 2 (.int .i64 a);simp only[sA,sZ,sS]at hq;have y0:=Blk.n0 hq;have y1:=Blk.n1 hq;have y2:=Blk.n2 hq;clear hq k2;go_wp2_with fail;exact bodyPost_ret (v:= .agg #[.int .i64 k,.int .i64 b,.int .i64 a]) (by simp[results,Tryz.results40,go_sem,y0,y1,y2]) rfl ⟨rfl,hz.out⟩
theorem CB(m:Mk):m.chosen=⟨m.c.key,if m.right then m.c.b else m.c.a,if m.right then m.c.a else m.c.b⟩:=by
 obtain⟨⟨k,a,b⟩,q,d⟩:=m;cases q<;>rfl
theorem zI{l:List Mk}{k:Nat}(h:k<l.length):aK (l.take (k+1))=aK (l.take k)++[l[k].chosen]:=by rw[List.take_succ_eq_append_getElem h,yV]
set_option maxRecDepth 100000 in
theorem rE(A:Option Addr)(c:Nat)(L:List Mk)(w:World)(h:MkS w (Old w) (.slice A L.length c) L)(hn:L.length≤50000000):
 Calls Tryz.prog 16 #[.slice A L.length c] w (ED w (aK L)):=by
 obtain⟨ic,hic,hi1,hi2,hi3⟩:=info_parts gY;have hst:=hide (fun k (hk:k<L.length)=>zI hk);have hall:=hide (show aK (L.take L.length)=aK L by rw[List.take_length]);replace h:=hide h;go_enter Tryz.func16,Tryz.ntmps16;go_wp2_with fail;go_loopw [3,8] (fun s3 s8 wr=>∃k:Nat,k≤L.length∧s8= .int .i64 k∧bG wr w.heap.size s3 (aK (L.take k))∧Below w.heap.size w wr) (fun _ s8 _=>L.length-(intOf s8).toNat);case atStart=>exact⟨0,Nat.zero_le _,by go_num,bG.nil _ _,Below.refl _ _⟩
 case round=>
  obtain⟨Wo,rfl⟩:∃Wo,Wo=wr:=⟨_,rfl⟩;obtain⟨k,hk,rfl,hown,hb⟩:=hrel;have hk1:(0:Int)≤(k:Int):=Int.natCast_nonneg _;by_cases hlt:k<L.length
  ·have hk2:(k:Int)<(L.length:Int):=(by omega);obtain⟨b,off,Ay,cy,rfl,-,d⟩:=(h.out.below hb).at_ hlt;obtain⟨d0,d1,d2,d3,d4,-⟩:=d;have hs:=hide (hst.out k hlt);have hl2:(aK (L.take k)).length≤50000000:=(by rw[fT,List.length_take];omega);have hci:=hide (CB L[k]);generalize L[k]=f at*;obtain⟨⟨fk,fa,fb⟩,fq,fy⟩:=f;dsimp only at d0 d1 d2 d3 d4 hci;rw[hci.out]at hs;obtain⟨Av,cv,rfl⟩:=hown.form;generalize aK (L.take k)=M at*;have oL:=hb.size;have hA:=ah hb (W:=Wo.alloc (.cells #[.int .i64 fk,.int .i64 fa,.int .i64 fb,.bool fq,.slice Ay fy.length cy] 64)) rfl oL;have hown2:=hide (World.ownsRow.alloc hown (.cells #[.int .i64 fk,.int .i64 fa,.int .i64 fb,.bool fq,.slice Ay fy.length cy] 64));clear hown hci;go_upto_region 5 with fail;generalize hWa:Wo.alloc (.cells #[.int .i64 fk,.int .i64 fa,.int .i64 fb,.bool fq,.slice Ay fy.length cy] 64)=Wa at*;have nn:=Blk.newEq hWa;have hsa:=hA.size;have hcs:=hide (uM fk fa fb fq Ay fy.length cy Wa);clear hWa d0 d1 d2 d3 d4;have e0:=Blk.n0 nn;have e1:=Blk.n1 nn;have e2:=Blk.n2 nn;have e3:=Blk.n3 nn;have e4:=Blk.n4 nn;go_wp2_with fail;refine hcs.out.mono ?_;rintro e w2 ⟨rfl,hb2⟩;have hA2:=hA.trans (hb2.mono hA.size);have hown3:=hide (own_below hown2.out hb2 (Nat.le_refl _));have hsb:=hA2.size;clear hown2 hcs nn e0 e1 e2 e3 e4 hb2 hA;generalize(if fq=true then fb else fa)=ya at*;generalize(if fq=true then fa else fb)=yb at*;go_wp2_with (at_builtin;refine aN (enc:=dX) rfl (.tmp 12) (.tmp 15) 52 rfl w.heap.size 62 ic _ 3 24 Tryz.underlying52 hic hi1 hi2 hi3 rfl (by decide) (.slice Av M.length cv) M rfl hown3.out (fun _=>rfl) (⟨fk,ya,yb⟩:Cho) _ rfl rfl bR (by simp[maxLen];omega) (by omega) hsb w w.heap.size (Nat.le_refl _) hA2 ?_;intro v1 w6 hown1 hg1 hb1 jN);go_wp2;go_roundw;case rel=>exact⟨k+1,by omega,by go_num,by rw[hs.out];exact hown1,hb1⟩
   case measure=>simp[intOf];omega
  ·obtain rfl:k=L.length:=(by omega);rw[hall.out]at hown;go_wp2;go_ret;exact⟨_,rfl,hown,hb⟩
end Go.Proofs.YtpjechjoijjhpaaGreatDoor
namespace Go.Proofs.YtpjechjoijjhpaaGreatDoor
open Go Go.RowKit Go.Inq
set_option maxHeartbeats 1000000
theorem DN{w w1 w2:World}{row:Option Nat}(h:w.grownBy w1 row)(hb:Below w1.heap.size w1 w2):w.grownBy w2 row:=
 ⟨hb.os.trans h.os,hb.tape.trans h.tape,hb.output.trans h.output,Nat.le_trans h.size hb.size,fun k hk hr=>(hb.block k (Nat.lt_of_lt_of_le hk h.size)).trans (h.block k hk hr)⟩
theorem CF{w w1:World}{g:Nat}(h:w.grownBy w1 (some g))(o:Obj):w.grownBy (ChangeMaps.setBlock w1 g o) (some g):=
 ⟨h.os,h.tape,h.output,by unfold ChangeMaps.setBlock;simpa using h.size,fun k hk hr=>by
  have hne:k≠g:=fun e=>hr (by rw[e]);have:(ChangeMaps.setBlock w1 g o).heap[k]?=w1.heap[k]?:=by
   unfold ChangeMaps.setBlock;simp[Array.getElem?_setIfInBounds,Ne.symm hne]
  exact this.trans (h.block k hk hr)⟩
theorem zJ{P:Program}{ops:Array Oper}{Q:Exit→Act→World→Prop}{a:Act}{w:World}{rest:List Oper}{o:Oper}(hw:Region.wanted o (yielded ops a.tmps)=true)(h:wpList P ops Q ({o with guard:=none}::rest) a w):wpList P ops Q (o::rest) a w:=by
 unfold wpList at h⊢;rw[if_pos hw];have h2:Region.wanted {o with guard:=none} (yielded ops a.tmps)=true:=rfl;simp only[h2,if_true]at h;exact h
def Bl(B:Cho→Option Bool)(x:Cho)(p q:Bool)(y:Cho):Option Bool:=if(p&&decide (y=x)||q&&decide (y=bD x))=true then some true else B y
theorem FE(B:Cho→Option Bool)(x:Cho)(q:Bool)(y:Cho):(if y=x then some true else Bl B x false q y)=Bl B x true q y:=by
 unfold Bl;by_cases h:y=x
 ·rw[if_pos h,decide_eq_true h];simp
 ·rw[if_neg h,decide_eq_false h];simp
theorem FH(B:Cho→Option Bool)(x:Cho)(p:Bool)(y:Cho):(if y=bD x then some true else Bl B x p false y)=Bl B x p true y:=by
 unfold Bl;by_cases h:y=bD x
 ·rw[if_pos h,decide_eq_true h];simp
 ·rw[if_neg h,decide_eq_false h];simp
theorem OP(B:Cho→Option Bool)(x y:Cho):Bl B x true true y=if y=bD x then some true else if y=x then some true else B y:=by
 rw[←FH,←FE];unfold Bl;simp
def knV(gm gq:Nat)(x:Cho):Nat→Value
 |0=> .map (some gm)|1=> .pointer (some ⟨gq,0,none⟩)|2=> .agg #[.int .i64 x.key,.int .i64 x.a,.int .i64 x.b]
 |3=> .map (some gm)|4=> .pointer (some ⟨gq,0,none⟩)|5=> .agg #[.int .i64 x.key,.int .i64 x.a,.int .i64 x.b]|6=> .agg #[.int .i64 x.key,.int .i64 x.b,.int .i64 x.a]
 |_=>undef
def knD:Nat→List Nat
 |2=>[1]|5=>[4]|6=>[5]|7=>[0,2]|8=>[3,6]
 |_=>[]
structure qX(gm:Nat)(W0:World)(val:Nat→Value)(B:Cho→Option Bool)(x:Cho)(L:Nat→Bool)(vs:Nat→Value)(W:World):Prop where
 gr:W0.grownBy W (some gm)
 v:∀k,k<7→L k=true→vs k=val k
 m:jJ wm W gm (Bl B x (L 7) (L 8))
section
variable{gm:Nat}{W0 W W':World}{val:Nat→Value}{B:Cho→Option Bool}{x:Cho}{L:Nat→Bool}{vs:Nat→Value}
theorem qX.start(h:jJ wm W0 gm B):qX gm W0 val B x (fun _=>false) (fun _=>undef) W0.drew:=by
 refine⟨⟨rfl,rfl,rfl,Nat.le_refl _,fun _ _ _=>rfl⟩,fun k _ h=>(by cases h),?_⟩;exact(h.agree (w':=W0.drew) rfl).same fun y=>by unfold Bl;simp
theorem qX.calm(h:qX gm W0 val B x L vs W){k:Nat}(hk:k<7)(hb:Below W.heap.size W W'):qX gm W0 val B x (fun j=>L j||decide (j=k)) (cK vs k (val k)) W':=by
 refine⟨DN h.gr hb,fun j hj hl=> ?_,?_⟩
 ·by_cases e:j=k
  ·subst e;unfold cK;rw[if_pos rfl]
  ·unfold cK;rw[if_neg e];exact h.v j hj (by simpa[e]using hl)
 ·have e7:(L 7||decide (7=k))=L 7:=(by rw[decide_eq_false (by omega)];simp);have e8:(L 8||decide (8=k))=L 8:=(by rw[decide_eq_false (by omega)];simp);simp only[e7,e8];exact h.m.below hb h.m.lt
theorem qX.kV(h:qX gm W0 val B x L vs W){k:Nat}(hk:k<7):qX gm W0 val B x (fun j=>L j||decide (j=k)) (cK vs k (val k)) W:=h.calm hk (Below.refl _ _)
theorem qX.one(h:qX gm W0 val B x L vs W)(hl:L 7=false)(u:Value):∃es c,(Instr.mapUpdate 99 (.map (some gm)) (.agg #[.int .i64 x.key,.int .i64 x.a,.int .i64 x.b]) (.bool true)).run Tryz.prog W= .ok () (ChangeMaps.setBlock W gm (.map es c))∧qX gm W0 val B x (fun j=>L j||decide (j=7)) (cK vs 7 u) (ChangeMaps.setBlock W gm (.map es c)):=by
 obtain⟨es,c,h1,h2⟩:=h.m.update Iw Tryz.underlying99 x true;refine⟨es,c,h1,CF h.gr _,fun j hj g=> ?_,?_⟩
 ·unfold cK;rw[if_neg (by omega)];exact h.v j hj (by simpa[show j≠7 by omega]using g)
 ·refine h2.same fun y=> ?_;rw[hl,FE];simp
theorem qX.two(h:qX gm W0 val B x L vs W)(hl:L 8=false)(u:Value):∃es c,(Instr.mapUpdate 99 (.map (some gm)) (.agg #[.int .i64 x.key,.int .i64 x.b,.int .i64 x.a]) (.bool true)).run Tryz.prog W= .ok () (ChangeMaps.setBlock W gm (.map es c))∧qX gm W0 val B x (fun j=>L j||decide (j=8)) (cK vs 8 u) (ChangeMaps.setBlock W gm (.map es c)):=by
 obtain⟨es,c,h1,h2⟩:=h.m.update Iw Tryz.underlying99 (bD x) true;refine⟨es,c,h1,CF h.gr _,fun j hj g=> ?_,?_⟩
 ·unfold cK;rw[if_neg (by omega)];exact h.v j hj (by simpa[show j≠8 by omega]using g)
 ·refine h2.same fun y=> ?_;rw[hl,FH];simp
end
end Go.Proofs.YtpjechjoijjhpaaGreatDoor
