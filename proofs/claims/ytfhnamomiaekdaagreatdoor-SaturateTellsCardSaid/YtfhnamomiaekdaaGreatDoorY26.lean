/-
  Walks: references 24 and 23: rows of nodes, and of facts, that are the same are told so.
-/
import Derived.BigQuiet
import Derived.Test.YtfhnamomiaekdaaGreatDoorY08
import Derived.Test.YtfhnamomiaekdaaGreatDoorY05
import Derived.Test.YtfhnamomiaekdaaGreatDoorY17
import Derived.Test.YtfhnamomiaekdaaGreatDoorY11
set_option linter.unusedVariables false
set_option linter.unusedSimpArgs false
namespace Go.Proofs.YtfhnamomiaekdaaGreatDoor
open Go.RowKit Go.Inq
set_option maxHeartbeats 4000000
attribute [local go_sem↓] Go.wp_at_zero Go.wp_at_succ
theorem nG{w:World}{n:Nat}:Below w.heap.size w (w.drewN n):=⟨rfl,rfl,rfl,Nat.le_refl _,fun _ _=>rfl⟩
set_option maxRecDepth 100000 in
theorem Dt(A A':Option Addr)(c c':Nat)(l:List Nod)(w:World)(h:dH w (Old w) (.slice A l.length c) l)(h':dH w (Old w) (.slice A' l.length c') l)(hn:Bb l):
 Calls Tryz.prog 65 #[.slice A l.length c,.slice A' l.length c'] w fun e w'=>e= .returned (.bool true)∧Below w.heap.size w w':=by
 have hh:=hide (fun W (hb:Below w.heap.size w W)=>h.below hb);have hh':=hide (fun W (hb:Below w.heap.size w W)=>h'.below hb);have hself:=hide (fun(x:Int)=>show(x !=x)=false by simp);have hl:=hn.1;replace hn:=hide hn;clear h h';go_enter Tryz.func65,Tryz.ntmps65;go_wp2_with fail;go_loopw [5] (fun s5 wr=>∃i:Nat,i≤l.length∧s5= .int .i64 i∧Below w.heap.size w wr) (fun s5 _=>l.length-(intOf s5).toNat);case atStart=>exact⟨0,Nat.zero_le _,by go_num,Below.refl _ _⟩
 case round=>
  obtain⟨i,hi,rfl,hb⟩:=hrel;obtain⟨Wr,rfl⟩:∃Wr,Wr=wr:=⟨_,rfl⟩;have hi0:(0:Int)≤(i:Int):=Int.natCast_nonneg _;by_cases hlt:i<l.length
  ·have hi1:(i:Int)<(l.length:Int):=(by omega);obtain⟨b,off,Ay,cy,rfl,-,d⟩:=(hh.out Wr hb).at_ hlt;obtain⟨b',off',Ay',cy',rfl,-,d'⟩:=(hh'.out Wr hb).at_ hlt;have hd:=hide (fun W (hbW:Below w.heap.size w W)=>(by
    obtain⟨b1,off1,Ay1,cy1,e,-,d1⟩:=(hh.out W hbW).at_ hlt;injection e with e
    injection e with e1 e2
    subst e1 e2;exact⟨Ay1,cy1,d1.d3,d1.cyc⟩:∃Ay cy,W.cell? ⟨b,off+i*4+3,none⟩=some (.slice Ay l[i].cyc.length cy)∧aI W (Old W) (.slice Ay l[i].cyc.length cy) l[i].cyc))
   have hd':=hide (fun W (hbW:Below w.heap.size w W)=>(by
    obtain⟨b1,off1,Ay1,cy1,e,-,d1⟩:=(hh'.out W hbW).at_ hlt;injection e with e
    injection e with e1 e2
    subst e1 e2;exact⟨Ay1,cy1,d1.d3,d1.cyc⟩:∃Ay cy,W.cell? ⟨b',off'+i*4+3,none⟩=some (.slice Ay l[i].cyc.length cy)∧aI W (Old W) (.slice Ay l[i].cyc.length cy) l[i].cyc))
   have hcn:=hn.out.2 _ (List.getElem_mem hlt);obtain⟨d0,d1,d2,d3,-⟩:=d;obtain⟨e0,e1,e2,e3,-⟩:=d';generalize l[i]=x at*;obtain⟨⟨xk,xa,xb⟩,xc⟩:=x;dsimp only at d0 d1 d2 d3 e0 e1 e2 e3 hd hd' hcn;go_upto_region 6 with fail;go_quiet (fail);go_wp2;go_loopw [6] (fun s6 wr=>∃j:Nat,j≤xc.length∧s6= .int .i64 j∧Below w.heap.size w wr) (fun s6 _=>xc.length-(intOf s6).toNat);case atStart=>exact⟨0,Nat.zero_le _,by go_num,hb.trans (nG.mono hb.size)⟩
   case round=>
    clear hb d0 d1 d2 d3 e0 e1 e2 e3;obtain⟨j,hj,rfl,hb⟩:=hrel;obtain⟨Wj,rfl⟩:∃Wj,Wj=wr:=⟨_,rfl⟩;have hj0:(0:Int)≤(j:Int):=Int.natCast_nonneg _;obtain⟨Ay2,cy2,d3,hy⟩:=hd.out Wj hb;obtain⟨Ay3,cy3,e3,hz⟩:=hd'.out Wj hb;by_cases hlt2:j<xc.length
    ·have hj1:(j:Int)<(xc.length:Int):=(by omega);obtain⟨b2,off2,rfl,-,r0⟩:=aI.at_ hy hlt2;obtain⟨b3,Nh,rfl,-,r1⟩:=aI.at_ hz hlt2;generalize xc[j]=y at*;have q0:=hself.out y;clear hy hz hd hd';go_wp2;go_quiet (fail);go_wp2;go_roundw;case rel=>exact⟨j+1,by omega,by go_num,hb.trans (nG.mono hb.size)⟩
     case measure=>simp[intOf]<;>omega
    ·obtain rfl:j=xc.length:=(by omega);clear hy hz hd hd';go_wp2;go_roundw;case rel=>exact⟨i+1,by omega,by go_num,hb⟩
     case measure=>simp[intOf]<;>omega
  ·obtain rfl:i=l.length:=(by omega);go_wp2;go_ret;exact⟨rfl,hb⟩
set_option maxRecDepth 100000 in
theorem Du(A A':Option Addr)(c c':Nat)(l:List Fct)(w:World)(h:bF w (Old w) (.slice A l.length c) l)(h':bF w (Old w) (.slice A' l.length c') l)(hn:uw l):
 Calls Tryz.prog 66 #[.slice A l.length c,.slice A' l.length c'] w fun e w'=>e= .returned (.bool true)∧Below w.heap.size w w':=by
 have hh:=hide (fun W (hb:Below w.heap.size w W)=>h.below hb);have hh':=hide (fun W (hb:Below w.heap.size w W)=>h'.below hb);have hself:=hide (fun(x:Int)=>show(x !=x)=false by simp);have hl:=hn.1;replace hn:=hide hn;clear h h';go_enter Tryz.func66,Tryz.ntmps66;go_wp2_with fail;go_loopw [5] (fun s5 wr=>∃i:Nat,i≤l.length∧s5= .int .i64 i∧Below w.heap.size w wr) (fun s5 _=>l.length-(intOf s5).toNat);case atStart=>exact⟨0,Nat.zero_le _,by go_num,Below.refl _ _⟩
 case round=>
  obtain⟨i,hi,rfl,hb⟩:=hrel;obtain⟨Wr,rfl⟩:∃Wr,Wr=wr:=⟨_,rfl⟩;have hi0:(0:Int)≤(i:Int):=Int.natCast_nonneg _;by_cases hlt:i<l.length
  ·have hi1:(i:Int)<(l.length:Int):=(by omega);obtain⟨b,off,Ay,cy,rfl,-,d⟩:=(hh.out Wr hb).at_ hlt;have hcn:=hn.out.2 _ (List.getElem_mem hlt);have hat:=hide (fun W (hbW:Below w.heap.size w W)=>(hh'.out W hbW).at_ hlt);obtain⟨d0,d1,d2,d3,d4,d5,d6,dy⟩:=d;generalize l[i]=x at*;obtain⟨⟨xk,xa,xb⟩,xd,xi,xj,xc⟩:=x;dsimp only at d0 d1 d2 d3 d4 d5 d6 dy hcn;go_upto_region 7 with fail;obtain⟨W1,hW1⟩:∃W1,Wr.alloc (.cells #[.int .i64 xk,.int .i64 xa,.int .i64 xb,.int .i64 xd,.int .i64 xi,.int .i64 xj,.slice Ay xc.length cy] 120)=W1:=⟨_,rfl⟩;rw[hW1];have hb1:=ah hb hW1 hb.size;have kx:=Blk.newEq hW1;have Qu:Below Wr.heap.size Wr W1:=ah (Below.refl _ _) hW1 (Nat.le_refl _);have hy1:=hide (fun W (hbW:Below W1.heap.size W1 W)=>(aI.below (aI.below dy Qu) hbW));obtain⟨b',off',Ay',cy',rfl,-,d'⟩:=hat.out W1 hb1;obtain⟨e0,e1,e2,e3,e4,e5,e6,ey⟩:=d';dsimp only at e0 e1 e2 e3 e4 e5 e6 ey;clear d0 d1 d2 d3 d4 d5 d6 dy hW1;go_upto_region 8 with fail;obtain⟨W2,hW2⟩:∃W2,W1.alloc (.cells #[.int .i64 xk,.int .i64 xa,.int .i64 xb,.int .i64 xd,.int .i64 xi,.int .i64 xj,.slice Ay' xc.length cy'] 120)=W2:=⟨_,rfl⟩;rw[hW2];have hb2:=ah hb1 hW2 hb1.size;have ky:=Blk.newEq hW2;have vS:Below W1.heap.size W1 W2:=ah (Below.refl _ _) hW2 (Nat.le_refl _);have hy2:=hide (hy1.out W2 vS);have hz2:=hide (aI.below ey vS);replace kx:=kx.below vS kx.lt;have s0:=Blk.n0 kx;have s1:=Blk.n1 kx;have s2:=Blk.n2 kx;have s3:=Blk.n3 kx;have s4:=Blk.n4 kx;have s5:=Blk.n5 kx;have s6:=Blk.n6 kx;have t0:=Blk.n0 ky;have t1:=Blk.n1 ky;have t2:=Blk.n2 ky;have t3:=Blk.n3 ky;have t4:=Blk.n4 ky;have t5:=Blk.n5 ky;have t6:=Blk.n6 ky;have q1:=hself.out xd;have q2:=hself.out xi;have q3:=hself.out xj;clear e0 e1 e2 e3 e4 e5 e6 ey hb hb1 Qu vS hy1 hW2 hat;go_wp2_with fail;go_loopw [8] (fun s8 wr=>∃j:Nat,j≤xc.length∧s8= .int .i64 j∧Below W2.heap.size W2 wr) (fun s8 _=>xc.length-(intOf s8).toNat);case atStart=>exact⟨0,Nat.zero_le _,by go_num,Below.refl _ _⟩
   case round=>
    clear s0 s1 s2 s3 s4 s5 s6 t0 t1 t2 t3 t4 t5 t6 q1 q2 q3;obtain⟨j,hj,rfl,hbj⟩:=hrel;obtain⟨Wj,rfl⟩:∃Wj,Wj=wr:=⟨_,rfl⟩;have hj0:(0:Int)≤(j:Int):=Int.natCast_nonneg _;have s6:=Blk.n6 (kx.below hbj kx.lt);have t6:=Blk.n6 (ky.below hbj ky.lt);have hbw:=hb2.trans (hbj.mono hb2.size);by_cases hlt2:j<xc.length
    ·have hj1:(j:Int)<(xc.length:Int):=(by omega);obtain⟨b2,off2,rfl,-,r0⟩:=aI.at_ (aI.below hy2.out hbj) hlt2;obtain⟨b3,Nh,rfl,-,r1⟩:=aI.at_ (aI.below hz2.out hbj) hlt2;generalize xc[j]=y at*;have q0:=hself.out y;clear hbw;go_wp2;go_quiet (fail);go_wp2;go_roundw;case rel=>exact⟨j+1,by omega,by go_num,hbj.trans (nG.mono hbj.size)⟩
     case measure=>simp[intOf]<;>omega
    ·obtain rfl:j=xc.length:=(by omega);go_wp2;go_roundw;case rel=>exact⟨i+1,by omega,by go_num,hbw⟩
     case measure=>simp[intOf]<;>omega
  ·obtain rfl:i=l.length:=(by omega);go_wp2;go_ret;exact⟨rfl,hb⟩
set_option maxHeartbeats 1000000
def vT(w:World)(v:Value)(o:Say):Prop:=∃Ao co At ct Af cf,v= .agg #[.int .i64 o.said,.slice Ao (au o.order).length co,.slice At o.tree.length ct,.slice Af o.facts.length cf]∧aI w (Old w) (.slice Ao (au o.order).length co) (au o.order)∧dH w (Old w) (.slice At o.tree.length ct) o.tree∧bF w (Old w) (.slice Af o.facts.length cf) o.facts
theorem vT.below{w w':World}{v:Value}{o:Say}(h:vT w v o)(hb:Below w.heap.size w w'):vT w' v o:=by
 obtain⟨Ao,co,At,ct,Af,cf,h1,h2,h3,h4⟩:=h;exact⟨Ao,co,At,ct,Af,cf,h1,h2.below hb,h3.below hb,h4.below hb⟩
def O5(o:Say):Prop:=o.order.length≤1000000∧Bb o.tree∧uw o.facts
set_option maxRecDepth 100000 in
theorem Dv(v v':Value)(r:Say)(w:World)(h:vT w v r)(h':vT w v' r)(hf:O5 r):
 Calls Tryz.prog 15 #[v,v'] w fun e w'=>e= .returned (.bool true)∧Below w.heap.size w w':=by
 obtain⟨h1,h2,h3⟩:=hf;obtain⟨Ao,co,At,ct,Af,cf,rfl,ho,ht,hf⟩:=h;obtain⟨Ao',co',At',ct',Af',cf',rfl,ho',ht',hf'⟩:=h';obtain⟨sd,od,tr,fa⟩:=r;dsimp only at*;have hno:(au od).length≤1000000:=(by rw[aN];exact h1);generalize au od=ol at*;obtain⟨W0,hW0⟩:∃W0,(w.alloc (.cells #[.int .i64 sd,.slice Ao ol.length co,.slice At tr.length ct,.slice Af fa.length cf] 42)).alloc (.cells #[.int .i64 sd,.slice Ao' ol.length co',.slice At' tr.length ct',.slice Af' fa.length cf'] 42)=W0:=⟨_,rfl⟩;have hb:=aG hW0;have k0:=Blk.fC hW0;have k1:=Blk.dQ hW0;have hc:=hide (Ke Ao Ao' co co' ol ol W0 (ho.below hb) (ho'.below hb) hno hno);have hct:=hide (fun W (hb:Below w.heap.size w W)=>Dt At At' ct ct' tr W (ht.below hb) (ht'.below hb) h2);have hcf:=hide (fun W (hb:Below w.heap.size w W)=>Du Af Af' cf cf' fa W (hf.below hb) (hf'.below hb) h3);have a1:=Blk.n1 k0;have b1:=Blk.n1 k1;have hself:(sd==sd)=true:=(by simp);clear h1 h2 h3 ho ho' ht ht' hf hf';go_enter Tryz.func15,Tryz.ntmps15;go_wp2_with fail;clear hW0;refine Calls.mono hc.out ?_;rintro e w1 ⟨rfl,hb1⟩;replace k0:=k0.below hb1 k0.lt;replace k1:=k1.below hb1 k1.lt;have hb2:=hb.trans (hb1.mono hb.size);clear hc a1 b1 hb1 hb;have a2:=Blk.n2 k0;have b2:=Blk.n2 k1;have hc2:=hide (hct.out w1 hb2);simp only[decide_true];go_wp2_with fail;refine Calls.mono hc2.out ?_;rintro e w2 ⟨rfl,hb3⟩;replace k0:=k0.below hb3 k0.lt;replace k1:=k1.below hb3 k1.lt;replace hb2:=hb2.trans (hb3.mono hb2.size);clear hc2 hct a2 b2 hb3;have a3:=Blk.n3 k0;have b3:=Blk.n3 k1;have hc3:=hide (hcf.out w2 hb2);go_wp2_with fail;refine Calls.mono hc3.out ?_;rintro e w3 ⟨rfl,hb4⟩;replace k0:=k0.below hb4 k0.lt;replace k1:=k1.below hb4 k1.lt;replace hb2:=hb2.trans (hb4.mono hb2.size);have a0:=Blk.n0 k0;have b0:=Blk.n0 k1;clear hc3 hcf a3 b3 hb4;go_wp2;go_ret;exact⟨rfl,hb2⟩
end Go.Proofs.YtfhnamomiaekdaaGreatDoor
namespace Go.Inq
open Go Go.RowKit
def NTy(n:Nat)(τs:List TypeId)(W:World):Nat→Prop:=fun b=>b<W.heap.size∧(b<n∨∃t cs,Blk W b t cs∧t∈τs)
section
variable{n:Nat}{τs:List TypeId}{W W':World}{b:Nat}
theorem NTy.step(h:NTy n τs W b)(he:W'.heap[b]?=W.heap[b]?)(hs:W.heap.size≤W'.heap.size):NTy n τs W' b:=
 ⟨Nat.lt_of_lt_of_le h.1 hs,h.2.imp id fun⟨t,cs,hk,ht⟩=>⟨t,cs,he.trans hk,ht⟩⟩
theorem NTy.below(h:NTy n τs W b)(hb:Below W.heap.size W W'):NTy n τs W' b:=h.step (hb.block b h.1) hb.size
theorem NTy.bB{t:TypeId}{cs:Array Value}(h:Blk W b t cs)(ht:t∈τs):NTy n τs W b:=⟨h.lt,.inr ⟨t,cs,h,ht⟩⟩
theorem NTy.not{t:TypeId}{cs:Array Value}(h:Blk W b t cs)(ht:t∉τs)(hn:n≤b):¬NTy n τs W b:=fun k=>by
 rcases k.2 with k|k
 ·omega
 ·obtain⟨t',cs',h',ht'⟩:=k;have h1:=(show W.heap[b]?=_ from h).symm.trans h';simp only[Option.some.injEq,Obj.cells.injEq]at h1;exact ht (h1.2.1▸ht')
theorem NTy.N7{base:Nat}{σ:List TypeId}(h:TyK base σ W b)(hσ:∀t∈σ,t∈τs):NTy n τs W b:=by
 obtain⟨-,t,ht,cs,hk⟩:=h;exact NTy.bB hk (hσ t ht)
end
def KB(n:Nat)(τs:List TypeId)(W:World)(v:Value):Nat→Prop:=fun b=>NTy n τs W b∧v.ownBlock≠some b
def jW{α:Type}(size:Nat)(R:World→(Nat→Prop)→List Value→α→Prop)(n:Nat)(τs:List TypeId)(W:World)(base:Nat)(e:TypeId)(v:Value)(l:List α):Prop:=aW size R W (KB n τs W v) base e v l
section
variable{α:Type}{size:Nat}{R:World→(Nat→Prop)→List Value→α→Prop}{n:Nat}{τs:List TypeId}{W W':World}{base:Nat}{e:TypeId}{v:Value}{l:List α}
theorem jW.nil(size:Nat)(R:World→(Nat→Prop)→List Value→α→Prop)(n:Nat)(τs:List TypeId)(W:World)(base:Nat)(e:TypeId):jW size R n τs W base e (.slice none 0 0) []:=aW.nil _ _ _ _ _ _
theorem jW.form(h:jW size R n τs W base e v l):∃A c,v= .slice A l.length c:=aW.form h
theorem jW.lt(h:jW size R n τs W base e v l)(g:Nat)(hg:v.ownBlock=some g):base≤g∧g<W.heap.size:=aW.lt h g hg
theorem jW.below(hR:jD R)(h:jW size R n τs W base e v l)(hb:Below W.heap.size W W'):jW size R n τs W' base e v l:=
 aW.keep hR h (Agree.below hb fun _ g=>g.1.1) (fun _ g=>⟨g.1.below hb,g.2⟩) fun g hg=>hb.block g (h.lt g hg).2
theorem jW.s(hR:jD R)(h:jW size R n τs W base e v l)(he:e∈τs):SlR size R W (NTy n τs W) v l:=
 (aW.keep hR h (Agree.refl _ _) (fun _ g=>g.1) fun _ _=>rfl:aW size R W (NTy n τs W) base e v l).sl fun g hg=>by
  obtain⟨cs,h3⟩:=aW.blk h hg;exact NTy.bB h3 he
theorem KB.old{w:World}(h:jW size R n τs W base e v l)(hB:w.heap.size≤base)(hb:Below w.heap.size w W):∀b,NTy n τs w b→KB n τs W v b:=fun b g=>⟨g.below hb,fun e=>by have:=(h.lt b e).1;have:=g.1;omega⟩
theorem KB.new{σ:List TypeId}{base':Nat}(h:jW size R n τs W base e v l)(hσ:∀t∈σ,t∈τs)(hb:W.heap.size≤base'){b:Nat}(h1:TyK base' σ W' b):KB n τs W' v b:=⟨NTy.N7 h1 hσ,fun e=>by have:=(h.lt b e).2;have:=h1.1;omega⟩
end
section
variable{P:Program}{W:World}{ops:Array Oper}{rest:List Oper}{o:Oper}{a:Act}{Q:Exit→Act→World→Prop}{α:Type}{R:World→(Nat→Prop)→List Value→α→Prop}{n:Nat}{τs:List TypeId}
theorem oW (hR:jD R) (hone:∀w K cs x,R w K cs x→∀u∈cs,u.oneCell'=true)
 (hgd:o.guard=none) (s x:Operand) (t:TypeId) (ho:o.op= .call {callee:= .builtin .append,args:=#[s,x],argTypes:=#[t,t]})
 (base:Nat) (e:TypeId) (i:TypeInfo) (z:Value) (size bytes:Nat) (ht:P.underlying t=some (.slice e)) (hi:P.info? e=some i) (hz:i.zero=some z)
 (hsize:i.size=size) (hby:i.bytes=bytes) (hzs:z.cells.size=size) (hsz:0<size)
 (v:Value) (l:List α) (hs:a.eval s=v) (hown:jW size R n τs W base e v l)
 (vx:Value) (l2:List α) (hx:a.eval x=vx) (hsrc:SlR size R W (KB n τs W v) vx l2)
 (h63:l.length+l2.length≤maxLen) (hbytes:(l.length+l2.length)*bytes≤140737488355328) (hbase:base≤W.heap.size) (he:e∈τs) (w0:World) (B:Nat) (hB:B≤base) (hb:Below B w0 W)
 (h:∀v' w',jW size R n τs w' base e v' (l++l2)→Below B w0 w'→W.grownBy w' v.ownBlock→wpList P ops Q rest (a.put o.dst v') w'):
 wpList P ops Q (o::rest) a W:=by
 have O6:=fun g hg=>hown.lt g hg;refine jF (R:=R) hgd s x t ho base e i z size bytes ht hi hz hsize hby hzs hsz v (KB n τs W v) l hs hown vx l2 hx hsrc (fun cs x h=>hone _ _ cs x h) h63 hbytes hbase (fun w' hg cs x hx=>hR _ _ _ _ _ _ hx (Agree.grown hg (fun b hb=>⟨hb.1.1,fun e=>hb.2 e.symm⟩)) (fun _ h=>h)) ?_;intro v7 W7 hO7 hg7 OL;have hs7:=hg7.size;have hs0:=hb.size;refine h v7 W7 (aW.keep hR hO7 (Agree.refl _ _) (fun b hb=>⟨hb.1.step (hg7.block b hb.1.1 fun e=>hb.2 e.symm) hs7,fun e=>by
  rcases OL with e'|e'
  ·exact hb.2 (e'▸e)
  ·rw[e']at e;injection e with e;have:=hb.1.1;omega⟩) fun _ _=>rfl) (below_grown hb hg7 (by omega) (fun j e=>by have:=(O6 j e).1;omega)) hg7
theorem tK (hR:jD R) (hone:∀w K cs x,R w K cs x→∀u∈cs,u.oneCell'=true)
 (hgd:o.guard=none) (s x:Operand) (t:TypeId) (ho:o.op= .call {callee:= .builtin .append,args:=#[s,x],argTypes:=#[t,t]})
 (base:Nat) (e:TypeId) (i:TypeInfo) (z:Value) (size bytes:Nat) (ht:P.underlying t=some (.slice e)) (hi:P.info? e=some i) (hz:i.zero=some z)
 (hsize:i.size=size) (hby:i.bytes=bytes) (hzs:z.cells.size=size) (hsz:0<size)
 (v:Value) (l:List α) (hs:a.eval s=v) (hown:jW size R n τs W base e v l)
 (cs:Array Value) (x0:α) (hcs:cs.size=size) (hrow:R W (KB n τs W v) cs.toList x0)
 (hx:a.eval x= .slice (some ⟨W.heap.size,0,none⟩) 1 1)
 (h63:l.length+1≤maxLen) (hbytes:(l.length+1)*bytes≤140737488355328) (hbase:base≤W.heap.size) (he:e∈τs) (w0:World) (B:Nat) (hB:B≤base) (hb:Below B w0 W)
 (h:∀v' w',jW size R n τs w' base e v' (l++[x0])→Below B w0 w'→W.grownBy w' v.ownBlock→wpList P ops Q rest (a.put o.dst v') w'):
 wpList P ops Q (o::rest) a (W.alloc (.cells cs e)):=by
 obtain⟨W2,hW2⟩:∃W2,W.alloc (.cells cs e)=W2:=⟨_,rfl⟩;rw[hW2];have kN:=Blk.newEq hW2;have hB2:=ah (Below.refl W.heap.size W) hW2 (Nat.le_refl _);have hs2:W2.heap.size=W.heap.size+1:=aH hW2;have O6:=fun g hg=>hown.lt g hg;have hs0:=hb.size;have hbl:B≤W.heap.size:=(by omega);have hsrc:SlR size R W2 (KB n τs W2 v) (.slice (some ⟨W.heap.size,0,none⟩) 1 1) [x0]:=
  SlR.one kN hcs (hR _ _ _ _ _ _ hrow (Agree.below hB2 fun _ g=>g.1.1) (fun _ g=>⟨g.1.below hB2,g.2⟩)) ⟨NTy.bB kN he,fun e=>by have:=(O6 _ e).2;omega⟩
 refine oW hR hone hgd s x t ho base e i z size bytes ht hi hz hsize hby hzs hsz v l hs (hown.below hR hB2) _ [x0] hx hsrc h63 hbytes (by omega) he w0 B hB (hb.trans (hB2.mono hbl)) ?_;intro v7 W7 hO hb7 hg7;exact h v7 W7 hO hb7 (av (bQ hB2 (Nat.le_refl _)) hg7)
end
end Go.Inq
namespace Go.Proofs.YtfhnamomiaekdaaGreatDoor
open Go.RowKit Go.Inq
set_option maxHeartbeats 1000000
section
variable{W:World}{g:Nat}{t:TypeId}{a b c d x y z u:Value}
theorem bD(h:Blk W g t #[x,y,z,u]):Blk (bR W g a b c d) g t #[a,b,c,d]:=(((h.aD 0 a).aD 1 b).aD 2 c).aD 3 d
theorem FQ{K:Nat→Prop}(hk:¬K g):Agree K W (bR W g a b c d):=
 (((Agree.setCell ⟨g,0,none⟩ hk a).trans (Agree.setCell ⟨g,1,none⟩ hk b)).trans (Agree.setCell ⟨g,2,none⟩ hk c)).trans (Agree.setCell ⟨g,3,none⟩ hk d)
theorem Jt:(bR W g a b c d).heap.size=W.heap.size:=by
 unfold bR;simp only[World.size_setCell]
end
def dS:List TypeId:=[3,126,120]
def dL(n:Nat)(w:World)(v:Value)(o:Say):Prop:=∃Ao co At ct Af cf,v= .agg #[.int .i64 o.said,.slice Ao (au o.order).length co,.slice At o.tree.length ct,.slice Af o.facts.length cf]∧aI w (NTy n dS w) (.slice Ao (au o.order).length co) (au o.order)∧dH w (NTy n dS w) (.slice At o.tree.length ct) o.tree∧bF w (NTy n dS w) (.slice Af o.facts.length cf) o.facts
theorem dL.s{n:Nat}{w:World}{v:Value}{o:Say}(h:dL n w v o):vT w v o:=by
 obtain⟨Ao,co,At,ct,Af,cf,h0,h1,h2,h3⟩:=h;exact⟨Ao,co,At,ct,Af,cf,h0,h1.fit (fun _ h=>h.1),h2.fit (fun _ h=>h.1),h3.fit (fun _ h=>h.1)⟩
theorem dL.keep{n:Nat}{w w':World}{v:Value}{o:Say}(h:dL n w v o)(ha:Agree (NTy n dS w) w w')(hs:w.heap.size≤w'.heap.size):dL n w' v o:=by
 obtain⟨Ao,co,At,ct,Af,cf,h0,h1,h2,h3⟩:=h;have hk:∀b,NTy n dS w b→NTy n dS w' b:=fun b g=>g.step (ha b g) hs;exact⟨Ao,co,At,ct,Af,cf,h0,h1.keep ha hk,h2.keep ha hk,h3.keep ha hk⟩
theorem dL.form{n:Nat}{w:World}{v:Value}{o:Say}(h:dL n w v o):∃Ao no co At nt ct Af cf,v= .agg #[.int .i64 o.said,.slice Ao no co,.slice At nt ct,.slice Af o.facts.length cf]:=by
 obtain⟨Ao,co,At,ct,Af,cf,h0,-⟩:=h;exact⟨Ao,_,co,At,_,ct,Af,cf,h0⟩
theorem dL.below{n:Nat}{w w':World}{v:Value}{o:Say}(h:dL n w v o)(hb:Below w.heap.size w w'):dL n w' v o:=h.keep (Agree.below hb fun _ h=>h.1) hb.size
theorem dL.mk{n:Nat}{w:World}{o:Say}{Ao At Af:Option Addr}{co ct cf:Nat}(ho:aI w (NTy n dS w) (.slice Ao (au o.order).length co) (au o.order))(ht:dH w (NTy n dS w) (.slice At o.tree.length ct) o.tree)(hf:bF w (NTy n dS w) (.slice Af o.facts.length cf) o.facts):
 dL n w (.agg #[.int .i64 o.said,.slice Ao (au o.order).length co,.slice At o.tree.length ct,.slice Af o.facts.length cf]) o:=⟨Ao,co,At,ct,Af,cf,rfl,ho,ht,hf⟩
theorem dL.bR{n g:Nat}{W:World}{v a b c d:Value}{o:Say}{cs:Array Value}(h:dL n W v o)(hk:Blk W g 42 cs)(hn:n≤g):dL n (bR W g a b c d) v o:=
 h.keep (FQ (NTy.not hk (by simp[dS]) hn)) (by rw[Jt];exact Nat.le_refl _)
theorem dL.Ni{n g:Nat}{W:World}{v x y:Value}{o:Say}{cs:Array Value}(h:dL n W v o)(hk:Blk W g 32 cs)(hn:n≤g):dL n ((W.setCell ⟨g,0,none⟩ x).setCell ⟨g,1,none⟩ y) v o:=
 h.keep ((Agree.setCell ⟨g,0,none⟩ (NTy.not hk (by simp[dS]) hn) x).trans (Agree.setCell ⟨g,1,none⟩ (NTy.not hk (by simp[dS]) hn) y)) (by simp only[World.size_setCell];exact Nat.le_refl _)
theorem dL.Qv{n g i:Nat}{W:World}{v x:Value}{o:Say}{cs:Array Value}(h:dL n W v o)(hk:Blk W g 32 cs)(hn:n≤g):dL n (W.setCell ⟨g,i,none⟩ x) v o:=
 h.keep (Agree.setCell ⟨g,i,none⟩ (NTy.not hk (by simp[dS]) hn) x) (by simp only[World.size_setCell];exact Nat.le_refl _)
theorem iC{n g:Nat}{W:World}{o:Say}{a b c d:Value}{cs:Array Value}{Ao At Af:Option Addr}{co ct cf:Nat}(hk:Blk W g 42 cs)(hn:n≤g)(ho:aI W (NTy n dS W) (.slice Ao (au o.order).length co) (au o.order))(ht:dH W (NTy n dS W) (.slice At o.tree.length ct) o.tree)(hf:bF W (NTy n dS W) (.slice Af o.facts.length cf) o.facts):
 dL n (bR W g a b c d) (.agg #[.int .i64 o.said,.slice Ao (au o.order).length co,.slice At o.tree.length ct,.slice Af o.facts.length cf]) o:=(dL.mk ho ht hf).bR hk hn
theorem dL.nil{n:Nat}{w:World}{s:Int}:dL n w (.agg #[.int .i64 s,.slice none 0 0,.slice none 0 0,.slice none 0 0]) ⟨s,[],[],[]⟩:=
 ⟨none,0,none,0,none,0,rfl,aI.nil _ _ _ _,dH.nil _ _ _ _,bF.nil _ _ _ _⟩
def GK(n:Nat)(w:World)(o:Say)(e:Ending)(w':World):Prop:=∃v,e= .returned v∧dL n w' v o∧Below w.heap.size w w'
theorem aS.but{W:World}{base n:Nat}{v:Value}{l:List Int}(h:aS W base v l):aI W (NTy n dS W) v l:=
 SlR.fit (Flat.bE _) (wE (enc:=Go.Inq.encI) (τs:=[3]) h (fun _=>rfl) (by simp)) fun b hb=>NTy.N7 hb (fun t ht=>by rw[List.mem_singleton.1 ht];simp[dS])
theorem aI.kept{W W':World}{n:Nat}{v:Value}{l:List Int}(h:aI W (NTy n dS W) v l)(hb:Below W.heap.size W W'):aI W' (NTy n dS W') v l:=h.keep (Agree.below hb fun _ h=>h.1) fun _ h=>h.below hb
theorem iL{W:World}{g g':Nat}{t:TypeId}{cs:Array Value}{a b c d:Value}(h:Blk W g' t cs)(hg:g'≠g):Blk (Go.Proofs.YtfhnamomiaekdaaGreatDoor.bR W g a b c d) g' t cs:=
 (((h.far (p:=⟨g,0,none⟩) hg a).far (p:=⟨g,1,none⟩) hg b).far (p:=⟨g,2,none⟩) hg c).far (p:=⟨g,3,none⟩) hg d
end Go.Proofs.YtfhnamomiaekdaaGreatDoor
