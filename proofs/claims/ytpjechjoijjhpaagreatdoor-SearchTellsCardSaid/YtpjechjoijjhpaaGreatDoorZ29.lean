/-
  Walks: references 24 and 23: rows of nodes, and of facts, that are the same are told so.
-/
import Derived.BigQuiet
import Derived.StillTailTactics
import Derived.Test.YtpjechjoijjhpaaGreatDoorZ01
import Derived.Test.YtpjechjoijjhpaaGreatDoorZ09
import Derived.Test.YtpjechjoijjhpaaGreatDoorZ03
import Derived.Test.YtpjechjoijjhpaaGreatDoorZ05
import Derived.Test.YtpjechjoijjhpaaGreatDoorZ27
import Derived.Test.YtpjechjoijjhpaaGreatDoorZ28
import Derived.Test.YtpjechjoijjhpaaGreatDoorZ02
import Derived.Test.YtpjechjoijjhpaaGreatDoorZ19
import Derived.Test.YtpjechjoijjhpaaGreatDoorZ07
set_option linter.unusedVariables false
set_option linter.unusedSimpArgs false
namespace Go.Proofs.YtpjechjoijjhpaaGreatDoor
open Go.RowKit Go.Inq
set_option maxHeartbeats 4000000
attribute [local go_sem↓] Go.wp_at_zero Go.wp_at_succ
theorem jX{w:World}{n:Nat}:Below w.heap.size w (w.drewN n):=⟨rfl,rfl,rfl,Nat.le_refl _,fun _ _=>rfl⟩
set_option maxRecDepth 100000 in
theorem xG(A A':Option Addr)(c c':Nat)(l:List Nod)(w:World)(h:aY w (Old w) (.slice A l.length c) l)(h':aY w (Old w) (.slice A' l.length c') l)(hn:tJ l):
 Calls Tryz.prog 33 #[.slice A l.length c,.slice A' l.length c'] w fun e w'=>e= .returned (.bool true)∧Below w.heap.size w w':=by
 have hh:=hide (fun W (hb:Below w.heap.size w W)=>h.below hb);have hh':=hide (fun W (hb:Below w.heap.size w W)=>h'.below hb);have hself:=hide (fun(x:Int)=>show(x !=x)=false by simp);have hl:=hn.1;replace hn:=hide hn;clear h h';go_enter Tryz.func33,Tryz.ntmps33;go_wp2_with fail;go_loopw [5] (fun s5 wr=>∃i:Nat,i≤l.length∧s5= .int .i64 i∧Below w.heap.size w wr) (fun s5 _=>l.length-(intOf s5).toNat);case atStart=>exact⟨0,Nat.zero_le _,by go_num,Below.refl _ _⟩
 case round=>
  obtain⟨i,hi,rfl,hb⟩:=hrel;obtain⟨Wr,rfl⟩:∃Wr,Wr=wr:=⟨_,rfl⟩;have hi0:(0:Int)≤(i:Int):=Int.natCast_nonneg _;by_cases hlt:i<l.length
  ·have hi1:(i:Int)<(l.length:Int):=(by omega);obtain⟨b,off,Ay,cy,rfl,-,d⟩:=(hh.out Wr hb).at_ hlt;obtain⟨b',off',Ay',cy',rfl,-,d'⟩:=(hh'.out Wr hb).at_ hlt;have hd:=hide (fun W (hbW:Below w.heap.size w W)=>(by
    obtain⟨b1,off1,Ay1,cy1,e,-,d1⟩:=(hh.out W hbW).at_ hlt;injection e with e
    injection e with e1 e2
    subst e1 e2;exact⟨Ay1,cy1,d1.d3,d1.cyc⟩:∃Ay cy,W.cell? ⟨b,off+i*4+3,none⟩=some (.slice Ay l[i].cyc.length cy)∧aM W (Old W) (.slice Ay l[i].cyc.length cy) l[i].cyc))
   have hd':=hide (fun W (hbW:Below w.heap.size w W)=>(by
    obtain⟨b1,off1,Ay1,cy1,e,-,d1⟩:=(hh'.out W hbW).at_ hlt;injection e with e
    injection e with e1 e2
    subst e1 e2;exact⟨Ay1,cy1,d1.d3,d1.cyc⟩:∃Ay cy,W.cell? ⟨b',off'+i*4+3,none⟩=some (.slice Ay l[i].cyc.length cy)∧aM W (Old W) (.slice Ay l[i].cyc.length cy) l[i].cyc))
   have hcn:=hn.out.2 _ (List.getElem_mem hlt);obtain⟨d0,d1,d2,d3,-⟩:=d;obtain⟨e0,e1,e2,e3,-⟩:=d';generalize l[i]=x at*;obtain⟨⟨xk,xa,xb⟩,xc⟩:=x;dsimp only at d0 d1 d2 d3 e0 e1 e2 e3 hd hd' hcn;go_upto_region 6 with fail;go_quiet (fail);go_wp2;go_loopw [6] (fun s6 wr=>∃j:Nat,j≤xc.length∧s6= .int .i64 j∧Below w.heap.size w wr) (fun s6 _=>xc.length-(intOf s6).toNat);case atStart=>exact⟨0,Nat.zero_le _,by go_num,hb.trans (jX.mono hb.size)⟩
   case round=>
    clear hb d0 d1 d2 d3 e0 e1 e2 e3;obtain⟨j,hj,rfl,hb⟩:=hrel;obtain⟨Wj,rfl⟩:∃Wj,Wj=wr:=⟨_,rfl⟩;have hj0:(0:Int)≤(j:Int):=Int.natCast_nonneg _;obtain⟨Ay2,cy2,d3,hy⟩:=hd.out Wj hb;obtain⟨Ay3,cy3,e3,hz⟩:=hd'.out Wj hb;by_cases hlt2:j<xc.length
    ·have hj1:(j:Int)<(xc.length:Int):=(by omega);obtain⟨b2,off2,rfl,-,r0⟩:=aM.at_ hy hlt2;obtain⟨b3,QC,rfl,-,r1⟩:=aM.at_ hz hlt2;generalize xc[j]=y at*;have q0:=hself.out y;clear hy hz hd hd';go_wp2;go_quiet (fail);go_wp2;go_roundw;case rel=>exact⟨j+1,by omega,by go_num,hb.trans (jX.mono hb.size)⟩
     case measure=>simp[intOf]<;>omega
    ·obtain rfl:j=xc.length:=(by omega);clear hy hz hd hd';go_wp2;go_roundw;case rel=>exact⟨i+1,by omega,by go_num,hb⟩
     case measure=>simp[intOf]<;>omega
  ·obtain rfl:i=l.length:=(by omega);go_wp2;go_ret;exact⟨rfl,hb⟩
set_option maxRecDepth 100000 in
theorem FV(A A':Option Addr)(c c':Nat)(l:List Fct)(w:World)(h:bM w (Old w) (.slice A l.length c) l)(h':bM w (Old w) (.slice A' l.length c') l)(hn:tH l):
 Calls Tryz.prog 35 #[.slice A l.length c,.slice A' l.length c'] w fun e w'=>e= .returned (.bool true)∧Below w.heap.size w w':=by
 have hh:=hide (fun W (hb:Below w.heap.size w W)=>h.below hb);have hh':=hide (fun W (hb:Below w.heap.size w W)=>h'.below hb);have hself:=hide (fun(x:Int)=>show(x !=x)=false by simp);have hl:=hn.1;replace hn:=hide hn;clear h h';go_enter Tryz.func35,Tryz.ntmps35;go_wp2_with fail;go_loopw [5] (fun s5 wr=>∃i:Nat,i≤l.length∧s5= .int .i64 i∧Below w.heap.size w wr) (fun s5 _=>l.length-(intOf s5).toNat);case atStart=>exact⟨0,Nat.zero_le _,by go_num,Below.refl _ _⟩
 case round=>
  obtain⟨i,hi,rfl,hb⟩:=hrel;obtain⟨Wr,rfl⟩:∃Wr,Wr=wr:=⟨_,rfl⟩;have hi0:(0:Int)≤(i:Int):=Int.natCast_nonneg _;by_cases hlt:i<l.length
  ·have hi1:(i:Int)<(l.length:Int):=(by omega);obtain⟨b,off,Ay,cy,rfl,-,d⟩:=(hh.out Wr hb).at_ hlt;have hcn:=hn.out.2 _ (List.getElem_mem hlt);have hat:=hide (fun W (hbW:Below w.heap.size w W)=>(hh'.out W hbW).at_ hlt);obtain⟨d0,d1,d2,d3,d4,d5,d6,dy⟩:=d;generalize l[i]=x at*;obtain⟨⟨xk,xa,xb⟩,xd,xi,xj,xc⟩:=x;dsimp only at d0 d1 d2 d3 d4 d5 d6 dy hcn;go_upto_region 7 with fail;obtain⟨W1,hW1⟩:∃W1,Wr.alloc (.cells #[.int .i64 xk,.int .i64 xa,.int .i64 xb,.int .i64 xd,.int .i64 xi,.int .i64 xj,.slice Ay xc.length cy] 73)=W1:=⟨_,rfl⟩;rw[hW1];have hb1:=ah hb hW1 hb.size;have kx:=Blk.newEq hW1;have UA:Below Wr.heap.size Wr W1:=ah (Below.refl _ _) hW1 (Nat.le_refl _);have hy1:=hide (fun W (hbW:Below W1.heap.size W1 W)=>(aM.below (aM.below dy UA) hbW));obtain⟨b',off',Ay',cy',rfl,-,d'⟩:=hat.out W1 hb1;obtain⟨e0,e1,e2,e3,e4,e5,e6,ey⟩:=d';dsimp only at e0 e1 e2 e3 e4 e5 e6 ey;clear d0 d1 d2 d3 d4 d5 d6 dy hW1;go_upto_region 8 with fail;obtain⟨W2,hW2⟩:∃W2,W1.alloc (.cells #[.int .i64 xk,.int .i64 xa,.int .i64 xb,.int .i64 xd,.int .i64 xi,.int .i64 xj,.slice Ay' xc.length cy'] 73)=W2:=⟨_,rfl⟩;rw[hW2];have hb2:=ah hb1 hW2 hb1.size;have ky:=Blk.newEq hW2;have yj:Below W1.heap.size W1 W2:=ah (Below.refl _ _) hW2 (Nat.le_refl _);have hy2:=hide (hy1.out W2 yj);have hz2:=hide (aM.below ey yj);replace kx:=kx.below yj kx.lt;have s0:=Blk.n0 kx;have s1:=Blk.n1 kx;have s2:=Blk.n2 kx;have s3:=Blk.n3 kx;have s4:=Blk.n4 kx;have s5:=Blk.n5 kx;have s6:=Blk.n6 kx;have t0:=Blk.n0 ky;have t1:=Blk.n1 ky;have t2:=Blk.n2 ky;have t3:=Blk.n3 ky;have t4:=Blk.n4 ky;have t5:=Blk.n5 ky;have t6:=Blk.n6 ky;have q1:=hself.out xd;have q2:=hself.out xi;have q3:=hself.out xj;clear e0 e1 e2 e3 e4 e5 e6 ey hb hb1 UA yj hy1 hW2 hat;go_wp2_with fail;go_loopw [8] (fun s8 wr=>∃j:Nat,j≤xc.length∧s8= .int .i64 j∧Below W2.heap.size W2 wr) (fun s8 _=>xc.length-(intOf s8).toNat);case atStart=>exact⟨0,Nat.zero_le _,by go_num,Below.refl _ _⟩
   case round=>
    clear s0 s1 s2 s3 s4 s5 s6 t0 t1 t2 t3 t4 t5 t6 q1 q2 q3;obtain⟨j,hj,rfl,hbj⟩:=hrel;obtain⟨Wj,rfl⟩:∃Wj,Wj=wr:=⟨_,rfl⟩;have hj0:(0:Int)≤(j:Int):=Int.natCast_nonneg _;have s6:=Blk.n6 (kx.below hbj kx.lt);have t6:=Blk.n6 (ky.below hbj ky.lt);have hbw:=hb2.trans (hbj.mono hb2.size);by_cases hlt2:j<xc.length
    ·have hj1:(j:Int)<(xc.length:Int):=(by omega);obtain⟨b2,off2,rfl,-,r0⟩:=aM.at_ (aM.below hy2.out hbj) hlt2;obtain⟨b3,QC,rfl,-,r1⟩:=aM.at_ (aM.below hz2.out hbj) hlt2;generalize xc[j]=y at*;have q0:=hself.out y;clear hbw;go_wp2;go_quiet (fail);go_wp2;go_roundw;case rel=>exact⟨j+1,by omega,by go_num,hbj.trans (jX.mono hbj.size)⟩
     case measure=>simp[intOf]<;>omega
    ·obtain rfl:j=xc.length:=(by omega);go_wp2;go_roundw;case rel=>exact⟨i+1,by omega,by go_num,hbw⟩
     case measure=>simp[intOf]<;>omega
  ·obtain rfl:i=l.length:=(by omega);go_wp2;go_ret;exact⟨rfl,hb⟩
set_option maxHeartbeats 1000000
def uT(w:World)(v:Value)(o:Say):Prop:=∃Ao co At ct Af cf,v= .agg #[.int .i64 o.said,.slice Ao (au o.order).length co,.slice At o.tree.length ct,.slice Af o.facts.length cf]∧aM w (Old w) (.slice Ao (au o.order).length co) (au o.order)∧aY w (Old w) (.slice At o.tree.length ct) o.tree∧bM w (Old w) (.slice Af o.facts.length cf) o.facts
theorem uT.below{w w':World}{v:Value}{o:Say}(h:uT w v o)(hb:Below w.heap.size w w'):uT w' v o:=by
 obtain⟨Ao,co,At,ct,Af,cf,h1,h2,h3,h4⟩:=h;exact⟨Ao,co,At,ct,Af,cf,h1,h2.below hb,h3.below hb,h4.below hb⟩
def UC(o:Say):Prop:=o.order.length≤1000000∧tJ o.tree∧tH o.facts
set_option maxRecDepth 100000 in
theorem FW(v v':Value)(r:Say)(w:World)(h:uT w v r)(h':uT w v' r)(hf:UC r):
 Calls Tryz.prog 11 #[v,v'] w fun e w'=>e= .returned (.bool true)∧Below w.heap.size w w':=by
 obtain⟨h1,h2,h3⟩:=hf;obtain⟨Ao,co,At,ct,Af,cf,rfl,ho,ht,hf⟩:=h;obtain⟨Ao',co',At',ct',Af',cf',rfl,ho',ht',hf'⟩:=h';obtain⟨sd,od,tr,fa⟩:=r;dsimp only at*;have hno:(au od).length≤1000000:=(by rw[aR];exact h1);generalize au od=ol at*;obtain⟨W0,hW0⟩:∃W0,(w.alloc (.cells #[.int .i64 sd,.slice Ao ol.length co,.slice At tr.length ct,.slice Af fa.length cf] 43)).alloc (.cells #[.int .i64 sd,.slice Ao' ol.length co',.slice At' tr.length ct',.slice Af' fa.length cf'] 43)=W0:=⟨_,rfl⟩;have hb:=aF hW0;have k0:=Blk.fG hW0;have k1:=Blk.eP hW0;have hc:=hide (NP Ao Ao' co co' ol ol W0 (ho.below hb) (ho'.below hb) hno hno);have hct:=hide (fun W (hb:Below w.heap.size w W)=>xG At At' ct ct' tr W (ht.below hb) (ht'.below hb) h2);have hcf:=hide (fun W (hb:Below w.heap.size w W)=>FV Af Af' cf cf' fa W (hf.below hb) (hf'.below hb) h3);have a1:=Blk.n1 k0;have b1:=Blk.n1 k1;have hself:(sd==sd)=true:=(by simp);clear h1 h2 h3 ho ho' ht ht' hf hf';go_enter Tryz.func11,Tryz.ntmps11;go_wp2_with fail;clear hW0;refine Calls.mono hc.out ?_;rintro e w1 ⟨rfl,hb1⟩;replace k0:=k0.below hb1 k0.lt;replace k1:=k1.below hb1 k1.lt;have hb2:=hb.trans (hb1.mono hb.size);clear hc a1 b1 hb1 hb;have a2:=Blk.n2 k0;have b2:=Blk.n2 k1;have hc2:=hide (hct.out w1 hb2);simp only[decide_true];go_wp2_with fail;refine Calls.mono hc2.out ?_;rintro e w2 ⟨rfl,hb3⟩;replace k0:=k0.below hb3 k0.lt;replace k1:=k1.below hb3 k1.lt;replace hb2:=hb2.trans (hb3.mono hb2.size);clear hc2 hct a2 b2 hb3;have a3:=Blk.n3 k0;have b3:=Blk.n3 k1;have hc3:=hide (hcf.out w2 hb2);go_wp2_with fail;refine Calls.mono hc3.out ?_;rintro e w3 ⟨rfl,hb4⟩;replace k0:=k0.below hb4 k0.lt;replace k1:=k1.below hb4 k1.lt;replace hb2:=hb2.trans (hb4.mono hb2.size);have a0:=Blk.n0 k0;have b0:=Blk.n0 k1;clear hc3 hcf a3 b3 hb4;go_wp2;go_ret;exact⟨rfl,hb2⟩
end Go.Proofs.YtpjechjoijjhpaaGreatDoor
namespace Go.Inq
open Go Go.RowKit
def NTy(n:Nat)(τs:List TypeId)(W:World):Nat→Prop:=fun b=>b<W.heap.size∧(b<n∨∃t cs,Blk W b t cs∧t∈τs)
section
variable{n:Nat}{τs:List TypeId}{W W':World}{b:Nat}
theorem NTy.step(h:NTy n τs W b)(he:W'.heap[b]?=W.heap[b]?)(hs:W.heap.size≤W'.heap.size):NTy n τs W' b:=
 ⟨Nat.lt_of_lt_of_le h.1 hs,h.2.imp id fun⟨t,cs,hk,ht⟩=>⟨t,cs,he.trans hk,ht⟩⟩
theorem NTy.below(h:NTy n τs W b)(hb:Below W.heap.size W W'):NTy n τs W' b:=h.step (hb.block b h.1) hb.size
theorem NTy.bP{t:TypeId}{cs:Array Value}(h:Blk W b t cs)(ht:t∈τs):NTy n τs W b:=⟨h.lt,.inr ⟨t,cs,h,ht⟩⟩
theorem NTy.not{t:TypeId}{cs:Array Value}(h:Blk W b t cs)(ht:t∉τs)(hn:n≤b):¬NTy n τs W b:=fun k=>by
 rcases k.2 with k|k
 ·omega
 ·obtain⟨t',cs',h',ht'⟩:=k;have h1:=(show W.heap[b]?=_ from h).symm.trans h';simp only[Option.some.injEq,Obj.cells.injEq]at h1;exact ht (h1.2.1▸ht')
theorem NTy.Rt{base:Nat}{σ:List TypeId}(h:TyK base σ W b)(hσ:∀t∈σ,t∈τs):NTy n τs W b:=by
 obtain⟨-,t,ht,cs,hk⟩:=h;exact NTy.bP hk (hσ t ht)
end
def KB(n:Nat)(τs:List TypeId)(W:World)(v:Value):Nat→Prop:=fun b=>NTy n τs W b∧v.ownBlock≠some b
def gF{α:Type}(size:Nat)(R:World→(Nat→Prop)→List Value→α→Prop)(n:Nat)(τs:List TypeId)(W:World)(base:Nat)(e:TypeId)(v:Value)(l:List α):Prop:=aJ size R W (KB n τs W v) base e v l
section
variable{α:Type}{size:Nat}{R:World→(Nat→Prop)→List Value→α→Prop}{n:Nat}{τs:List TypeId}{W W':World}{base:Nat}{e:TypeId}{v:Value}{l:List α}
theorem gF.nil(size:Nat)(R:World→(Nat→Prop)→List Value→α→Prop)(n:Nat)(τs:List TypeId)(W:World)(base:Nat)(e:TypeId):gF size R n τs W base e (.slice none 0 0) []:=aJ.nil _ _ _ _ _ _
theorem gF.form(h:gF size R n τs W base e v l):∃A c,v= .slice A l.length c:=aJ.form h
theorem gF.lt(h:gF size R n τs W base e v l)(g:Nat)(hg:v.ownBlock=some g):base≤g∧g<W.heap.size:=aJ.lt h g hg
theorem gF.below(hR:jR R)(h:gF size R n τs W base e v l)(hb:Below W.heap.size W W'):gF size R n τs W' base e v l:=
 aJ.keep hR h (Agree.below hb fun _ g=>g.1.1) (fun _ g=>⟨g.1.below hb,g.2⟩) fun g hg=>hb.block g (h.lt g hg).2
theorem gF.s(hR:jR R)(h:gF size R n τs W base e v l)(he:e∈τs):SlR size R W (NTy n τs W) v l:=
 (aJ.keep hR h (Agree.refl _ _) (fun _ g=>g.1) fun _ _=>rfl:aJ size R W (NTy n τs W) base e v l).sl fun g hg=>by
  obtain⟨cs,h3⟩:=aJ.blk h hg;exact NTy.bP h3 he
theorem KB.old{w:World}(h:gF size R n τs W base e v l)(hB:w.heap.size≤base)(hb:Below w.heap.size w W):∀b,NTy n τs w b→KB n τs W v b:=fun b g=>⟨g.below hb,fun e=>by have:=(h.lt b e).1;have:=g.1;omega⟩
theorem KB.new{σ:List TypeId}{base':Nat}(h:gF size R n τs W base e v l)(hσ:∀t∈σ,t∈τs)(hb:W.heap.size≤base'){b:Nat}(h1:TyK base' σ W' b):KB n τs W' v b:=⟨NTy.Rt h1 hσ,fun e=>by have:=(h.lt b e).2;have:=h1.1;omega⟩
end
section
variable{P:Program}{W:World}{ops:Array Oper}{rest:List Oper}{o:Oper}{a:Act}{Q:Exit→Act→World→Prop}{α:Type}{R:World→(Nat→Prop)→List Value→α→Prop}{n:Nat}{τs:List TypeId}
theorem fE (hR:jR R) (hone:∀w K cs x,R w K cs x→∀u∈cs,u.oneCell'=true)
 (hgd:o.guard=none) (s x:Operand) (t:TypeId) (ho:o.op= .call {callee:= .builtin .append,args:=#[s,x],argTypes:=#[t,t]})
 (base:Nat) (e:TypeId) (i:TypeInfo) (z:Value) (size bytes:Nat) (ht:P.underlying t=some (.slice e)) (hi:P.info? e=some i) (hz:i.zero=some z)
 (hsize:i.size=size) (hby:i.bytes=bytes) (hzs:z.cells.size=size) (hsz:0<size)
 (v:Value) (l:List α) (hs:a.eval s=v) (hown:gF size R n τs W base e v l)
 (vx:Value) (l2:List α) (hx:a.eval x=vx) (hsrc:SlR size R W (KB n τs W v) vx l2)
 (h63:l.length+l2.length≤maxLen) (hbytes:(l.length+l2.length)*bytes≤140737488355328) (hbase:base≤W.heap.size) (he:e∈τs) (w0:World) (B:Nat) (hB:B≤base) (hb:Below B w0 W)
 (h:∀v' w',gF size R n τs w' base e v' (l++l2)→Below B w0 w'→W.grownBy w' v.ownBlock→wpList P ops Q rest (a.put o.dst v') w'):
 wpList P ops Q (o::rest) a W:=by
 have fH:=fun g hg=>hown.lt g hg;refine bB (R:=R) hgd s x t ho base e i z size bytes ht hi hz hsize hby hzs hsz v (KB n τs W v) l hs hown vx l2 hx hsrc (fun cs x h=>hone _ _ cs x h) h63 hbytes hbase (fun w' hg cs x hx=>hR _ _ _ _ _ _ hx (Agree.grown hg (fun b hb=>⟨hb.1.1,fun e=>hb.2 e.symm⟩)) (fun _ h=>h)) ?_;intro v7 W7 hO7 hg7 mg;have hs7:=hg7.size;have hs0:=hb.size;refine h v7 W7 (aJ.keep hR hO7 (Agree.refl _ _) (fun b hb=>⟨hb.1.step (hg7.block b hb.1.1 fun e=>hb.2 e.symm) hs7,fun e=>by
  rcases mg with e'|e'
  ·exact hb.2 (e'▸e)
  ·rw[e']at e;injection e with e;have:=hb.1.1;omega⟩) fun _ _=>rfl) (below_grown hb hg7 (by omega) (fun j e=>by have:=(fH j e).1;omega)) hg7
theorem iV (hR:jR R) (hone:∀w K cs x,R w K cs x→∀u∈cs,u.oneCell'=true)
 (hgd:o.guard=none) (s x:Operand) (t:TypeId) (ho:o.op= .call {callee:= .builtin .append,args:=#[s,x],argTypes:=#[t,t]})
 (base:Nat) (e:TypeId) (i:TypeInfo) (z:Value) (size bytes:Nat) (ht:P.underlying t=some (.slice e)) (hi:P.info? e=some i) (hz:i.zero=some z)
 (hsize:i.size=size) (hby:i.bytes=bytes) (hzs:z.cells.size=size) (hsz:0<size)
 (v:Value) (l:List α) (hs:a.eval s=v) (hown:gF size R n τs W base e v l)
 (cs:Array Value) (x0:α) (hcs:cs.size=size) (hrow:R W (KB n τs W v) cs.toList x0)
 (hx:a.eval x= .slice (some ⟨W.heap.size,0,none⟩) 1 1)
 (h63:l.length+1≤maxLen) (hbytes:(l.length+1)*bytes≤140737488355328) (hbase:base≤W.heap.size) (he:e∈τs) (w0:World) (B:Nat) (hB:B≤base) (hb:Below B w0 W)
 (h:∀v' w',gF size R n τs w' base e v' (l++[x0])→Below B w0 w'→W.grownBy w' v.ownBlock→wpList P ops Q rest (a.put o.dst v') w'):
 wpList P ops Q (o::rest) a (W.alloc (.cells cs e)):=by
 obtain⟨W2,hW2⟩:∃W2,W.alloc (.cells cs e)=W2:=⟨_,rfl⟩;rw[hW2];have kN:=Blk.newEq hW2;have hB2:=ah (Below.refl W.heap.size W) hW2 (Nat.le_refl _);have hs2:W2.heap.size=W.heap.size+1:=aB hW2;have fH:=fun g hg=>hown.lt g hg;have hs0:=hb.size;have hbl:B≤W.heap.size:=(by omega);have hsrc:SlR size R W2 (KB n τs W2 v) (.slice (some ⟨W.heap.size,0,none⟩) 1 1) [x0]:=
  SlR.one kN hcs (hR _ _ _ _ _ _ hrow (Agree.below hB2 fun _ g=>g.1.1) (fun _ g=>⟨g.1.below hB2,g.2⟩)) ⟨NTy.bP kN he,fun e=>by have:=(fH _ e).2;omega⟩
 refine fE hR hone hgd s x t ho base e i z size bytes ht hi hz hsize hby hzs hsz v l hs (hown.below hR hB2) _ [x0] hx hsrc h63 hbytes (by omega) he w0 B hB (hb.trans (hB2.mono hbl)) ?_;intro v7 W7 hO hb7 hg7;exact h v7 W7 hO hb7 (ak (bW hB2 (Nat.le_refl _)) hg7)
end
end Go.Inq
namespace Go.Proofs.YtpjechjoijjhpaaGreatDoor
open Go.RowKit Go.Inq
set_option maxHeartbeats 1000000
section
variable{W:World}{g:Nat}{t:TypeId}{a b c d x y z u:Value}
theorem jw(h:Blk W g t #[x,y,z,u]):Blk (fA W g a b c d) g t #[a,b,c,d]:=(((h.aH 0 a).aH 1 b).aH 2 c).aH 3 d
theorem sQ{K:Nat→Prop}(hk:¬K g):Agree K W (fA W g a b c d):=
 (((Agree.setCell ⟨g,0,none⟩ hk a).trans (Agree.setCell ⟨g,1,none⟩ hk b)).trans (Agree.setCell ⟨g,2,none⟩ hk c)).trans (Agree.setCell ⟨g,3,none⟩ hk d)
theorem CU:(fA W g a b c d).heap.size=W.heap.size:=by
 unfold fA;simp only[World.size_setCell]
end
def fI:List TypeId:=[3,93,73]
def jc(n:Nat)(w:World)(v:Value)(o:Say):Prop:=∃Ao co At ct Af cf,v= .agg #[.int .i64 o.said,.slice Ao (au o.order).length co,.slice At o.tree.length ct,.slice Af o.facts.length cf]∧aM w (NTy n fI w) (.slice Ao (au o.order).length co) (au o.order)∧aY w (NTy n fI w) (.slice At o.tree.length ct) o.tree∧bM w (NTy n fI w) (.slice Af o.facts.length cf) o.facts
theorem jc.s{n:Nat}{w:World}{v:Value}{o:Say}(h:jc n w v o):uT w v o:=by
 obtain⟨Ao,co,At,ct,Af,cf,h0,h1,h2,h3⟩:=h;exact⟨Ao,co,At,ct,Af,cf,h0,h1.fit (fun _ h=>h.1),h2.fit (fun _ h=>h.1),h3.fit (fun _ h=>h.1)⟩
theorem jc.keep{n:Nat}{w w':World}{v:Value}{o:Say}(h:jc n w v o)(ha:Agree (NTy n fI w) w w')(hs:w.heap.size≤w'.heap.size):jc n w' v o:=by
 obtain⟨Ao,co,At,ct,Af,cf,h0,h1,h2,h3⟩:=h;have hk:∀b,NTy n fI w b→NTy n fI w' b:=fun b g=>g.step (ha b g) hs;exact⟨Ao,co,At,ct,Af,cf,h0,h1.keep ha hk,h2.keep ha hk,h3.keep ha hk⟩
theorem jc.form{n:Nat}{w:World}{v:Value}{o:Say}(h:jc n w v o):∃Ao no co At nt ct Af cf,v= .agg #[.int .i64 o.said,.slice Ao no co,.slice At nt ct,.slice Af o.facts.length cf]:=by
 obtain⟨Ao,co,At,ct,Af,cf,h0,-⟩:=h;exact⟨Ao,_,co,At,_,ct,Af,cf,h0⟩
theorem jc.below{n:Nat}{w w':World}{v:Value}{o:Say}(h:jc n w v o)(hb:Below w.heap.size w w'):jc n w' v o:=h.keep (Agree.below hb fun _ h=>h.1) hb.size
theorem jc.mk{n:Nat}{w:World}{o:Say}{Ao At Af:Option Addr}{co ct cf:Nat}(ho:aM w (NTy n fI w) (.slice Ao (au o.order).length co) (au o.order))(ht:aY w (NTy n fI w) (.slice At o.tree.length ct) o.tree)(hf:bM w (NTy n fI w) (.slice Af o.facts.length cf) o.facts):
 jc n w (.agg #[.int .i64 o.said,.slice Ao (au o.order).length co,.slice At o.tree.length ct,.slice Af o.facts.length cf]) o:=⟨Ao,co,At,ct,Af,cf,rfl,ho,ht,hf⟩
theorem jc.fA{n g:Nat}{W:World}{v a b c d:Value}{o:Say}{cs:Array Value}(h:jc n W v o)(hk:Blk W g 43 cs)(hn:n≤g):jc n (fA W g a b c d) v o:=
 h.keep (sQ (NTy.not hk (by simp[fI]) hn)) (by rw[CU];exact Nat.le_refl _)
theorem CV{n g:Nat}{W:World}{o:Say}{a b c d:Value}{cs:Array Value}{Ao At Af:Option Addr}{co ct cf:Nat}(hk:Blk W g 43 cs)(hn:n≤g)(ho:aM W (NTy n fI W) (.slice Ao (au o.order).length co) (au o.order))(ht:aY W (NTy n fI W) (.slice At o.tree.length ct) o.tree)(hf:bM W (NTy n fI W) (.slice Af o.facts.length cf) o.facts):
 jc n (fA W g a b c d) (.agg #[.int .i64 o.said,.slice Ao (au o.order).length co,.slice At o.tree.length ct,.slice Af o.facts.length cf]) o:=(jc.mk ho ht hf).fA hk hn
theorem jc.nil{n:Nat}{w:World}{s:Int}:jc n w (.agg #[.int .i64 s,.slice none 0 0,.slice none 0 0,.slice none 0 0]) ⟨s,[],[],[]⟩:=
 ⟨none,0,none,0,none,0,rfl,aM.nil _ _ _ _,aY.nil _ _ _ _,bM.nil _ _ _ _⟩
theorem bA.but{W:World}{base n:Nat}{v:Value}{l:List Int}(h:bA W base v l):aM W (NTy n fI W) v l:=
 SlR.fit (Flat.aS _) (Dn (enc:=Go.Inq.encI) (τs:=[3]) h (fun _=>rfl) (by simp)) fun b hb=>NTy.Rt hb (fun t ht=>by rw[List.mem_singleton.1 ht];simp[fI])
theorem aM.kept{W W':World}{n:Nat}{v:Value}{l:List Int}(h:aM W (NTy n fI W) v l)(hb:Below W.heap.size W W'):aM W' (NTy n fI W') v l:=h.keep (Agree.below hb fun _ h=>h.1) fun _ h=>h.below hb
end Go.Proofs.YtpjechjoijjhpaaGreatDoor
namespace Go.Proofs.YtpjechjoijjhpaaGreatDoor
open Go.RowKit Go.Inq
set_option maxHeartbeats 8000000
attribute [local go_sem↓] Go.wp_at_zero Go.wp_at_succ
theorem Me{W:World}{g n0:Nat}{t:TypeId}{a b c d x y z u:Value}(h:Blk W g t #[x,y,z,u])(hg:n0≤g):TyW n0 [t] W (fA W g a b c d):=
 (((TyW.put h hg (by simp) a).trans (TyW.put (h.aH 0 a) hg (by simp) b)).trans (TyW.put ((h.aH 0 a).aH 1 b) hg (by simp) c)).trans (TyW.put (((h.aH 0 a).aH 1 b).aH 2 c) hg (by simp) d)
def UD(base:Nat)(w0:World)(L:List Nod):Wrd:=⟨[93],fun v W=>∃A c,∃M:List oh,v= .slice A L.length c∧W.ownsRow base 93 4 (.slice A L.length c) M.length (M.map lF).flatten∧fQ (Old w0) w0 M L,fun _ _ _ _ _ h hT k=>by
 obtain⟨A,c,M,h1,h2,h3⟩:=k;exact⟨A,c,M,h1,hT.own h2 (h _ (by simp)),h3⟩⟩
def UE(base:Nat)(w0:World)(L:List Fct):Wrd:=⟨[73],fun v W=>∃A c,∃M:List og,v= .slice A L.length c∧W.ownsRow base 73 7 (.slice A L.length c) M.length (M.map sP).flatten∧iI (Old w0) w0 M L,fun _ _ _ _ _ h hT k=>by
 obtain⟨A,c,M,h1,h2,h3⟩:=k;exact⟨A,c,M,h1,hT.own h2 (h _ (by simp)),h3⟩⟩
def UF(base:Nat)(w0:World)(s:Int)(vo:Value)(T:List Nod)(L:List Fct):Wrd:=⟨[93,73],fun v W=>∃A c,∃M:List oh,∃A2 c2,∃M2:List og,v= .agg #[.int .i64 s,vo,.slice A T.length c,.slice A2 L.length c2]∧W.ownsRow base 93 4 (.slice A T.length c) M.length (M.map lF).flatten∧fQ (Old w0) w0 M T∧W.ownsRow base 73 7 (.slice A2 L.length c2) M2.length (M2.map sP).flatten∧iI (Old w0) w0 M2 L,fun _ _ _ _ _ h hT k=>by
 obtain⟨A,c,M,A2,c2,M2,h1,h2,h3,h4,h5⟩:=k;exact⟨A,c,M,A2,c2,M2,h1,hT.own h2 (h _ (by simp)),h3,hT.own h4 (h _ (by simp)),h5⟩⟩
def UG(base:Nat)(w0:World)(p:Nat)(s:Int)(vo:Value)(T:List Nod)(L:List Fct):Wrd:=⟨[43,93,73],fun _ W=>∃A c,∃M:List oh,∃A2 c2,∃M2:List og,Blk W p 43 #[.int .i64 s,vo,.slice A T.length c,.slice A2 L.length c2]∧W.ownsRow base 93 4 (.slice A T.length c) M.length (M.map lF).flatten∧fQ (Old w0) w0 M T∧W.ownsRow base 73 7 (.slice A2 L.length c2) M2.length (M2.map sP).flatten∧iI (Old w0) w0 M2 L,fun _ _ _ _ _ h hT k=>by
 obtain⟨A,c,M,A2,c2,M2,h1,h2,h3,h4,h5⟩:=k;exact⟨A,c,M,A2,c2,M2,hT.blk h1 (h _ (by simp)),hT.own h2 (h _ (by simp)),h3,hT.own h4 (h _ (by simp)),h5⟩⟩
set_option maxRecDepth 100000 in
theorem Mf(o:Say)(v:Value)(w:World)(h:uT w v o)(hf2:o.tree.length≤1000000)(hf3:o.facts.length≤1000000):
 Calls Tryz.prog 12 #[v] w fun e w'=>∃v',e= .returned v'∧uT w' v' o∧Below w.heap.size w w':=by
 obtain⟨Ao,co,At,ct,Af,cf,rfl,hO,hN,hF⟩:=h;obtain⟨sd,od,tr,fa⟩:=o;dsimp only at*;obtain⟨ol,hol⟩:∃ol,au od=ol:=⟨_,rfl⟩;rw[hol]at hO⊢;replace hol:=hide hol;obtain⟨no,hno⟩:∃no,ol.length=no:=⟨_,rfl⟩;rw[hno]at hO⊢;obtain⟨W0,hW0⟩:∃W0,(w.alloc (.cells #[.int .i64 sd,.slice Ao no co,.slice At tr.length ct,.slice Af fa.length cf] 38)).alloc (.cells #[.int .i64 0,.slice none 0 0,.slice none 0 0,.slice none 0 0] 43)=W0:=⟨_,rfl⟩;have hbA:=aF hW0;have k0:=Blk.fG hW0;have kr:=Blk.eP hW0;replace hO:=hide hO;replace hN:=hide hN;replace hF:=hide hF;have hfn:=hide hf3;have htn:=hide hf2;replace hno:=hide hno;clear hf3 hf2;go_enter Tryz.func12,Tryz.ntmps12;go_upto_region 1 with fail;try rw[hW0]
 clear hW0;refine cZ w.heap.size [wV (.pointer (some ⟨w.heap.size,0,none⟩)),wV (.int .i64 sd),wV (.pointer (some ⟨w.heap.size,1,none⟩)),wV (.slice Ao no co),wV (.pointer (some ⟨w.heap.size,2,none⟩)),wV (.slice At tr.length ct),UD w.heap.size w tr,wV (.pointer (some ⟨w.heap.size,3,none⟩)),wV (.slice Af fa.length cf),UE w.heap.size w fa,UF w.heap.size w sd (.slice Ao no co) tr fa,UG w.heap.size w (w.heap.size+1) sd (.slice Ao no co) tr fa,wK (w.heap.size+1) 43 #[.int .i64 0,.slice none 0 0,.slice none 0 0,.slice none 0 0]] [[],[0],[],[2],[],[4],[5],[],[7],[8],[1,3,6,9],[10,12]] [[],[],[],[],[],[],[],[],[],[],[],[43]] [[],[],[],[],[],[],[93],[],[],[73],[93,73],[43,93,73],[43]] [] [43] hbA.size (by kernel_rfl) (by kernel_rfl) (by kernel_rfl) (by kernel_rfl) (by kernel_rfl) (by kernel_rfl) rfl ⟨fun _=>kr,trivial⟩ (by kernel_rfl) (by kernel_rfl) ?hstep ?hend;case hstep=>
  simp only[iO,gW,RsT,acV,wV,wO,wS,wB,wU,wX,wK,wA,wB,UD,UE,UF,UG,cK,gA,gZ,gS,List.getD_cons_zero,List.getD_cons_succ,List.getD_nil,Act.put,sA,sZ,sS,Nat.zero_add,Nat.reduceAdd,if_true,and_true];refine⟨?_,?_,?_,?_,?_,?_,?o6,?_,?_,?o9,?o10,?o11⟩;all_goals intro vs W R hR hT hd
  all_goals have hsz:=Nat.le_trans hbA.size hT.size
  all_goals have hbW:=hbA.trans hT.below
  all_goals have kq:=hT.blk k0 (by decide)
  all_goals have c0:=kq.cell 0
  all_goals have c1:=kq.cell 1
  all_goals have c2:=kq.cell 2
  all_goals have c3:=kq.cell 3
  all_goals simp only[gA,gZ,gS]at c0 c1 c2 c3
  case o6=>
   rw[hd];go_wp2_with fail;refine(xD (Old w) At ct tr W (fun b h=>Nat.lt_of_lt_of_le h hbW.size) (aY.keep hN.out (Agree.below hbW fun b h=>h) (fun b h=>h)) htn.out).mono ?_;rintro e W2 ⟨A',c',M,rfl,ho,hc,hb2⟩;replace ho:=hide ho;replace hc:=hide hc;go_wp2;exact⟨rfl,_,rfl,hR _ _ ⟨A',c',M,rfl,bO ho.out hsz,hc.out.keep (fun b hb=>(hbW.block b hb).symm)⟩ (TyW.calm hb2 hsz)⟩
  case o9=>
   rw[hd];go_wp2_with fail;refine(xE (Old w) Af cf fa W (fun b h=>Nat.lt_of_lt_of_le h hbW.size) (bM.keep hF.out (Agree.below hbW fun b h=>h) (fun b h=>h)) hfn.out).mono ?_;rintro e W2 ⟨A',c',M,rfl,ho,hc,hb2⟩;replace ho:=hide ho;replace hc:=hide hc;go_wp2;exact⟨rfl,_,rfl,hR _ _ ⟨A',c',M,rfl,bO ho.out hsz,hc.out.keep (fun b hb=>(hbW.block b hb).symm)⟩ (TyW.calm hb2 hsz)⟩
  case o10=>
   obtain⟨e1,e3,⟨A',c',M,e6,ho,hc⟩,A2,c2',M2,e9,ho2,hc2⟩:=hd;rw[e1,e3,e6,e9];replace ho:=hide ho;replace hc:=hide hc;replace ho2:=hide ho2;replace hc2:=hide hc2;go_wp2;exact⟨rfl,_,rfl,hR _ _ ⟨A',c',M,A2,c2',M2,rfl,ho.out,hc.out,ho2.out,hc2.out⟩ (TyW.refl _ _ _)⟩
  case o11=>
   obtain⟨⟨A',c',M,A2,c2',M2,e10,ho,hc,ho2,hc2⟩,kg⟩:=hd;replace ho:=hide ho;replace hc:=hide hc;replace ho2:=hide ho2;replace hc2:=hide hc2;replace kg:Blk W (w.heap.size+1) 43 #[.int .i64 0,.slice none 0 0,.slice none 0 0,.slice none 0 0]:=kg;have z0:=Blk.n0 kg;have z1:=Blk.n1 kg;have z2:=Blk.n2 kg;have z3:=Blk.n3 kg;have f0:=kg.frozen 0;have f1:=kg.frozen 1;have f2:=kg.frozen 2;have f3:=kg.frozen 3;have hP:=hide (Me (n0:=w.heap.size) (a:= .int .i64 sd) (b:= .slice Ao no co) (c:= .slice A' tr.length c') (d:= .slice A2 fa.length c2') kg (Nat.le_succ _));have kP:=hide (jw (a:= .int .i64 sd) (b:= .slice Ao no co) (c:= .slice A' tr.length c') (d:= .slice A2 fa.length c2') kg);clear kg;rw[e10];go_wp2;exact⟨rfl,undef,rfl,hR undef _ ⟨A',c',M,A2,c2',M2,kP.out,hP.out.own ho.out (by decide),hc.out,hP.out.own ho2.out (by decide),hc2.out⟩ hP.out⟩
  all_goals (go_wp2;exact⟨rfl,_,rfl,hR _ _ (by first|rfl|trivial) (TyW.refl _ _ _)⟩)
 case hend=>
  intro vs W hT hd;obtain⟨A',c',M,A2,c2',M2,kR,ho,hc,ho2,hc2⟩:∃A c,∃M:List oh,∃A2 c2,∃M2:List og,Blk W (w.heap.size+1) 43 #[.int .i64 sd,.slice Ao no co,.slice A tr.length c,.slice A2 fa.length c2]∧W.ownsRow w.heap.size 93 4 (.slice A tr.length c) M.length (M.map lF).flatten∧fQ (Old w) w M tr∧W.ownsRow w.heap.size 73 7 (.slice A2 fa.length c2) M2.length (M2.map sP).flatten∧iI (Old w) w M2 fa:=hd 11 (by simp) (by kernel_rfl);have hb:=hbA.trans hT.below;have y0:=Blk.n0 kR;have y1:=Blk.n1 kR;have y2:=Blk.n2 kR;have y3:=Blk.n3 kR;have hag:∀b,Old w b→Old W b:=fun b h=>Nat.lt_of_lt_of_le h hb.size;have e1:(Value.slice A' tr.length c')= .slice A' M.length c':=(by rw[hc.len]);have e2:(Value.slice A2 fa.length c2')= .slice A2 M2.length c2':=(by rw[hc2.len]);have hS1:=hide (fQ.s (K':=Old W) hc ho (Agree.below hb fun b h=>h) hag fun g hg=>(World.ownsRow.lt ho g hg).2);have hS2:=hide (iI.s (K':=Old W) hc2 ho2 (Agree.below hb fun b h=>h) hag fun g hg=>(World.ownsRow.lt ho2 g hg).2);have hOF:=hide (aM.keep hO.out (Agree.below hb fun b h=>h) hag);clear hd hT kR ho hc ho2 hc2 k0 kr hbA e1 e2 hN hF hO;simp only[acV,gA,gZ,gS,Act.put,sA,sZ,sS,List.length_cons,List.length_nil,Nat.reduceAdd];obtain rfl:=hol.out;obtain rfl:=hno.out;go_wp2_with fail;exact bodyPost_ret (v:= .agg #[.int .i64 sd,.slice Ao (au od).length co,.slice A' tr.length c',.slice A2 fa.length c2']) (by simp[results,Tryz.results12,go_sem,y0,y1,y2,y3]) rfl ⟨_,rfl,⟨Ao,co,A',c',A2,c2',rfl,hOF.out,hS1.out,hS2.out⟩,hb⟩
end Go.Proofs.YtpjechjoijjhpaaGreatDoor
namespace Go.Inq
theorem vY(k:Nat):bf k []=none:=by cases k<;>rfl
theorem CW{k k':Nat}{l:List Nod}(h:l.length≤k)(h':l.length≤k'):bf k l=bf k' l:=by
 cases e:bf k l with
 |some p=>
  obtain⟨t,r⟩:=p;obtain⟨rfl,ho⟩:=dN e;rw[List.length_append]at h';exact(jZ t r k' ho (by omega)).symm
 |none=>
  cases e':bf k' l with
  |none=>rfl
  |some p=>
   obtain⟨t,r⟩:=p;obtain⟨rfl,ho⟩:=dN e';rw[List.length_append]at h;rw[jZ t r k ho (by omega)]at e;cases e
def om(tree:List Nod)(x:Int):Int:=if x<0 then-1 else match bf tree.length (tree.drop x.toNat)with
 |some p=>(tree.length:Int)-p.2.length
 |none=> -1
theorem yG{tree:List Nod}{x:Int}(h:x<0∨(tree.length:Int)≤x):om tree x= -1:=by
 unfold om;rcases h with h|h
 ·rw[if_pos h]
 ·have hd:tree.drop x.toNat=[]:=List.drop_eq_nil_of_le (by omega);rw[if_neg (by omega),hd,vY]
theorem sU{tree:List Nod}{i:Nat}:om tree (i:Int)=match bf tree.length (tree.drop i)with
 |some p=>(tree.length:Int)-p.2.length
 |none=> -1:=by
 unfold om;rw[if_neg (by omega),Int.toNat_natCast]
theorem DX{tree:List Nod}{i:Nat}{t:Tr}{r:List Nod}(h:tree.drop i=t.flat++r)(ho:t.ok)(hi:i≤tree.length):om tree (i:Int)=i+t.flat.length:=by
 have hl:=congrArg List.length h;rw[List.length_drop,List.length_append]at hl;rw[sU,h,jZ t r _ ho (by omega)];show(tree.length:Int)-r.length=_;omega
theorem Pm{tree:List Nod}{i:Nat}(hi:i<tree.length)(hc:tree[i].cyc≠[]):om tree (i:Int)=i+1:=by
 have h:tree.drop i=(Tr.leaf tree[i]).flat++tree.drop (i+1):=(by rw[List.drop_eq_getElem_cons hi];rfl);have:=DX h hc (by omega);simpa[Tr.flat]using this
theorem SS{tree:List Nod}{i:Nat}(hi:i≤tree.length):om tree (i:Int)= -1∨∃m:Nat,om tree (i:Int)=m∧i<m∧m≤tree.length:=by
 cases e:bf tree.length (tree.drop i)with
 |none=>left;rw[sU,e]
 |some p=>
  obtain⟨t,r⟩:=p;obtain⟨e2,ho⟩:=dN e;have hl:=congrArg List.length e2;rw[List.length_drop,List.length_append]at hl;have:=tT t;exact .inr ⟨i+t.flat.length,by rw[DX e2 ho hi];omega,by omega,by omega⟩
theorem Pn{tree:List Nod}{i:Nat}(hi:i<tree.length)(hc:tree[i].cyc=[]):om tree (i:Int)=om tree (om tree ((i:Int)+1)):=by
 have hd:=List.drop_eq_getElem_cons hi;have hlen:(tree.drop (i+1)).length=tree.length-(i+1):=List.length_drop;have c1:((i:Int)+1)=((i+1:Nat):Int):=(by omega);rw[c1];obtain⟨k,hk⟩:∃k,tree.length=k+1:=⟨tree.length-1,by omega⟩;have hp:bf tree.length (tree.drop i)=match bf k (tree.drop (i+1))with
  |none=>none
  |some (x,r1)=>match bf k r1 with
   |none=>none
   |some (y,r2)=>some (.fork tree[i].c x y,r2):=by
  rw[hk,hd];show bf (k+1) (_::_)=_;rw[bf,if_neg (by simp[hc])];rfl
 cases e:bf k (tree.drop (i+1))with
 |none=>
  have e':bf tree.length (tree.drop (i+1))=none:=(by rw[←e];exact CW (by omega) (by omega));rw[sU (i:=i),hp,e,sU (i:=i+1),e'];rfl
 |some p=>
  obtain⟨x,r1⟩:=p;obtain⟨e2,ho⟩:=dN e;have hl:=congrArg List.length e2;rw[hlen,List.length_append]at hl;rw[DX e2 ho (by omega)];have c2:(((i+1:Nat):Int)+(x.flat.length:Int))=((i+1+x.flat.length:Nat):Int):=(by omega);have hr1:tree.drop (i+1+x.flat.length)=r1:=(by rw[←List.drop_drop,e2,List.drop_left]);have e3:bf tree.length r1=bf k r1:=CW (by omega) (by omega);rw[c2,sU (i:=i),hp,e,sU (i:=i+1+x.flat.length),hr1,e3];dsimp only;cases bf k r1 with
  |none=>rfl
  |some q=>rfl
theorem QD{tree:List Nod}:(decide (0<tree.length)&&decide (om tree 0=tree.length))=(jh tree).isSome:=by
 have h0:=sU (tree:=tree) (i:=0);rw[List.drop_zero]at h0;have h0':om tree 0=_:=h0;rw[h0'];unfold jh;cases e:bf tree.length tree with
 |none=>simp
 |some p=>
  obtain⟨t,r⟩:=p;obtain⟨e2,ho⟩:=dN e;have hl:=congrArg List.length e2;rw[List.length_append]at hl;have:=tT t;cases r with
  |nil=>simp;omega
  |cons a r=>simp at hl⊢;omega
theorem Mg{path:List Mk}{c:Cho}:jm path c=((aK path).contains c||(aK path).contains (bD c)):=by
 have tt:∀a:Cho,bD (bD a)=a:=fun a=>rfl;unfold jm aK;rw[Bool.eq_iff_iff,List.any_eq_true,Bool.or_eq_true,List.contains_iff_mem,List.contains_iff_mem,List.mem_map,List.mem_map];constructor
 ·rintro⟨m,hm,h⟩;rw[Bool.or_eq_true,decide_eq_true_eq,decide_eq_true_eq]at h;unfold Mk.chosen;cases hr:m.right with
  |false=>
   rcases h with h|h
   ·exact .inl ⟨m,hm,by rw[hr];exact h.symm⟩
   ·exact .inr ⟨m,hm,by rw[hr,h];exact(tt _).symm⟩
  |true=>
   rcases h with h|h
   ·exact .inr ⟨m,hm,by rw[hr,h];rfl⟩
   ·exact .inl ⟨m,hm,by rw[hr];exact h.symm⟩
 ·rintro(⟨m,hm,h⟩|⟨m,hm,h⟩)
  ·refine⟨m,hm,?_⟩;rw[Bool.or_eq_true,decide_eq_true_eq,decide_eq_true_eq];unfold Mk.chosen at h;cases hr:m.right with
   |false=>rw[hr]at h;exact .inl h.symm
   |true=>rw[hr]at h;exact .inr h.symm
  ·refine⟨m,hm,?_⟩;rw[Bool.or_eq_true,decide_eq_true_eq,decide_eq_true_eq];unfold Mk.chosen at h;cases hr:m.right with
   |false=>rw[hr]at h;exact .inr (by rw[←tt c,←h];rfl)
   |true=>rw[hr]at h;exact .inl (by rw[←tt c,←h];exact(tt _))
end Go.Inq
namespace Go.Proofs.YtpjechjoijjhpaaGreatDoor
open Go.RowKit Go.Inq
set_option maxHeartbeats 2000000
attribute [local go_sem↓] Go.wp_at_zero Go.wp_at_succ
set_option maxRecDepth 100000 in
theorem I5(At:Option Addr)(ct:Nat)(tree:List Nod)(htl:tree.length≤1000000):∀(n:Nat) (x:Int) (w:World),aY w (Old w) (.slice At tree.length ct) tree→-1≤x→((tree.length:Int)-x≤n∨x<0)→x≤2000000→
 Calls Tryz.prog 156 #[.slice At tree.length ct,.int .i64 x] w fun e w'=>e= .returned (.int .i64 (om tree x))∧Below w.heap.size w w':=by
 intro n
 induction n with
 |zero=>
  intro x w ht h1 hm h2;rcases hm with hm|hm
  ·rw[yG (.inr (by omega))];obtain⟨m,rfl⟩:∃m:Nat,x=m:=⟨x.toNat,by omega⟩;have hm0:(0:Int)≤(m:Int):=Int.natCast_nonneg _;have hm1:(tree.length:Int)≤(m:Int):=(by omega);clear ht h1 hm;go_enter Tryz.func156,Tryz.ntmps156;go_wp2;go_ret;exact⟨rfl,Below.refl _ _⟩
  ·obtain rfl:x= -1:=(by omega);rw[yG (.inl (by omega))];clear ht h1 hm;go_enter Tryz.func156,Tryz.ntmps156;go_wp2;go_ret;exact⟨rfl,Below.refl _ _⟩
 |succ n ih=>
  intro x w ht h1 hm h2;by_cases hneg:x<0
  ·obtain rfl:x= -1:=(by omega);rw[yG (.inl (by omega))];clear ht h1 hm ih hneg;go_enter Tryz.func156,Tryz.ntmps156;go_wp2;go_ret;exact⟨rfl,Below.refl _ _⟩
  ·obtain⟨i,rfl⟩:∃m:Nat,x=m:=⟨x.toNat,by omega⟩;have hi0:(0:Int)≤(i:Int):=Int.natCast_nonneg _;by_cases hlt:i<tree.length
   ·have hi1:(i:Int)<(tree.length:Int):=(by omega);obtain⟨b,off,Ay,cy,rfl,-,d⟩:=aY.at_ ht hlt;have d3:=d.d3;by_cases hc:tree[i].cyc=[]
    ·have hE:=Pn hlt hc;rw[hc]at d3;simp only[List.length_nil]at d3;have hle:=SS (tree:=tree) (i:=i+1) (by omega);have e1:((i:Int)+1)=((i+1:Nat):Int):=(by omega);have hc1:=ih ((i:Int)+1) w ht (by omega) (.inl (by omega)) (by omega);rw[e1]at hE hc1;obtain⟨m,hm'⟩:∃m,om tree ((i+1:Nat):Int)=m:=⟨_,rfl⟩;rw[hm']at hE hc1 hle;rw[←e1]at hc1;rw[hE];have hc1:=hide hc1;have hc2:=hide (fun w1 (hb:Below w.heap.size w w1)=>ih m w1 (ht.below hb) (by rcases hle with h|⟨k,h,h',h''⟩<;>omega) (by rcases hle with h|⟨k,h,h',h''⟩<;>omega) (by rcases hle with h|⟨k,h,h',h''⟩<;>omega));clear ht d hc hE hle hm' e1 hm ih h1 hneg;go_enter Tryz.func156,Tryz.ntmps156;go_wp2_with fail;refine hc1.out.mono ?_;rintro e w1 ⟨rfl,hb1⟩;clear hc1 d3;go_wp2_with fail;refine(hc2.out w1 hb1).mono ?_;rintro e w2 ⟨rfl,hb2⟩;clear hc2;go_wp2;go_ret;exact⟨rfl,hb1.trans (hb2.mono hb1.size)⟩
    ·rw[Pm hlt hc];have hcp:0<tree[i].cyc.length:=List.length_pos_iff.2 hc;generalize tree[i].cyc.length=q at*;have hz1:decide ((q:Int)>0)=true:=decide_eq_true (by omega);have hz2:decide (0<q)=true:=decide_eq_true hcp;clear ht d hc hm ih h1 hneg;go_enter Tryz.func156,Tryz.ntmps156;go_wp2;go_ret;exact⟨rfl,Below.refl _ _⟩
   ·rw[yG (.inr (by omega))];have hm1:(tree.length:Int)≤(i:Int):=(by omega);clear ht h1 hm hlt hneg ih;go_enter Tryz.func156,Tryz.ntmps156;go_wp2;go_ret;exact⟨rfl,Below.refl _ _⟩
theorem zV(At:Option Addr)(ct:Nat)(tree:List Nod)(x:Int)(w:World)(ht:aY w (Old w) (.slice At tree.length ct) tree)(htl:tree.length≤1000000)(h1: -1≤x)(h2:x≤2000000):
 Calls Tryz.prog 156 #[.slice At tree.length ct,.int .i64 x] w fun e w'=>e= .returned (.int .i64 (om tree x))∧Below w.heap.size w w':=
 I5 At ct tree htl (tree.length+1) x w ht h1 (by omega) h2
set_option maxRecDepth 100000 in
theorem Mh(At:Option Addr)(ct:Nat)(tree:List Nod)(w:World)(ht:aY w (Old w) (.slice At tree.length ct) tree)(htl:tree.length≤1000000):
 Calls Tryz.prog 132 #[.slice At tree.length ct] w fun e w'=>e= .returned (.bool (jh tree).isSome)∧Below w.heap.size w w':=by
 have hc:=hide (zV At ct tree 0 w ht htl (by omega) (by omega));rw[←QD];generalize om tree 0=m at*;clear ht;go_enter Tryz.func132,Tryz.ntmps132;go_wp2_with fail;refine hc.out.mono ?_;rintro e w1 ⟨rfl,hb1⟩;clear hc;by_cases hz:tree.length=0
 ·rw[hz];go_wp2;go_ret;exact⟨by simp;intro h;omega,hb1⟩
 ·have hz1:0<tree.length:=(by omega);have hz2:decide ((tree.length:Int)>0)=true:=decide_eq_true (by omega);have hz3:decide (0<tree.length)=true:=decide_eq_true hz1;clear hz;go_wp2;go_ret;exact⟨by simp[hz3];rw[Bool.eq_iff_iff];simp,hb1⟩
set_option maxHeartbeats 8000000
theorem RGP.start{W1 W5:World}{B n:Nat}{E:aj}{A:Option Addr}{c:Nat}(h:RG W1 B n E (.slice A n c))(hn:n≤64)(e:W1.alloc (.cells #[.int .i64 n,.slice A n c] 89)=W5):RGP W5 B W1.heap.size n E A c:=by
 subst e;refine⟨Blk.new _ _ _,h.alloc _,fun g hg=> ?_,hn⟩;rcases h with⟨h1,h2⟩|⟨g',cap,cur,h1,h2,h3,r⟩
 ·subst hg;cases h2
 ·subst hg;simp only[Value.slice.injEq,Option.some.injEq]at h1;obtain⟨rfl,-⟩:=h1;exact h3.lt
set_option maxRecDepth 100000 in
theorem jY(n:Nat)(A:Option Addr)(c:Nat)(E:aj)(A2:Option Addr)(c2:Nat)(F:aj)(K:Nat→Prop)(w:World)(h:GrS w K n A c E)(h2:GrS w K n A2 c2 F)(hK:∀b,K b→b<w.heap.size):
 Calls Tryz.prog 62 #[.agg #[.int .i64 n,.slice A n c],.agg #[.int .i64 n,.slice A2 n c2]] w (za w n (orE E F)):=by
 have dK:=h.n64;go_enter Tryz.func62,Tryz.ntmps62;go_upto_region 1 with fail;obtain⟨W0,hW0⟩:∃W0,((w.alloc (.cells #[.int .i64 n,.slice A n c] 89)).alloc (.cells #[.int .i64 n,.slice A2 n c2] 89)).alloc (.cells #[.int .i64 0,.slice none 0 0] 89)=W0:=⟨_,rfl⟩;rw[hW0];have hb:=gJ hW0;have k1:=Blk.vK hW0;have k2:=Blk.sj hW0;have k3:=Blk.su hW0;have s0:=sw hW0;have hg:=hide (h.keep (Agree.below hb hK) (fun b hb=>hb));have hg2:=hide (h2.keep (Agree.below hb hK) (fun b hb=>hb));have hKW:Hid (∀b,K b→b<W0.heap.size):=hide fun b hb=>(by have:=hK b hb;omega);clear hW0 h h2;have c0:=Blk.n0 k1;have c1:=Blk.n1 k1;replace s0:=hide s0;go_wp2_with fail;refine(jr n dK W0).mono ?_;rintro e w1 ⟨v,rfl,hR,hb1⟩;clear c0 c1;obtain⟨Av,cv,rfl,-⟩:=hR.gr dK (K:=fun _=>True) (fun _ _ _=>trivial);go_upto_region 2 with fail;obtain⟨W5,hW5⟩:∃W5,w1.alloc (.cells #[.int .i64 n,.slice Av n cv] 89)=W5:=⟨_,rfl⟩;rw[hW5];have hP:=RGP.start hR dK hW5;have hs1:=hb1.size;have hb5:=ah hb1 hW5 hs1;clear hW5 hR hb1;go_wp2_with fail;go_loopw [6] (fun s6 wr=>∃x:Nat,x≤n∧s6= .int .i64 x∧RGP wr W0.heap.size w1.heap.size n (eF (orE E F) x 0) Av cv∧Below W0.heap.size W0 wr) (fun s6 _=>n-(intOf s6).toNat);case atStart=>exact⟨0,Nat.zero_le _,by go_num,by rw[ze];exact hP,hb5⟩
 case round=>
  obtain⟨x,hx,rfl,hPr,hbr⟩:=hrel;have hx1:(0:Int)≤(x:Int):=Int.natCast_nonneg _;have c0:=hPr.c0;have c1:=hPr.c1;have k1r:=k1.below hbr k1.lt;have a0:=Blk.n0 k1r;by_cases hlt:x<n
  ·have hx2:(x:Int)<(n:Int):=(by omega);go_wp2_with fail;clear c0 c1 a0 k1r;go_loopw [7] (fun s7 wq=>∃y:Nat,y≤n∧s7= .int .i64 y∧RGP wq W0.heap.size w1.heap.size n (eF (orE E F) x y) Av cv∧Below W0.heap.size W0 wq) (fun s7 _=>n-(intOf s7).toNat);case atStart=>exact⟨0,Nat.zero_le _,by go_num,hPr,hbr⟩
   case round=>
    obtain⟨y,hy,rfl,hPq,hbq⟩:=hrel;have hy1:(0:Int)≤(y:Int):=Int.natCast_nonneg _;have k1q:=k1.below hbq k1.lt;have k2q:=k2.below hbq k2.lt;have a0:=Blk.n0 k1q;have a1:=Blk.n1 k1q;have b0:=Blk.n0 k2q;have b1:=Blk.n1 k2q;by_cases hlq:y<n
    ·have hy2:(y:Int)<(n:Int):=(by omega);have hgq:=hide (hg.out.keep (Agree.below hbq hKW.out) (fun b hb=>hb));have hc1:=hide (gM n A c E x y K wr hgq.out (fun b hb=>Nat.lt_of_lt_of_le (hKW.out b hb) hbq.size) hlt hlq);have hor:Hid (orE E F x y=(E x y||F x y)):=hide rfl;have hst:=hide (zf (E:=orE E F) (x:=x) (y:=y));have hsk:=hide (sF (E:=orE E F) (x:=x) (y:=y));go_wp2_with fail;clear a0 b0;refine hc1.out.mono ?_;rintro e w2 ⟨rfl,hb2⟩;have hbz:=hbq.trans (hb2.mono hbq.size);have hPz:=hPq.below hb2 (Nat.le_refl _);have k2z:=k2.below hbz k2.lt;have b0:=Blk.n0 k2z;have b1:=Blk.n1 k2z;clear hc1;have hgz:=hide (hg2.out.keep (Agree.below hbz hKW.out) (fun b hb=>hb));have hc2:=hide (gM n A2 c2 F x y K w2 hgz.out (fun b hb=>Nat.lt_of_lt_of_le (hKW.out b hb) hbz.size) hlt hlq);generalize E x y=e1 at*;generalize F x y=e2 at*;go_wp2_with fail;clear b0 b1 k2z;refine hc2.out.mono ?_;rintro e w3 ⟨rfl,hb3⟩;have hb4:=hbz.trans (hb3.mono hbz.size);have hP4:=hPz.below hb3 (Nat.le_refl _);clear hc2 hbz hPz hgz hgq hbq hPq hb3 hb2;cases e1<;>cases e2
     ·have hE2:=hide (hsk.out (by rw[hor.out];rfl));clear hst hsk hor hPr;go_wp2;go_roundw;case rel=>exact⟨y+1,by omega,by go_num,by rw[hE2.out];exact hP4,hb4⟩
      case measure=>simp[intOf];omega
     ·have hE2:=hide (hst.out (by rw[hor.out];rfl));obtain⟨g,rfl,hX⟩:=hP4.at_ hlt;have hP5:=hide (hX.add hlt hlq);have hb5:=hide (hb4.setCell (p:=⟨g,x,none⟩) hX.B (.int .u64 (eZ (aX ((eF (orE E F) x y) x) n) (y:Int):Nat)));obtain⟨-,c0,c1,d0,df,gp,gl,-,h64⟩:=hX;clear hst hsk hor hPr hP4 hb4;generalize aX ((eF (orE E F) x y) x) n=s at*;go_upto_region 11 with fail;refine wp_region_still_tail 11 (by kernel_rfl) (by kernel_rfl) ?_;simp only[List.take_succ_cons,List.take_zero,List.drop_succ_cons,List.drop_zero];repeat still_step
      still_call ((eD _ h64 _ _).mono fun _ _ h=>⟨h.1,h.2.symm⟩)
      repeat still_step
      refine wpStill_nil ?_;change wpList _ _ _ _ _ w3.drew;go_wp2;go_roundw;case rel=>exact⟨y+1,by omega,by go_num,by rw[hE2.out];exact hP5.out.drew,hb5.out.trans ⟨rfl,rfl,rfl,Nat.le_refl _,fun _ _=>rfl⟩⟩
      case measure=>simp[intOf];omega
     ·have hE2:=hide (hst.out (by rw[hor.out];rfl));obtain⟨g,rfl,hX⟩:=hP4.at_ hlt;have hP5:=hide (hX.add hlt hlq);have hb5:=hide (hb4.setCell (p:=⟨g,x,none⟩) hX.B (.int .u64 (eZ (aX ((eF (orE E F) x y) x) n) (y:Int):Nat)));obtain⟨-,c0,c1,d0,df,gp,gl,-,h64⟩:=hX;clear hst hsk hor hPr hP4 hb4;generalize aX ((eF (orE E F) x y) x) n=s at*;go_upto_region 11 with fail;refine wp_region_still_tail 11 (by kernel_rfl) (by kernel_rfl) ?_;simp only[List.take_succ_cons,List.take_zero,List.drop_succ_cons,List.drop_zero];repeat still_step
      still_call ((eD _ h64 _ _).mono fun _ _ h=>⟨h.1,h.2.symm⟩)
      repeat still_step
      refine wpStill_nil ?_;change wpList _ _ _ _ _ w3.drew;go_wp2;go_roundw;case rel=>exact⟨y+1,by omega,by go_num,by rw[hE2.out];exact hP5.out.drew,hb5.out.trans ⟨rfl,rfl,rfl,Nat.le_refl _,fun _ _=>rfl⟩⟩
      case measure=>simp[intOf];omega
     ·have hE2:=hide (hst.out (by rw[hor.out];rfl));obtain⟨g,rfl,hX⟩:=hP4.at_ hlt;have hP5:=hide (hX.add hlt hlq);have hb5:=hide (hb4.setCell (p:=⟨g,x,none⟩) hX.B (.int .u64 (eZ (aX ((eF (orE E F) x y) x) n) (y:Int):Nat)));obtain⟨-,c0,c1,d0,df,gp,gl,-,h64⟩:=hX;clear hst hsk hor hPr hP4 hb4;generalize aX ((eF (orE E F) x y) x) n=s at*;go_upto_region 11 with fail;refine wp_region_still_tail 11 (by kernel_rfl) (by kernel_rfl) ?_;simp only[List.take_succ_cons,List.take_zero,List.drop_succ_cons,List.drop_zero];repeat still_step
      still_call ((eD _ h64 _ _).mono fun _ _ h=>⟨h.1,h.2.symm⟩)
      repeat still_step
      refine wpStill_nil ?_;change wpList _ _ _ _ _ w3.drew;go_wp2;go_roundw;case rel=>exact⟨y+1,by omega,by go_num,by rw[hE2.out];exact hP5.out.drew,hb5.out.trans ⟨rfl,rfl,rfl,Nat.le_refl _,fun _ _=>rfl⟩⟩
      case measure=>simp[intOf];omega
    ·obtain rfl:y=n:=(by omega);have hP4:=hide (hPq.congr (F:=eF (orE E F) (x+1) 0) fun a b _ hb=>Cn hb);clear hPq hPr;go_wp2;go_roundw;case rel=>exact⟨x+1,by omega,by go_num,hP4.out,hbq⟩
     case measure=>simp[intOf];omega
  ·obtain rfl:x=n:=(by omega);have hP4:=hPr.congr (F:=orE E F) fun a b ha _=>Co ha;have k3r:=k3.below hbr k3.lt;have f0:=k3r.frozen 0;have f1:=k3r.frozen 1;have e0:=k3r.cell 0;have e1:=k3r.cell 1;have hs0:=s0.out;have hs3:w.heap.size+1+1<W0.heap.size:=k3.lt;have hR:=hide (((hP4.rg.far (p:=⟨w.heap.size+1+1,0,none⟩) hs3 (.int .i64 x)).far (p:=⟨w.heap.size+1+1,1,none⟩) hs3 (.slice Av x cv)).base (B':=w.heap.size) (by omega));have hz:=hide (((hb.trans (hbr.mono hb.size)).setCell (p:=⟨w.heap.size+1+1,0,none⟩) (by simp;omega) (.int .i64 x)).setCell (p:=⟨w.heap.size+1+1,1,none⟩) (by simp;omega) (.slice Av x cv));have hq:=(k3r.aH 0 (.int .i64 x)).aH 1 (.slice Av x cv);simp only[sA,sZ,sS]at hq;have y0:=hq.cell 0;have y1:=hq.cell 1;simp only[gA,gZ,gS]at y0 y1 e0 e1;clear hq hs0 hs3;go_wp2_with fail;exact bodyPost_ret (v:= .agg #[.int .i64 x,.slice Av x cv]) (by simp[results,Tryz.results62,go_sem,y0,y1]) rfl ⟨_,rfl,hR.out,hz.out⟩
theorem QE(H:List Txn)(a k:Nat)(hk:k≤a+1):eF (soE H) a k=eF (soE H) a 0:=by
 induction k with
 |zero=>rfl
 |succ k ih=>
  rw[sF,ih (by omega)];unfold soE;rw[decide_eq_false (by omega)];rfl
theorem SV{H:List Txn}{a b:Nat}(hab:a<b)(hb:b<H.length):soE H a b=decide ((H[a]'(by omega)).bL=H[b].bL):=by
 unfold soE;rw[decide_eq_true hab,aQ (by omega),aQ hb];rfl
set_option maxRecDepth 100000 in
theorem Mi(A:Option Addr)(c:Nat)(H:List Txn)(w:World)(h:aC w (Old w) (.slice A H.length c) H)(hr:aG H=true):
 Calls Tryz.prog 107 #[.agg #[.slice A H.length c]] w (za w H.length (soE H)):=by
 have dK:H.length≤64:=(by have:=((aD H).1 hr).1;omega);clear hr;go_enter Tryz.func107,Tryz.ntmps107;go_upto_region 1 with fail;obtain⟨W0,hW0⟩:∃W0,(w.alloc (.cells #[.slice A H.length c] 24)).alloc (.cells #[.int .i64 0,.slice none 0 0] 89)=W0:=⟨_,rfl⟩;rw[hW0];have hb:=aF hW0;have k1:=Blk.fG hW0;have k3:=Blk.eP hW0;have s0:=size_two hW0;have hT:=hide (h.below hb);clear hW0 h;have c0:=Blk.n0 k1;replace s0:=hide s0;go_wp2_with fail;refine(jr H.length dK W0).mono ?_;rintro e w1 ⟨v,rfl,hR,hb1⟩;clear c0;obtain⟨Av,cv,rfl,-⟩:=hR.gr dK (K:=fun _=>True) (fun _ _ _=>trivial);go_upto_region 2 with fail;obtain⟨W5,hW5⟩:∃W5,w1.alloc (.cells #[.int .i64 (H.length:Int),.slice Av H.length cv] 89)=W5:=⟨_,rfl⟩;rw[hW5];have hP:=RGP.start hR dK hW5;have hs1:=hb1.size;have hb5:=ah hb1 hW5 hs1;clear hW5 hR hb1;go_wp2_with fail;go_loopw [4] (fun s4 wr=>∃x:Nat,x≤H.length∧s4= .int .i64 x∧RGP wr W0.heap.size w1.heap.size H.length (eF (soE H) x 0) Av cv∧Below W0.heap.size W0 wr) (fun s4 _=>H.length-(intOf s4).toNat);case atStart=>exact⟨0,Nat.zero_le _,by go_num,by rw[ze];exact hP,hb5⟩
 case round=>
  obtain⟨x,hx,rfl,hPr,hbr⟩:=hrel;have hx1:(0:Int)≤(x:Int):=Int.natCast_nonneg _;have c0:=hPr.c0;have c1:=hPr.c1;by_cases hlt:x<H.length
  ·have hx2:(x:Int)<(H.length:Int):=(by omega);go_wp2_with fail;clear c0 c1;go_loopw [5] (fun s5 wq=>∃y:Nat,x+1≤y∧y≤H.length∧s5= .int .i64 y∧RGP wq W0.heap.size w1.heap.size H.length (eF (soE H) x y) Av cv∧Below W0.heap.size W0 wq) (fun s5 _=>H.length-(intOf s5).toNat);case atStart=>exact⟨x+1,Nat.le_refl _,hlt,by go_num,by rw[QE H x (x+1) (Nat.le_refl _)];exact hPr,hbr⟩
   case round=>
    obtain⟨y,hxy,hy,rfl,hP4,hb4⟩:=hrel;have hy1:(0:Int)≤(y:Int):=Int.natCast_nonneg _;have c0:=hP4.c0;have c1:=hP4.c1;by_cases hlq:y<H.length
    ·have hy2:(y:Int)<(H.length:Int):=(by omega);have hst:=hide (zf (E:=soE H) (x:=x) (y:=y));have hsk:=hide (sF (E:=soE H) (x:=x) (y:=y));have hat:=hide (SV (H:=H) (a:=x) (b:=y) (by omega) hlq);have hTq:=hT.out.below hb4;have k1q:=k1.below hb4 k1.lt;have a0:=k1q.cell 0;obtain⟨bt,ot,_,_,_,_,e,-,d1,-⟩:=hTq.at_ hlt;obtain⟨bt',ot',_,_,_,_,e',-,d2,-⟩:=hTq.at_ hlq;subst e;injection e' with e'
     injection e' with e1 e2
     subst e1 e2;generalize H[x].bL=p at*;generalize H[y].bL=q at*;generalize soE H x y=sb at*;simp only[gA,gZ,gS]at a0;clear hTq k1q hPr hbr;by_cases hpq:p=q
     ·have hpb:(p==q)=true:=(by simpa using hpq);have hE2:=hide (hst.out (by rw[hat.out];simpa using hpq));go_wp2_with fail;go_region;clear a0 d1 d2;replace hP4:=hP4.drew;replace hb4:=aZ hb4;clear c0 c1;generalize wr.drew=w3 at*;obtain⟨g,rfl,hX⟩:=hP4.at_ hlt;have hP5:=hide (hX.add (y:=y) hlt hlq).drew;have hb5:=hide (aZ (hb4.setCell (p:=⟨g,x,none⟩) hX.B (.int .u64 (eZ (aX ((eF (soE H) x y) x) H.length) (y:Int):Nat))));obtain⟨-,c0,c1,d0,df,gp,gl,-,h64⟩:=hX;clear hst hsk hP4 hb4;generalize aX ((eF (soE H) x y) x) H.length=s at*;go_upto_region 9 with fail;refine wp_region_still_tail 11 (by kernel_rfl) (by kernel_rfl) ?_;simp only[List.take_succ_cons,List.take_zero,List.drop_succ_cons,List.drop_zero];repeat still_step
      still_call ((eD _ h64 _ _).mono fun _ _ h=>⟨h.1,h.2.symm⟩)
      repeat still_step
      refine wpStill_nil ?_;change wpList _ _ _ _ _ (w3).drew;go_wp2;go_roundw;case rel=>exact⟨y+1,by omega,by omega,by go_num,by rw[hE2.out];exact hP5.out,hb5.out⟩
      case measure=>simp[intOf];omega
     ·have hpb:(p==q)=false:=(by simpa using hpq);have hE2:=hide (hsk.out (by rw[hat.out];simpa using hpq));clear hpq;go_wp2_with fail;go_region;clear a0 d1 d2;replace hP4:=hP4.drew;replace hb4:=aZ hb4;go_wp2;go_roundw;case rel=>exact⟨y+1,by omega,by omega,by go_num,by rw[hE2.out];exact hP4,hb4⟩
      case measure=>simp[intOf];omega
    ·obtain rfl:y=H.length:=(by omega);have hP4:=hide (hP4.congr (F:=eF (soE H) (x+1) 0) fun a b _ hb=>Cn hb);clear hPr;go_wp2;go_roundw;case rel=>exact⟨x+1,by omega,by go_num,hP4.out,hb4⟩
     case measure=>simp[intOf];omega
  ·obtain rfl:x=H.length:=(by omega);have hP4:=hPr.congr (F:=soE H) fun a b ha _=>Co ha;have k3r:=k3.below hbr k3.lt;have f0:=k3r.frozen 0;have f1:=k3r.frozen 1;have e0:=k3r.cell 0;have e1:=k3r.cell 1;have hs0:=s0.out;have hs3:w.heap.size+1<W0.heap.size:=k3.lt;have hR:=hide (((hP4.rg.far (p:=⟨w.heap.size+1,0,none⟩) hs3 (.int .i64 H.length)).far (p:=⟨w.heap.size+1,1,none⟩) hs3 (.slice Av H.length cv)).base (B':=w.heap.size) (by omega));have hz:=hide (((hb.trans (hbr.mono hb.size)).setCell (p:=⟨w.heap.size+1,0,none⟩) (by simp;try omega) (.int .i64 H.length)).setCell (p:=⟨w.heap.size+1,1,none⟩) (by simp;try omega) (.slice Av H.length cv));have hq:=(k3r.aH 0 (.int .i64 H.length)).aH 1 (.slice Av H.length cv);simp only[sA,sZ,sS]at hq;have y0:=hq.cell 0;have y1:=hq.cell 1;simp only[gA,gZ,gS]at y0 y1 e0 e1;clear hq hs0 hs3;go_wp2_with fail;exact bodyPost_ret (v:= .agg #[.int .i64 H.length,.slice Av H.length cv]) (by simp[results,Tryz.results107,go_sem,y0,y1]) rfl ⟨_,rfl,hR.out,hz.out⟩
def qB(H:List Txn)(t i:Nat):aj:=fun a b=>decide (a≠b)&&((decide (b<t)&&(aP H b).reads.any fun r=>decide (r.b=(a:Int)))||(decide (b=t)&&((aP H b).reads.take i).any fun r=>decide (r.b=(a:Int))))
theorem Mj(H:List Txn):qB H 0 0=noE:=by
 funext a b;simp[qB,noE]
theorem Ml{H:List Txn}{t i s:Nat}{R:List It}(hR:(aP H t).reads=R)(hi:i<R.length)(hs:R[i].b=(s:Int))(hst:s≠t):qB H t (i+1)=orE (qB H t i) (gT s t):=by
 subst hR;funext a b;unfold qB orE gT;by_cases e:b=t
 ·subst e;rw[List.take_succ_eq_append_getElem hi,List.any_append];simp only[List.any_cons,List.any_nil,Bool.or_false,hs];by_cases e2:a=s
  ·subst e2;simp[hst]
  ·have:¬((s:Int)=(a:Int)):=(by omega);simp[e2,this]
 ·simp[e]
theorem Mq{H:List Txn}{t i:Nat}{R:List It}(hR:(aP H t).reads=R)(hi:i<R.length)(hs:R[i].b<0):qB H t (i+1)=qB H t i:=by
 subst hR;funext a b;unfold qB;by_cases e:b=t
 ·subst e;rw[List.take_succ_eq_append_getElem hi,List.any_append];have:¬(((aP H b).reads[i]).b=(a:Int)):=(by omega);simp[this]
 ·simp[e]
theorem Po{H:List Txn}{t:Nat}{R:List It}(hR:(aP H t).reads=R):qB H t R.length=qB H (t+1) 0:=by
 subst hR;funext a b;unfold qB;by_cases e:b=t
 ·subst e;rw[List.take_length];simp
 ·have:decide (b<t+1)=decide (b<t):=(by simp;omega);simp[e,this]
theorem Pp{H:List Txn}{a b:Nat}(hb:b<H.length):qB H H.length 0 a b=wrE H a b:=by
 unfold qB wrE;simp[hb]
set_option maxRecDepth 100000 in
theorem Mr(A:Option Addr)(c:Nat)(H:List Txn)(w:World)(h:aC w (Old w) (.slice A H.length c) H)(hr:aG H=true)(hn:aA H):
 Calls Tryz.prog 108 #[.agg #[.slice A H.length c]] w (za w H.length (wrE H)):=by
 have hok:=hide (((aD H).1 hr).2);have dK:H.length≤64:=(by have:=((aD H).1 hr).1;omega);clear hr;go_enter Tryz.func108,Tryz.ntmps108;go_upto_region 1 with fail;obtain⟨W0,hW0⟩:∃W0,(w.alloc (.cells #[.slice A H.length c] 24)).alloc (.cells #[.int .i64 0,.slice none 0 0] 89)=W0:=⟨_,rfl⟩;rw[hW0];have hb:=aF hW0;have k1:=Blk.fG hW0;have k3:=Blk.eP hW0;have s0:=size_two hW0;have hT:=hide (h.below hb);clear hW0 h;have c0:=Blk.n0 k1;replace s0:=hide s0;go_wp2_with fail;refine(jr H.length dK W0).mono ?_;rintro e w1 ⟨v,rfl,hR,hb1⟩;clear c0;obtain⟨Av,cv,rfl,-⟩:=hR.gr dK (K:=fun _=>True) (fun _ _ _=>trivial);go_upto_region 2 with fail;obtain⟨W5,hW5⟩:∃W5,w1.alloc (.cells #[.int .i64 (H.length:Int),.slice Av H.length cv] 89)=W5:=⟨_,rfl⟩;rw[hW5];have hP:=RGP.start hR dK hW5;have hs1:=hb1.size;have hb5:=ah hb1 hW5 hs1;clear hW5 hR hb1;go_wp2_with fail;go_loopw [4] (fun s4 wr=>∃x:Nat,x≤H.length∧s4= .int .i64 x∧RGP wr W0.heap.size w1.heap.size H.length (qB H x 0) Av cv∧Below W0.heap.size W0 wr) (fun s4 _=>H.length-(intOf s4).toNat);case atStart=>exact⟨0,Nat.zero_le _,by go_num,by rw[Mj];exact hP,hb5⟩
 case round=>
  obtain⟨x,hx,rfl,hPr,hbr⟩:=hrel;have hx1:(0:Int)≤(x:Int):=Int.natCast_nonneg _;have c0:=hPr.c0;have c1:=hPr.c1;by_cases hlt:x<H.length
  ·have hx2:(x:Int)<(H.length:Int):=(by omega);obtain⟨bt,ot,Aw,cw,Ar,cr,rfl,hKb,-,-,d2,-,hrs⟩:=hT.out.at_ hlt;replace d2:=(hbr.cell (p:=⟨bt,ot+x*3+2,none⟩) hKb).trans d2;have k1q:=k1.below hbr k1.lt;have a0:=Blk.n0 k1q;obtain⟨R,hR⟩:∃R,H[x].reads=R:=⟨_,rfl⟩;have hRt:(aP H x).reads=R:=(by rw[aQ hlt];exact hR);have hth:=hide (fun r (hr:r∈R)=>(hok.out x hlt).there r (by rw[hR];exact hr));have hR9:R.length≤1000000:=(by rw[←hR];exact(hn.2 _ (List.getElem_mem hlt)).2);rw[hR]at hrs d2;clear hR;replace hRt:=hide hRt;replace hrs:=hide hrs;go_wp2_with fail;clear c0 c1 a0 d2 k1q;go_loopw [6] (fun s6 wq=>∃i:Nat,i≤R.length∧s6= .int .i64 i∧RGP wq W0.heap.size w1.heap.size H.length (qB H x i) Av cv∧Below W0.heap.size W0 wq) (fun s6 _=>R.length-(intOf s6).toNat);case atStart=>exact⟨0,Nat.zero_le _,by go_num,hPr,hbr⟩
   case round=>
    obtain⟨i,hi,rfl,hP4,hb4⟩:=hrel;have hi1:(0:Int)≤(i:Int):=Int.natCast_nonneg _;by_cases hlq:i<R.length
    ·have hi2:(i:Int)<(R.length:Int):=(by omega);obtain⟨br,orr,rfl,-,-,z1⟩:=(hrs.out.below hb4).at_ hlq;have SX:=hide (hth.out _ (List.getElem_mem hlq));have hst:=hide (fun s=>Ml (s:=s) hRt.out hlq);have hsk:=hide (Mq hRt.out hlq);generalize R[i]=r at*;by_cases hneg:r.b<0
     ·have hE2:=hide (hsk.out hneg);have hnb:decide (r.b≥0)=false:=(by simp;omega);clear hst hsk SX hneg;go_wp2;go_roundw;case rel=>exact⟨i+1,by omega,by go_num,by rw[hE2.out];exact hP4,hb4⟩
      case measure=>simp[intOf];omega
     ·obtain⟨s0,hs0,hsx,hsl⟩:∃s0:Nat,r.b=(s0:Int)∧s0≠x∧s0<H.length:=by
       rcases(rO H x r).1 SX.out with e|⟨k,hk,e,e2,-⟩
       ·omega
       ·exact⟨k,e,e2,hk⟩
      rw[hs0]at z1;have hE2:=hide (hst.out s0 hs0 hsx);have hnb:decide ((s0:Int)≥0)=true:=(by simp);have XK:(0:Int)≤(s0:Int):=Int.natCast_nonneg _;have XL:(s0:Int)<(H.length:Int):=(by omega);go_wp2_with fail;obtain⟨g,rfl,hX⟩:=hP4.at_ hsl;have hP5:=hide (hX.add (y:=x) hsl hlt).drew;have hb5:=hide (aZ (hb4.setCell (p:=⟨g,s0,none⟩) hX.B (.int .u64 (eZ (aX ((qB H x i) s0) H.length) (x:Int):Nat))));obtain⟨-,c0,c1,d0,df,gp,gl,-,h64⟩:=hX;clear hst hsk hneg hs0 hsx SX hP4 hb4;generalize aX ((qB H x i) s0) H.length=s at*;go_upto_region 10 with fail;refine wp_region_still_tail 19 (by kernel_rfl) (by kernel_rfl) ?_;simp only[List.take_succ_cons,List.take_zero,List.drop_succ_cons,List.drop_zero];repeat still_step
      still_call ((eD _ h64 _ _).mono fun _ _ h=>⟨h.1,h.2.symm⟩)
      repeat still_step
      refine wpStill_nil ?_;change wpList _ _ _ _ _ (wr).drew;go_wp2;go_roundw;case rel=>exact⟨i+1,by omega,by go_num,by rw[hE2.out];exact hP5.out,hb5.out⟩
      case measure=>simp[intOf];omega
    ·obtain rfl:i=R.length:=(by omega);rw[Po hRt.out]at hP4;clear hPr;go_wp2;go_roundw;case rel=>exact⟨x+1,by omega,by go_num,hP4,hb4⟩
     case measure=>simp[intOf];omega
  ·obtain rfl:x=H.length:=(by omega);have hP4:=hPr.congr (F:=wrE H) fun a b _ hb=>Pp hb;have k3r:=k3.below hbr k3.lt;have f0:=k3r.frozen 0;have f1:=k3r.frozen 1;have e0:=k3r.cell 0;have e1:=k3r.cell 1;have hs0:=s0.out;have hs3:w.heap.size+1<W0.heap.size:=k3.lt;have hR:=hide (((hP4.rg.far (p:=⟨w.heap.size+1,0,none⟩) hs3 (.int .i64 H.length)).far (p:=⟨w.heap.size+1,1,none⟩) hs3 (.slice Av H.length cv)).base (B':=w.heap.size) (by omega));have hz:=hide (((hb.trans (hbr.mono hb.size)).setCell (p:=⟨w.heap.size+1,0,none⟩) (by simp;try omega) (.int .i64 H.length)).setCell (p:=⟨w.heap.size+1,1,none⟩) (by simp;try omega) (.slice Av H.length cv));have hq:=(k3r.aH 0 (.int .i64 H.length)).aH 1 (.slice Av H.length cv);simp only[sA,sZ,sS]at hq;have y0:=hq.cell 0;have y1:=hq.cell 1;simp only[gA,gZ,gS]at y0 y1 e0 e1;clear hq hs0 hs3;go_wp2_with fail;exact bodyPost_ret (v:= .agg #[.int .i64 H.length,.slice Av H.length cv]) (by simp[results,Tryz.results108,go_sem,y0,y1]) rfl ⟨_,rfl,hR.out,hz.out⟩
set_option maxHeartbeats 4000000
theorem eH(ts:Int)(A:Option Addr)(c:Nat)(l:List Int)(vr:Value)(x:Int)(K:Nat→Prop)(w:World)(h:aM w K (.slice A l.length c) l)(hK:∀b,K b→b<w.heap.size)(hn:l.length≤maxLen):
 Calls Tryz.prog 131 #[.agg #[.int .i64 ts,.slice A l.length c,vr],.int .i64 x] w fun e w'=>e= .returned (.bool (l.contains x))∧Below w.heap.size w w':=by
 unfold maxLen at hn;have hA:Below w.heap.size w (w.alloc (.cells #[.int .i64 ts,.slice A l.length c,vr] 60)):=(Below.refl _ _).alloc (Nat.le_refl _) _;have kt:Blk (w.alloc (.cells #[.int .i64 ts,.slice A l.length c,vr] 60)) w.heap.size 60 #[.int .i64 ts,.slice A l.length c,vr]:=Blk.new _ _ _;have h1:=aM.keep h (Agree.below hA hK) (fun b h=>h);have y0:=Blk.n1 kt;have hno:(∀j (hj:j<l.length),l[j]≠x)→l.contains x=false:=fun g=>by
  rw[←Bool.not_eq_true,List.contains_iff_mem];intro hm;obtain⟨j,hj,e⟩:=List.getElem_of_mem hm;exact g j hj e
 have hyes:∀j (hj:j<l.length),x=l[j]→l.contains x=true:=fun j hj e=>by
  rw[List.contains_iff_mem,e];exact List.getElem_mem hj
 generalize l.contains x=cb at*;replace hno:=hide hno;replace hyes:=hide hyes;go_enter Tryz.func131,Tryz.ntmps131;go_wp2_with fail;generalize w.alloc (.cells #[.int .i64 ts,.slice A l.length c,vr] 60)=W at*
 go_loop [5] (fun s5=>∃k:Nat,k≤l.length∧s5= .int .i64 k∧Hid (∀j (hj:j<l.length),j<k→l[j]≠x)) (fun s5=>l.length-(intOf s5).toNat)
 case atStart=>exact⟨0,Nat.zero_le _,by go_num,fun j hj h=>absurd h (by omega)⟩
 case round=>
  obtain⟨k,hk,rfl,hall⟩:=hrel;have hk1:(0:Int)≤(k:Int):=Int.natCast_nonneg _;by_cases hlt:k<l.length
  ·have hi2:(k:Int)<(l.length:Int):=(by omega);obtain⟨b,off,rfl,_,hc⟩:=h1.at_ hlt;have hh:=hide (fun g=>hyes.out k hlt g);have hst:Hid (l[k]≠x→∀j (hj:j<l.length),j<k+1→l[j]≠x):=fun g j hj hjk=>by
    by_cases e:j=k
    ·subst e;exact g
    ·exact hall.out j hj (by omega)
   clear hall;by_cases he:x=l[k]
   ·have hb:(l[k]==x)=true:=(by simpa using he.symm);have hr:=hide (hh.out he);clear he hh hst;go_wp2;go_ret;exact⟨by rw[hr.out];rfl,hA⟩
   ·have hb:(l[k]==x)=false:=(by simpa using fun e=>he e.symm);have hn2:=hide (hst.out (fun e=>he e.symm));clear he hh hst;go_wp2
    go_round
    case rel=>exact⟨k+1,by omega,by go_num,hn2⟩
    case measure=>simp[intOf];omega
  ·have hr:=hide (hno.out fun j hj=>hall.out j hj (by omega));go_wp2;go_ret;exact⟨by rw[hr.out];rfl,hA⟩
theorem Pq{H:List Txn}{n:Nat}(h:n<H.length){j:Nat}(hj:j<H[n].writes.length)(hb:wF H[n].writes j=false):(txF H n).all id=false:=by
 rw[vB h];refine qG (List.prefix_refl _) (List.mem_append.2 (.inl (List.mem_append.2 (.inl ?_))));unfold wFs;exact List.mem_map.2 ⟨j,by simpa using hj,hb⟩
theorem Pt{H:List Txn}{n:Nat}(h:n<H.length){j:Nat}(hj:j<H[n].reads.length)(hb:rF H n H[n].reads j=false):(txF H n).all id=false:=by
 rw[vB h];refine qG (List.prefix_refl _) (List.mem_append.2 (.inl (List.mem_append.2 (.inr ?_))));unfold rFs;exact List.mem_map.2 ⟨j,by simpa using hj,hb⟩
theorem Pv{H:List Txn}{n:Nat}(h:n<H.length)(hb:eO H[n].bL 8=false):(txF H n).all id=false:=by
 rw[vB h];exact qG (List.prefix_refl _) (List.mem_append.2 (.inr (by simp[hb])))
theorem QF{H:List Txn}{n:Nat}(h:n<H.length)(hs:eO H[n].bL 8=true)(hw:∀j,j<H[n].writes.length→wF H[n].writes j=true)(hr:∀j,j<H[n].reads.length→rF H n H[n].reads j=true):(txF H n).all id=true:=by
 rw[vB h,List.all_append,List.all_append];have h1:(wFs H[n].writes H[n].writes.length).all id=true:=by
  rw[List.all_eq_true];intro b hb;unfold wFs at hb;obtain⟨j,hj,rfl⟩:=List.mem_map.1 hb;exact hw j (by simpa using hj)
 have h2:(rFs H n H[n].reads H[n].reads.length).all id=true:=by
  rw[List.all_eq_true];intro b hb;unfold rFs at hb;obtain⟨j,hj,rfl⟩:=List.mem_map.1 hb;exact hr j (by simpa using hj)
 rw[h1,h2];simp[hs]
theorem FX{l:List Int}(h:0<l.length):wF l 0=(decide (0≤l[0])&&decide (l[0]<16)):=by
 rw[BO h,show l.take 0=[] from rfl,Kh];congr 1
theorem J9{l:List Int}{m:Nat}(h:m+1<l.length):wF l (m+1)=(decide (l[m]<l[m+1])&&decide (l[m+1]<16)):=by
 rw[BO h,List.take_succ_eq_append_getElem (by omega),mY]
theorem Pw{l:List Int}:∀{m:Nat} (h:m<l.length),(∀j,j≤m→wF l j=true)→0≤l[m]
 |0,h,hall=>by
  have:=hall 0 (Nat.le_refl _);rw[FX h,Bool.and_eq_true,decide_eq_true_eq]at this;exact this.1
 |m+1,h,hall=>by
  have ih:=Pw (m:=m) (by omega) fun j hj=>hall j (by omega);have:=hall (m+1) (Nat.le_refl _);rw[J9 h,Bool.and_eq_true,decide_eq_true_eq]at this;omega
theorem Px{H:List Txn}{n:Nat}{l:List It}{j:Nat}(h:j<l.length):rF H n l j=(wF (l.map (·.a)) j&&jL H n l[j]):=by
 rw[M8 h,BO (by rw[List.length_map];exact h),List.getElem_map,List.map_take]
theorem Ru{l:List Int}{i:Nat}(h:i<l.length)(hall:∀j,j<i→wF l j=true):wF l i=true↔0≤l[i]∧l[i]<16∧∀m (hm:m+1=i),l[m]'(by omega)<l[i]:=by
 cases i with
 |zero=>
  rw[FX h,Bool.and_eq_true,decide_eq_true_eq,decide_eq_true_eq];exact⟨fun g=>⟨g.1,g.2,fun m hm=>by omega⟩,fun g=>⟨g.1,g.2.1⟩⟩
 |succ m=>
  have hp:=Pw (m:=m) (by omega) fun j hj=>hall j (by omega);rw[J9 h,Bool.and_eq_true,decide_eq_true_eq,decide_eq_true_eq];refine⟨fun g=>⟨by omega,g.2,fun m' hm=> ?_⟩,fun g=>⟨g.2.2 m rfl,g.2.1⟩⟩;obtain rfl:m'=m:=(by omega);exact g.1
theorem fF{B:Nat}{w W:World}(h:Below B w W)(n:Nat):Below B w (W.drewN n):=h.trans ⟨rfl,rfl,rfl,Nat.le_refl _,fun _ _=>rfl⟩
def SY(l:List Txn):Prop:=l.length≤9223372036854775807∧∀t∈l,t.writes.length≤9223372036854775807∧t.reads.length≤9223372036854775807
theorem aA.len{l:List Txn}(h:aA l):SY l:=⟨by have:=h.1;omega,fun t ht=>by have:=h.2 t ht;omega⟩
set_option maxHeartbeats 16000000 in
set_option maxRecDepth 100000 in
theorem Ms(A:Option Addr)(c:Nat)(H:List Txn)(n:Nat)(w:World)(h:aC w (Old w) (.slice A H.length c) H)(hn:n<H.length)(hs:SY H):
 Calls Tryz.prog 126 #[.agg #[.slice A H.length c],.int .i64 n] w fun e w'=>e= .returned (.bool ((txF H n).all id))∧Below w.heap.size w w':=by
 have hH:=hs.1;obtain⟨hsw,hsr⟩:=hs.2 _ (List.getElem_mem hn);have UH:=hide (fun m hm=>(hs.2 _ (List.getElem_mem (l:=H) (n:=m) hm)).1);have hnw:=hide (fun j hj hb=>Pq hn (j:=j) hj hb);have hnr:=hide (fun j hj hb=>Pt hn (j:=j) hj hb);have hns:=hide (fun hb=>Pv hn hb);have hyes:=hide (fun a b c=>QF hn a b c);obtain⟨b,off,Aw,cw,Ar,cr,rfl,hbK,d0,d1,d2,hws,hrs⟩:=aC.at_ h hn;generalize ht:H[n]=t at*;replace ht:=hide ht;obtain⟨ts,ws,rs⟩:=t;dsimp only at*;have hW1:Below w.heap.size w (w.alloc (.cells #[.slice (some ⟨b,off,none⟩) H.length c] 24)):=(Below.refl _ _).alloc (Nat.le_refl _) _;have kH:Blk (w.alloc (.cells #[.slice (some ⟨b,off,none⟩) H.length c] 24)) w.heap.size 24 #[.slice (some ⟨b,off,none⟩) H.length c]:=Blk.new _ _ _;have e0:=(hW1.cell (p:=⟨b,off+n*3,none⟩) hbK).trans d0;have e1:=(hW1.cell (p:=⟨b,off+n*3+1,none⟩) hbK).trans d1;have e2:=(hW1.cell (p:=⟨b,off+n*3+2,none⟩) hbK).trans d2;have z0:=Blk.n0 kH;have hB2:=hW1.alloc hW1.size (.cells #[.int .i64 ts,.slice Aw ws.length cw,.slice Ar rs.length cr] 60);have kT:Blk ((w.alloc (.cells #[.slice (some ⟨b,off,none⟩) H.length c] 24)).alloc (.cells #[.int .i64 ts,.slice Aw ws.length cw,.slice Ar rs.length cr] 60)) (w.heap.size+1) 60 #[.int .i64 ts,.slice Aw ws.length cw,.slice Ar rs.length cr]:=by
  have:=Blk.new (w.alloc (.cells #[.slice (some ⟨b,off,none⟩) H.length c] 24)) 60 #[.int .i64 ts,.slice Aw ws.length cw,.slice Ar rs.length cr];simp only[World.size_alloc]at this;exact this
 have kH2:=kH.alloc (.cells #[.int .i64 ts,.slice Aw ws.length cw,.slice Ar rs.length cr] 60);have hn1:(0:Int)≤(n:Int):=Int.natCast_nonneg _;have hn2:(n:Int)<(H.length:Int):=(by omega);have t0:=Blk.n0 kT;by_cases g0:ts<0
 ·have g0b:decide (ts<0)=true:=(by simpa using g0);have hno:=hide (hns.out (by simp[eO];omega));go_enter Tryz.func126,Tryz.ntmps126;go_wp2;go_ret;exact⟨by rw[hno.out];rfl,hB2⟩
 have g0b:decide (ts<0)=false:=(by simpa using g0);by_cases g1:7<ts
 ·have g1b:decide (ts>7)=true:=(by simpa using g1);have hno:=hide (hns.out (by simp[eO];omega));go_enter Tryz.func126,Tryz.ntmps126;go_wp2;go_ret;exact⟨by rw[hno.out];rfl,hB2⟩
 have g1b:decide (ts>7)=false:=(by simpa using g1);have lu:=hide (hyes.out (by simp[eO];omega));clear hyes hns;go_enter Tryz.func126,Tryz.ntmps126;go_wp2_with fail;clear d0 d1 d2 e0 e1 e2 z0 t0 g0b g1b kH hW1;generalize(w.alloc (.cells #[.slice (some ⟨b,off,none⟩) H.length c] 24)).alloc (.cells #[.int .i64 ts,.slice Aw ws.length cw,.slice Ar rs.length cr] 60)=W2 at*;go_loopw [6] (fun s6 wr=>∃i:Nat,i≤ws.length∧s6= .int .i64 i∧Hid (∀j,j<i→wF ws j=true)∧Below w.heap.size w wr∧Blk wr (w.heap.size+1) 60 #[.int .i64 ts,.slice Aw ws.length cw,.slice Ar rs.length cr]∧Blk wr w.heap.size 24 #[.slice (some ⟨b,off,none⟩) H.length c]) (fun s6 _=>ws.length-(intOf s6).toNat);case atStart=>exact⟨0,Nat.zero_le _,by go_num,fun j h=>absurd h (by omega),hB2,kT,kH2⟩
 case round=>
  clear hB2 kT kH2;obtain⟨i,hi,rfl,hall,hb,kT,kH⟩:=hrel;have hi1:(0:Int)≤(i:Int):=Int.natCast_nonneg _;have e1:=Blk.n1 kT;by_cases hlt:i<ws.length
  ·have hi2:(i:Int)<(ws.length:Int):=(by omega);have hW:=aM.keep hws (Agree.below hb fun b h=>h) (fun b h=>h);have hcm:=hide (fun m (hm:m<ws.length)=>aM.at_ hW hm);obtain⟨bw,ow,rfl,hbw,ec⟩:=aM.at_ hW hlt;have hwf:=Ru hlt hall.out;have hbad:=hide (fun g=>hnw.out i hlt g);have hgo:Hid (wF ws i=true→∀j,j<i+1→wF ws j=true):=fun g j hj=>by
    by_cases e:j=i
    ·subst e;exact g
    ·exact hall.out j (by omega)
   by_cases k1:ws[i]<0
   ·have k1b:decide (ws[i]<0)=true:=(by simpa using k1);replace hwf:=hide hwf;have hno:=hide (hbad.out (by rw[←Bool.not_eq_true,hwf.out];intro g;have:=g.1;omega));clear hbad hwf hgo;go_wp2_with fail;go_quiet (fail);go_wp2;go_ret;exact⟨by rw[hno.out];rfl,fF hb nq⟩
   ·have k1b:decide (ws[i]<0)=false:=(by simpa using k1);by_cases k2:15<ws[i]
    ·have k2b:decide (ws[i]>15)=true:=(by simpa using k2);replace hwf:=hide hwf;have hno:=hide (hbad.out (by rw[←Bool.not_eq_true,hwf.out];intro g;have:=g.2.1;omega));clear hbad hwf hgo;go_wp2_with fail;go_quiet (fail);go_wp2;go_ret;exact⟨by rw[hno.out];rfl,fF hb nq⟩
    ·have k2b:decide (ws[i]>15)=false:=(by simpa using k2);by_cases hi0:i=0
     ·have k3b:decide ((i:Int)>0)=false:=(by simp;omega);have k3c:decide (0<i)=false:=(by simp;omega);replace hwf:=hide hwf;replace hi0:=hide hi0;have zW:=hide (hgo.out (hwf.out.2 ⟨by omega,by omega,fun m hm=>by have:=hi0.out;omega⟩));clear hbad hwf hgo;go_wp2_with fail;go_quiet (fail);go_wp2;go_roundw;case rel=>exact⟨i+1,by omega,by go_num,zW,fF hb nq,kT,kH⟩
      case measure=>simp[intOf];omega
     ·obtain⟨m,hm⟩:∃m,m+1=i:=⟨i-1,by omega⟩;have k3b:decide ((i:Int)>0)=true:=(by simp;omega);have k3c:decide (0<i)=true:=(by simp;omega);have k3d:0<i:=(by omega);have hq:IntKind.i64.wrap ((i:Int)-1)=(m:Int):=(by rw[IntKind.wrap_i64];omega);have hm1:(0:Int)≤(m:Int):=Int.natCast_nonneg _;have hm2:(m:Int)<(ws.length:Int):=(by omega);obtain⟨bw',ow',hA,_,em⟩:=hcm.out m (by omega);injection hA with hA
      injection hA with hA1 hA2
      subst hA1 hA2;have hmi:=hide hm;by_cases k4:ws[i]≤ws[m]'(by omega)
      ·have k4b:decide ((ws[m]'(by omega))≥ws[i])=true:=(by simpa using k4);replace hwf:=hide hwf;have hno:=hide (hbad.out (by rw[←Bool.not_eq_true,hwf.out];intro g;have:=g.2.2 m hmi.out;omega));clear hbad hwf hgo;go_wp2_with fail;go_quiet (fail);go_wp2;go_ret;exact⟨by rw[hno.out];rfl,fF hb nq⟩
      ·have k4b:decide ((ws[m]'(by omega))≥ws[i])=false:=(by simpa using k4);replace hwf:=hide hwf;have zW:=hide (hgo.out (hwf.out.2 ⟨by omega,by omega,fun m' hm'=>by obtain rfl:m'=m:=by{have:=hmi.out;omega};omega⟩));clear hbad hwf hgo;go_wp2_with fail;go_quiet (fail);go_wp2;go_roundw;case rel=>exact⟨i+1,by omega,by go_num,zW,fF hb nq,kT,kH⟩
       case measure=>simp[intOf];omega
  ·obtain rfl:i=ws.length:=(by omega);have UJ:=hide (fun hr=>lu.out hall.out hr);have e2:=Blk.n2 kT;go_wp2;clear e1 e2 hall lu hi hlt hi1;go_loopw [7] (fun s7 wr=>∃i:Nat,i≤rs.length∧s7= .int .i64 i∧Hid (∀j,j<i→rF H n rs j=true)∧Below w.heap.size w wr∧Blk wr (w.heap.size+1) 60 #[.int .i64 ts,.slice Aw ws.length cw,.slice Ar rs.length cr]∧Blk wr w.heap.size 24 #[.slice (some ⟨b,off,none⟩) H.length c]) (fun s7 _=>rs.length-(intOf s7).toNat);case atStart=>exact⟨0,Nat.zero_le _,by go_num,fun j h=>absurd h (by omega),hb,kT,kH⟩
   case round=>
    clear hb kT kH;obtain⟨i,hi,rfl,hall,hb,kT,kH⟩:=hrel;have hi1:(0:Int)≤(i:Int):=Int.natCast_nonneg _;have e2:=Blk.n2 kT;by_cases hlt:i<rs.length
    ·have hi2:(i:Int)<(rs.length:Int):=(by omega);have hR:=ItS.keep hrs (Agree.below hb fun b h=>h) (fun b h=>h);have hcm:=hide (fun m (hm:m<rs.length)=>ItS.at_ hR hm);obtain⟨br,or_,rfl,hbr,ec0,ec1⟩:=ItS.at_ hR hlt;have hrk:=hide (Px (H:=H) (n:=n) hlt);have hwf:=Ru (l:=rs.map (·.a)) (i:=i) (by rw[List.length_map];exact hlt) fun j hj=>by
      have:=hall.out j hj;rw[Px (by omega),Bool.and_eq_true]at this;exact this.1
     rw[List.getElem_map]at hwf;have hth:=hide (rO H n rs[i]);have hbad:=hide (fun g=>hnr.out i hlt g);have hgo:Hid (rF H n rs i=true→∀j,j<i+1→rF H n rs j=true):=fun g j hj=>by
      by_cases e:j=i
      ·subst e;exact g
      ·exact hall.out j (by omega)
     have hmk:=hide (fun m (hm:m<rs.length)=>List.getElem_map (fun x:It=>x.a) (l:=rs) (i:=m) (h:=by rw[List.length_map];exact hm));generalize hrx:rs[i]=x at*;replace hrx:=hide hrx;obtain⟨xa,xb⟩:=x;dsimp only at ec0 ec1 hwf hth;have hbA:=hb.alloc hb.size (.cells #[.int .i64 xa,.int .i64 xb] 57);have kTA:=kT.alloc (.cells #[.int .i64 xa,.int .i64 xb] 57);have kHA:=kH.alloc (.cells #[.int .i64 xa,.int .i64 xb] 57);have kX:=Blk.new wr 57 #[.int .i64 xa,.int .i64 xb];have u0:=Blk.n0 kX;have u1:=Blk.n1 kX;have y2:=Blk.n2 kTA;have z0:=Blk.n0 kHA;replace hwf:=hide hwf;go_wp2_with fail;clear ec0 ec1 e2 hb kT kH;generalize hWA:wr.alloc (.cells #[.int .i64 xa,.int .i64 xb] 57)=WA at*;replace hcm:=hide (fun m (hm:m<rs.length)=>ItS.at_ (ItS.keep hrs (Agree.below hbA fun b h=>h) (fun b h=>h)) hm);clear hWA hR;generalize wr.heap.size=N8 at*;by_cases k1:xa<0
     ·have k1b:decide (xa<0)=true:=(by simpa using k1);have hno:=hide (hbad.out (by rw[hrk.out,Bool.and_eq_false_iff];left;rw[←Bool.not_eq_true,hwf.out];intro g;have:=g.1;omega));clear hbad hwf hgo hth hrk;go_quiet (fail);go_wp2;go_ret;exact⟨by rw[hno.out];rfl,fF hbA nq⟩
     ·have k1b:decide (xa<0)=false:=(by simpa using k1);by_cases k2:15<xa
      ·have k2b:decide (xa>15)=true:=(by simpa using k2);have hno:=hide (hbad.out (by rw[hrk.out,Bool.and_eq_false_iff];left;rw[←Bool.not_eq_true,hwf.out];intro g;have:=g.2.1;omega));clear hbad hwf hgo hth hrk;go_quiet (fail);go_wp2;go_ret;exact⟨by rw[hno.out];rfl,fF hbA nq⟩
      ·have k2b:decide (xa>15)=false:=(by simpa using k2);by_cases hi0:i=0
       ·have k3b:decide ((i:Int)>0)=false:=(by simp;omega);have k3c:decide (0<i)=false:=(by simp;omega);have hwt:=hide (hwf.out.2 ⟨by omega,by omega,fun m hm=>by omega⟩);clear hi0;by_cases g5:xb< -1
        ·have g5b:decide (xb< -1)=true:=(by simpa using g5);have hno:=hide (hbad.out (by rw[hrk.out,Bool.and_eq_false_iff];right;rw[←Bool.not_eq_true,hth.out];exact fun g=>g.elim (fun e=>by omega) (fun⟨k,hk,e,_⟩=>by omega)));clear hbad hwf hgo hth hrk;go_quiet (fail);go_wp2;go_ret;exact⟨by rw[hno.out];rfl,fF hbA nq⟩
        ·have g5b:decide (xb< -1)=false:=(by simpa using g5);by_cases g6:(H.length:Int)≤xb
         ·have g6b:decide (xb≥(H.length:Int))=true:=(by simpa using g6);have hno:=hide (hbad.out (by rw[hrk.out,Bool.and_eq_false_iff];right;rw[←Bool.not_eq_true,hth.out];exact fun g=>g.elim (fun e=>by omega) (fun⟨k,hk,e,_⟩=>by omega)));clear hbad hwf hgo hth hrk;go_quiet (fail);go_wp2;go_ret;exact⟨by rw[hno.out];rfl,fF hbA nq⟩
         ·have g6b:decide (xb≥(H.length:Int))=false:=(by simpa using g6);by_cases g7:xb=(n:Int)
          ·have g7b:(xb==(n:Int))=true:=(by simpa using g7);replace g7:=hide g7;have hno:=hide (hbad.out (by rw[hrk.out,Bool.and_eq_false_iff];right;rw[←Bool.not_eq_true,hth.out];have g7:=g7.out;exact fun g=>g.elim (fun e=>by omega) (fun⟨k,hk,e,hkn,_⟩=>by omega)));clear hbad hwf hgo hth hrk;go_quiet (fail);go_wp2;go_ret;exact⟨by rw[hno.out];rfl,fF hbA nq⟩
          ·have g7b:(xb==(n:Int))=false:=(by simpa using g7);by_cases g8:xb<0
           ·have g8b:decide (xb<0)=true:=(by simpa using g8);have zW:=hide (hgo.out (by rw[hrk.out,hwt.out,hth.out.2 (.inl (by omega))];rfl));clear hbad hwf hgo hth hrk hwt;go_quiet (fail);go_wp2;go_roundw;case rel=>exact⟨i+1,by omega,by go_num,zW,fF hbA nq,kTA,kHA⟩
            case measure=>simp[intOf];omega
           ·have g8b:decide (xb<0)=false:=(by simpa using g8);have hm':xb.toNat<H.length:=(by omega);have hm3:0≤xb:=(by omega);have hm4:xb<(H.length:Int):=(by omega);obtain⟨b',off',Aw',cw',Ar',cr',hA',NQ,p0,p1,p2,NM,_⟩:=aC.at_ (aC.keep h (Agree.below hbA fun b h=>h) (fun b h=>h)) hm';injection hA' with hA'
            injection hA' with hA1 hA2
            subst hA1 hA2;have hl':=UH.out xb.toNat hm';have hrf:rF H n rs i=(H[xb.toNat].writes.contains xa):=by
             rw[hrk.out,hwt.out,Bool.true_and,Bool.eq_iff_iff,hth.out,List.contains_iff_mem];refine⟨?_,fun g=> .inr ⟨xb.toNat,hm',by omega,by omega,g⟩⟩;rintro(e|⟨k,hk,e,_,g⟩)
             ·omega
             ·obtain rfl:k=xb.toNat:=(by omega);exact g
            have Py:=hide (fun(g:H[xb.toNat].writes.contains xa=false)=>hbad.out (hrf.trans g));have zW:=hide (fun(g:H[xb.toNat].writes.contains xa=true)=>hgo.out (hrf.trans g));clear hbad hwf hgo hth hrk hwt hrf g5 g6 g7;generalize H[xb.toNat].writes=ws' at*;generalize H[xb.toNat].bL=ts' at*;go_quiet (fail);go_wp2_with fail;refine bn [0,1,2,3,4,5,6,7] [8,9] (by kernel_rfl) (by kernel_rfl) (fun _ _ d _ _ h=>by cases d<;>exact h) ?_;simp only[List.filterMap_cons,List.filterMap_nil,gZ,gS];repeat still_step
            refine wpStill_nil ?_;go_wp2_with fail;refine(eH ts' Aw' cw' ws' _ xa (Old w) (WA.drewN (nq+1)) (aM.keep NM (Agree.drewN _ _ _) (fun b h=>h)) (fun b h=>Nat.lt_of_lt_of_le h hbA.size) (by unfold maxLen;omega)).mono ?_;rintro e W9 ⟨rfl,hb9⟩;have kT9:=Blk.below (w:=WA) kTA ⟨hb9.os,hb9.tape,hb9.output,hb9.size,hb9.block⟩ kTA.lt;have kH9:=Blk.below (w:=WA) kHA ⟨hb9.os,hb9.tape,hb9.output,hb9.size,hb9.block⟩ kHA.lt;have hbF:=(fF hbA (nq+1)).trans (hb9.mono hbA.size);generalize ws'.contains xa=cb at*;cases cb with
            |false=>
             have hno:=hide (Py.out rfl);go_wp2;go_ret;exact⟨by rw[hno.out];rfl,hbF⟩
            |true=>
             have S9:=hide (zW.out rfl);go_wp2;go_roundw;case rel=>exact⟨i+1,by omega,by go_num,S9,hbF,kT9,kH9⟩
             case measure=>simp[intOf];omega
       ·obtain⟨m,hm⟩:∃m,m+1=i:=⟨i-1,by omega⟩;have k3b:decide ((i:Int)>0)=true:=(by simp;omega);have k3c:decide (0<i)=true:=(by simp;omega);have k3d:0<i:=(by omega);have hq:IntKind.i64.wrap ((i:Int)-1)=(m:Int):=(by rw[IntKind.wrap_i64];omega);have hm1:(0:Int)≤(m:Int):=Int.natCast_nonneg _;have hm2:(m:Int)<(rs.length:Int):=(by omega);obtain⟨bw',ow',hA,_,em,_⟩:=hcm.out m (by omega);injection hA with hA
        injection hA with hA1 hA2
        subst hA1 hA2;have hme:=hmk.out m (by omega);generalize(rs[m]'(by omega)).a=pv at*;replace hme:=hide hme;have hmi:=hide hm;clear hi0;by_cases k4:xa≤pv
        ·have k4b:decide (pv≥xa)=true:=(by simpa using k4);have hno:=hide (hbad.out (by rw[hrk.out,Bool.and_eq_false_iff];left;rw[←Bool.not_eq_true,hwf.out];intro g;have:=g.2.2 m hmi.out;rw[hme.out]at this;omega));clear hbad hwf hgo hth hrk;go_quiet (fail);go_wp2;go_ret;exact⟨by rw[hno.out];rfl,fF hbA nq⟩
        ·have k4b:decide (pv≥xa)=false:=(by simpa using k4);have hwt:=hide (hwf.out.2 ⟨by omega,by omega,fun m' hm'=>by
          obtain rfl:m'=m:=(by have:=hmi.out;omega);rw[hme.out];omega⟩)
         by_cases g5:xb< -1
         ·have g5b:decide (xb< -1)=true:=(by simpa using g5);have hno:=hide (hbad.out (by rw[hrk.out,Bool.and_eq_false_iff];right;rw[←Bool.not_eq_true,hth.out];exact fun g=>g.elim (fun e=>by omega) (fun⟨k,hk,e,_⟩=>by omega)));clear hbad hwf hgo hth hrk;go_quiet (fail);go_wp2;go_ret;exact⟨by rw[hno.out];rfl,fF hbA nq⟩
         ·have g5b:decide (xb< -1)=false:=(by simpa using g5);by_cases g6:(H.length:Int)≤xb
          ·have g6b:decide (xb≥(H.length:Int))=true:=(by simpa using g6);have hno:=hide (hbad.out (by rw[hrk.out,Bool.and_eq_false_iff];right;rw[←Bool.not_eq_true,hth.out];exact fun g=>g.elim (fun e=>by omega) (fun⟨k,hk,e,_⟩=>by omega)));clear hbad hwf hgo hth hrk;go_quiet (fail);go_wp2;go_ret;exact⟨by rw[hno.out];rfl,fF hbA nq⟩
          ·have g6b:decide (xb≥(H.length:Int))=false:=(by simpa using g6);by_cases g7:xb=(n:Int)
           ·have g7b:(xb==(n:Int))=true:=(by simpa using g7);replace g7:=hide g7;have hno:=hide (hbad.out (by rw[hrk.out,Bool.and_eq_false_iff];right;rw[←Bool.not_eq_true,hth.out];have g7:=g7.out;exact fun g=>g.elim (fun e=>by omega) (fun⟨k,hk,e,hkn,_⟩=>by omega)));clear hbad hwf hgo hth hrk;go_quiet (fail);go_wp2;go_ret;exact⟨by rw[hno.out];rfl,fF hbA nq⟩
           ·have g7b:(xb==(n:Int))=false:=(by simpa using g7);by_cases g8:xb<0
            ·have g8b:decide (xb<0)=true:=(by simpa using g8);have zW:=hide (hgo.out (by rw[hrk.out,hwt.out,hth.out.2 (.inl (by omega))];rfl));clear hbad hwf hgo hth hrk hwt;go_quiet (fail);go_wp2;go_roundw;case rel=>exact⟨i+1,by omega,by go_num,zW,fF hbA nq,kTA,kHA⟩
             case measure=>simp[intOf];omega
            ·have g8b:decide (xb<0)=false:=(by simpa using g8);have hm':xb.toNat<H.length:=(by omega);have hm3:0≤xb:=(by omega);have hm4:xb<(H.length:Int):=(by omega);obtain⟨b',off',Aw',cw',Ar',cr',hA',NQ,p0,p1,p2,NM,_⟩:=aC.at_ (aC.keep h (Agree.below hbA fun b h=>h) (fun b h=>h)) hm';injection hA' with hA'
             injection hA' with hA1 hA2
             subst hA1 hA2;have hl':=UH.out xb.toNat hm';have hrf:rF H n rs i=(H[xb.toNat].writes.contains xa):=by
              rw[hrk.out,hwt.out,Bool.true_and,Bool.eq_iff_iff,hth.out,List.contains_iff_mem];refine⟨?_,fun g=> .inr ⟨xb.toNat,hm',by omega,by omega,g⟩⟩;rintro(e|⟨k,hk,e,_,g⟩)
              ·omega
              ·obtain rfl:k=xb.toNat:=(by omega);exact g
             have Py:=hide (fun(g:H[xb.toNat].writes.contains xa=false)=>hbad.out (hrf.trans g));have zW:=hide (fun(g:H[xb.toNat].writes.contains xa=true)=>hgo.out (hrf.trans g));clear hbad hwf hgo hth hrk hwt hrf g5 g6 g7;generalize H[xb.toNat].writes=ws' at*;generalize H[xb.toNat].bL=ts' at*;go_quiet (fail);go_wp2_with fail;refine bn [0,1,2,3,4,5,6,7] [8,9] (by kernel_rfl) (by kernel_rfl) (fun _ _ d _ _ h=>by cases d<;>exact h) ?_;simp only[List.filterMap_cons,List.filterMap_nil,gZ,gS];repeat still_step
             refine wpStill_nil ?_;go_wp2_with fail;refine(eH ts' Aw' cw' ws' _ xa (Old w) (WA.drewN (nq+1)) (aM.keep NM (Agree.drewN _ _ _) (fun b h=>h)) (fun b h=>Nat.lt_of_lt_of_le h hbA.size) (by unfold maxLen;omega)).mono ?_;rintro e W9 ⟨rfl,hb9⟩;have kT9:=Blk.below (w:=WA) kTA ⟨hb9.os,hb9.tape,hb9.output,hb9.size,hb9.block⟩ kTA.lt;have kH9:=Blk.below (w:=WA) kHA ⟨hb9.os,hb9.tape,hb9.output,hb9.size,hb9.block⟩ kHA.lt;have hbF:=(fF hbA (nq+1)).trans (hb9.mono hbA.size);generalize ws'.contains xa=cb at*;cases cb with
             |false=>
              have hno:=hide (Py.out rfl);go_wp2;go_ret;exact⟨by rw[hno.out];rfl,hbF⟩
             |true=>
              have S9:=hide (zW.out rfl);go_wp2;go_roundw;case rel=>exact⟨i+1,by omega,by go_num,S9,hbF,kT9,kH9⟩
              case measure=>simp[intOf];omega
    ·obtain rfl:i=rs.length:=(by omega);have hr:=hide (UJ.out hall.out);go_wp2;go_ret;exact⟨by rw[hr.out];rfl,hb⟩
end Go.Proofs.YtpjechjoijjhpaaGreatDoor
