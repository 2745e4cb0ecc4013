/-
  Walks: layer 24: refute.Shape, which recovers where a row is no tree.
-/
import Derived.ArgAppend
import Derived.MapKept
import Derived.ChangeMaps4
import Derived.Carry
import Derived.Test.YtfhnamomiaekdaaGreatDoorV22
import Derived.Test.YtfhnamomiaekdaaGreatDoorV11
import Derived.Test.YtfhnamomiaekdaaGreatDoorV02
import Derived.Test.YtfhnamomiaekdaaGreatDoorV09
import Derived.Test.YtfhnamomiaekdaaGreatDoorV01
import Derived.Test.YtfhnamomiaekdaaGreatDoorV05
import Derived.Test.YtfhnamomiaekdaaGreatDoorV16
set_option linter.unusedVariables false
set_option linter.unusedSimpArgs false
namespace Go.Proofs.YtfhnamomiaekdaaGreatDoor
open Go.RowKit Go.Inq
set_option maxHeartbeats 4000000
attribute [local go_sem↓] Go.wp_at_zero Go.wp_at_succ
set_option maxRecDepth 100000 in
theorem Dp(w:World)(g:Nat):
 CallsD Tryz.prog 203 #[.pointer (some ⟨g,0,none⟩),.pointer (some ⟨g+1,0,none⟩),.pointer (some ⟨g+2,0,none⟩)] .returning w fun e u' w'=>e= .returned (.tuple #[])∧u'= .returning∧Below w.heap.size w w':=by
 refine callsD_of_wpS Tryz.func203 rfl fun c₀ cs hu=> ?_;change Code.wpS _ _ _ {tmps:=#[.pointer (some ⟨g,0,none⟩),.pointer (some ⟨g+1,0,none⟩),.pointer (some ⟨g+2,0,none⟩),undef,undef],defers:=[]} _ _;apply wpS_seq;apply wpS_region;simp[wpOpsS,go_sem,recoverD,hu,Exit.thenS];refine wpS_of_wp ?_;go_wp2;cases c₀
 simp_all [bodyPostS,results,Tryz.results203]
 exact Below.refl _ _
set_option maxRecDepth 100000 in
theorem uE(older:List PanicEntry)(w:World)(g:Nat)(v0 v1 v2:Value)(k0:Blk w g 3 #[v0])(k1:Blk w (g+1) 3 #[v1])(k2:Blk w (g+2) 4 #[v2]):
 CallsD Tryz.prog 203 #[.pointer (some ⟨g,0,none⟩),.pointer (some ⟨g+1,0,none⟩),.pointer (some ⟨g+2,0,none⟩)] (.panicking ({v:= .iface 294 (.agg #[]),recovered:=false}::older)) w fun e u' w'=>
  e= .returned (.tuple #[])∧u'= .panicking ({v:= .iface 294 (.agg #[]),recovered:=true}::older)∧
   Blk w' g 3 #[.int .i64 0]∧Blk w' (g+1) 3 #[.int .i64 0]∧Blk w' (g+2) 4 #[.bool false]∧Below g w w':=by
 refine callsD_of_wpS Tryz.func203 rfl fun c₀ cs hu=> ?_;change Code.wpS _ _ _ {tmps:=#[.pointer (some ⟨g,0,none⟩),.pointer (some ⟨g+1,0,none⟩),.pointer (some ⟨g+2,0,none⟩),undef,undef],defers:=[]} _ _;apply wpS_seq;apply wpS_region;simp[wpOpsS,go_sem,recoverD,hu,Exit.thenS];have f0:=k0.frozen 0;have f1:=k1.frozen 0;have f2:=k2.frozen 0;have d0:=Blk.n0 k0;have d1:=Blk.n0 k1;have d2:=Blk.n0 k2;refine wpS_of_wp ?_;go_wp2;refine⟨rfl,_,rfl,.tuple #[],by simp[results,Tryz.results203],rfl,rfl,?_,?_,?_,?_⟩
 ·exact((k0.aM 0 _).far (by simp) _).far (by simp) _
 ·exact((k1.far (by simp) _).aM 0 _).far (by simp) _
 ·exact((k2.far (by simp) _).far (by simp) _).aM 0 _
 ·exact(((Below.refl _ _).setCell (by simp) _).setCell (by simp) _).setCell (by simp) _
theorem Ca {tmps:Array Value} {w:World} {g:Nat} {v0 v1 v2:Value} (h2:tmps.getD 2 undef= .pointer (some ⟨g,0,none⟩)) (h3:tmps.getD 3 undef= .pointer (some ⟨g+1,0,none⟩)) (h4:tmps.getD 4 undef= .pointer (some ⟨g+2,0,none⟩))
 (k0:Blk w g 3 #[v0]) (k1:Blk w (g+1) 3 #[v1]) (k2:Blk w (g+2) 4 #[v2]):(results Tryz.f148 tmps).run Tryz.prog w= .ok (.tuple #[v0,v1,v2]) w:=by
 have c0:=Blk.n0 k0;have c1:=Blk.n0 k1;have c2:=Blk.n0 k2;have e2:tmps[2]?.getD undef= .pointer (some ⟨g,0,none⟩):=(by simpa using h2);have e3:tmps[3]?.getD undef= .pointer (some ⟨g+1,0,none⟩):=(by simpa using h3);have e4:tmps[4]?.getD undef= .pointer (some ⟨g+2,0,none⟩):=(by simpa using h4);unfold results;simp[Tryz.results148,e2,e3,e4,go_sem,c0,c1,c2]
def JC(g:Nat):Deferred:={target:= .fn (.func 203) #[.pointer (some ⟨g,0,none⟩),.pointer (some ⟨g+1,0,none⟩),.pointer (some ⟨g+2,0,none⟩)],args:=#[]}
theorem uF {R:Ending→World→Prop} {tmps:Array Value} {w:World} {g:Nat} {v0 v1 v2:Value} (k0:Blk w g 3 #[v0]) (k1:Blk w (g+1) 3 #[v1]) (k2:Blk w (g+2) 4 #[v2])
 (h2:tmps.getD 2 undef= .pointer (some ⟨g,0,none⟩)) (h3:tmps.getD 3 undef= .pointer (some ⟨g+1,0,none⟩)) (h4:tmps.getD 4 undef= .pointer (some ⟨g+2,0,none⟩))
 (h:∀w',Below g w w'→R (.returned (.tuple #[.int .i64 0,.int .i64 0,.bool false])) w'):
 Leaves Tryz.prog Tryz.f148 tmps R [JC g] (.panicking Dn) w:=by
 refine leaves_cons (f:=203) (args:=#[.pointer (some ⟨g,0,none⟩),.pointer (some ⟨g+1,0,none⟩),.pointer (some ⟨g+2,0,none⟩)]) (by simp) (by simp[go_sem]) ?_;refine(uE [] w g v0 v1 v2 k0 k1 k2).mono ?_;rintro e u' w'' ⟨rfl,rfl,j0,j1,j2,hb⟩;exact⟨_,Ca h2 h3 h4 j0 j1 j2,h w'' hb⟩
theorem AX {R:Ending→World→Prop} {tmps:Array Value} {w:World} {g:Nat} {v0 v1 v2:Value} (k0:Blk w g 3 #[v0]) (k1:Blk w (g+1) 3 #[v1]) (k2:Blk w (g+2) 4 #[v2])
 (h2:tmps.getD 2 undef= .pointer (some ⟨g,0,none⟩)) (h3:tmps.getD 3 undef= .pointer (some ⟨g+1,0,none⟩)) (h4:tmps.getD 4 undef= .pointer (some ⟨g+2,0,none⟩))
 (h:∀w',Below w.heap.size w w'→R (.returned (.tuple #[v0,v1,v2])) w'):Leaves Tryz.prog Tryz.f148 tmps R [JC g] .returning w:=by
 refine leaves_cons (f:=203) (args:=#[.pointer (some ⟨g,0,none⟩),.pointer (some ⟨g+1,0,none⟩),.pointer (some ⟨g+2,0,none⟩)]) (by simp) (by simp[go_sem]) ?_;refine(Dp w g).mono ?_;rintro e u' w'' ⟨rfl,rfl,hb⟩;exact⟨_,Ca h2 h3 h4 (k0.below hb k0.lt) (k1.below hb k1.lt) (k2.below hb k2.lt),h w'' hb⟩
def kL(l:List Nod):Int×Int×Bool:=match oh l with
 |some t=>((t.leaves:Int),(t.deep:Int),true)
 |none=>(0,0,false)
theorem Fe{l:List Nod}(h:bR l.length l=none):kL l=(0,0,false):=by
 unfold kL oh;rw[h]
theorem Fg{l:List Nod}{t:Tr}{n:Nod}{r:List Nod}(h:bR l.length l=some (t,n::r)):kL l=(0,0,false):=by
 unfold kL oh;rw[h]
theorem Fh{l:List Nod}{t:Tr}(h:bR l.length l=some (t,[])):kL l=((t.leaves:Int),(t.deep:Int),true):=by
 unfold kL oh;rw[h]
def JD(w:World)(r:Int×Int×Bool)(e:Ending)(w':World):Prop:=e= .returned (.tuple #[.int .i64 r.1,.int .i64 r.2.1,.bool r.2.2])∧Below w.heap.size w w'
theorem RS{w W:World}{v0 v1 v2:Value}{cs:Array Value}(hW:(((w.alloc (.cells #[v0] 3)).alloc (.cells #[v1] 3)).alloc (.cells #[v2] 4)).alloc (.cells cs 231)=W):
 Blk W w.heap.size 3 #[v0]∧Blk W (w.heap.size+1) 3 #[v1]∧Blk W (w.heap.size+2) 4 #[v2]∧Blk W (w.heap.size+3) 231 cs∧Below w.heap.size w W:=by
 obtain⟨W1,hW1⟩:∃W1,w.alloc (.cells #[v0] 3)=W1:=⟨_,rfl⟩;rw[hW1]at hW;obtain⟨W2,hW2⟩:∃W2,W1.alloc (.cells #[v1] 3)=W2:=⟨_,rfl⟩;rw[hW2]at hW;obtain⟨W3,hW3⟩:∃W3,W2.alloc (.cells #[v2] 4)=W3:=⟨_,rfl⟩;rw[hW3]at hW;have s1:=aA hW1;have s2:=aA hW2;have s3:=aA hW3;have n1:=Blk.newEq hW2;have n2:=Blk.newEq hW3;have n3:=Blk.newEq hW;rw[s1]at n1;rw[s2,s1]at n2;rw[s3,s2,s1]at n3;exact⟨(((Blk.newEq hW1).au hW2).au hW3).au hW,(n1.au hW3).au hW,n2.au hW,n3,ah (ah (ah (ah (Below.refl w.heap.size w) hW1 (Nat.le_refl _)) hW2 (by omega)) hW3 (by omega)) hW (by omega)⟩
set_option maxRecDepth 100000 in
theorem Fj(A:Option Addr)(c:Nat)(l:List Nod)(w:World)(h:bJ w (Old w) (.slice A l.length c) l)(hn:l.length≤100000000):Calls Tryz.prog 148 #[.slice A l.length c] w (JD w (kL l)):=by
 have hmf:∀(fn:Fn) (first cap:Array Value) (w:World),(Instr.makeFunc fn first cap).run Tryz.prog w= .ok (.func fn first cap) w:=fun _ _ _ _=>rfl;obtain⟨W0,hW0⟩:∃W0,(((w.alloc (.cells #[.int .i64 0] 3)).alloc (.cells #[.int .i64 0] 3)).alloc (.cells #[.bool false] 4)).alloc (.cells #[.slice A l.length c] 231)=W0:=⟨_,rfl⟩;obtain⟨k0,k1,k2,k3,hB⟩:=RS hW0;have hR:RdW W0 (w.heap.size+3) l:=⟨A,c,k3,h.keep (Agree.below hB fun b hb=>hb) fun b hb=>by show b<w.heap.size+3;have:b<w.heap.size:=hb;omega⟩;have hs:=hide (Qu (w.heap.size+3) l.length l W0 hR hn (Nat.le_refl _));have hN:=hide (Fe (l:=l));have hM:=hide (fun t n r=>Fg (l:=l) (t:=t) (n:=n) (r:=r));have hS:=hide (fun t=>Fh (l:=l) (t:=t));obtain⟨P,hP⟩:∃P,JD w (kL l)=P:=⟨_,rfl⟩;rw[hP];replace hP:=hide hP;clear h hR k3
 go_enter_defers Tryz.func148,Tryz.ntmps148
 have k2':Blk W0 (w.heap.size+1+1) 4 #[.bool false]:=k2;have hs':Hid (Calls Tryz.prog 204 #[.pointer (some ⟨w.heap.size+1+1+1,0,none⟩)] W0 (mO (w.heap.size+1+1+1) l.length l W0)):=hs;clear hs k2;go_wp2_with fail;refine hs'.out.mono ?_;rintro e w1 ⟨s1,s2,hT⟩;have j0:=hT.blk k0 (by decide);have j1:=hT.blk k1 (by decide);have j2:=hT.blk k2' (by decide);have hB1:Below w.heap.size w w1:=hB.trans (hT.below.mono (by omega));clear hs' k0 k1 k2' hB hT hW0;cases hq:bR l.length l with
 |none=>
  obtain rfl:=s1 hq;have e1:=hide (hN.out hq);clear s1 s2 hM hS hq;go_wp2;refine uF j0 j1 j2 rfl rfl rfl fun w' hb'=> ?_;rw[←hP.out];exact⟨by rw[e1.out],hB1.trans hb'⟩
 |some tr=>
  obtain⟨t,r⟩:=tr;obtain⟨rfl,hR1⟩:=s2 t r hq;have d0:=Blk.n0 j0;have d1:=Blk.n0 j1;have d2:=Blk.n0 j2;have f0:=j0.frozen 0;have f1:=j1.frozen 0;have f2:=j2.frozen 0;obtain⟨W2,hW2⟩:∃W2,(w1.setCell ⟨w.heap.size,0,none⟩ (.int .i64 (t.leaves:Int))).setCell ⟨w.heap.size+1,0,none⟩ (.int .i64 (t.deep:Int))=W2:=⟨_,rfl⟩;have hTy:TyW w.heap.size [3] w1 W2:=by
   rw[←hW2];exact(TyW.put j0 (Nat.le_refl _) (by simp) _).trans (TyW.put (j1.far (p:=⟨w.heap.size,0,none⟩) (by simp) _) (by omega) (by simp) _)
  have i0:Blk W2 w.heap.size 3 #[.int .i64 (t.leaves:Int)]:=by
   rw[←hW2];exact(j0.aM 0 _).far (p:=⟨w.heap.size+1,0,none⟩) (by simp) _
  have i1:Blk W2 (w.heap.size+1) 3 #[.int .i64 (t.deep:Int)]:=by
   rw[←hW2];exact(j1.far (p:=⟨w.heap.size,0,none⟩) (by simp) _).aM 0 _
  have i2:Blk W2 (w.heap.size+1+1) 4 #[.bool false]:=hTy.blk j2 (by decide);have hB2:=hB1.trans hTy.below;obtain⟨A',c',kr,-⟩:=hR1;have kr2:=hTy.blk kr (by decide);clear s1 s2 hN kr hTy j0 j1 j2;cases r with
  |nil=>
   have e1:=hide (hS.out t hq);have he:=hide (Ot (w.heap.size+1+1+1) A' c' W2 kr2);clear hM hS hq kr2;go_wp2_with fail;refine he.out.mono ?_;rintro e w' ⟨rfl,rfl⟩;clear he hW2 d0 d1 d2 f0 f1 f2;have d0:=Blk.n0 i0;have d1:=Blk.n0 i1;have d2:=Blk.n0 i2;have f0:=i0.frozen 0;have f1:=i1.frozen 0;have f2:=i2.frozen 0;go_wp2_with fail;go_region;have q0:=(((i0.aM 0 (.int .i64 (t.leaves:Int))).far (p:=⟨w.heap.size+1,0,none⟩) (by simp) (.int .i64 (t.deep:Int))).far (p:=⟨w.heap.size+1+1,0,none⟩) (by show w.heap.size≠w.heap.size+1+1;omega) (.bool true)).drew;have q1:=(((i1.far (p:=⟨w.heap.size,0,none⟩) (by simp) (.int .i64 (t.leaves:Int))).aM 0 (.int .i64 (t.deep:Int))).far (p:=⟨w.heap.size+1+1,0,none⟩) (by simp) (.bool true)).drew;have q2:=(((i2.far (p:=⟨w.heap.size,0,none⟩) (by show w.heap.size+1+1≠w.heap.size;omega) (.int .i64 (t.leaves:Int))).far (p:=⟨w.heap.size+1,0,none⟩) (by simp) (.int .i64 (t.deep:Int))).aM 0 (.bool true)).drew;have hB3:=(((hB2.setCell (p:=⟨w.heap.size,0,none⟩) (by simp) (.int .i64 (t.leaves:Int))).setCell (p:=⟨w.heap.size+1,0,none⟩) (by simp) (.int .i64 (t.deep:Int))).setCell (p:=⟨w.heap.size+1+1,0,none⟩) (by show w.heap.size≤w.heap.size+1+1;omega) (.bool true)).drew;generalize(((W2.setCell ⟨w.heap.size,0,none⟩ (.int .i64 (t.leaves:Int))).setCell ⟨w.heap.size+1,0,none⟩ (.int .i64 (t.deep:Int))).setCell ⟨w.heap.size+1+1,0,none⟩ (.bool true)).drew=W5 at*;go_wp2;refine AX q0 q1 q2 rfl rfl rfl fun w' hb'=> ?_;rw[←hP.out];exact⟨by rw[e1.out],hB3.trans (hb'.mono hB3.size)⟩
  |cons x r=>
   have e1:=hide (hM.out t x r hq);have he:=hide (Ou (w.heap.size+1+1+1) A' r.length c' W2 kr2);clear hM hS hq kr2;go_wp2_with fail;refine he.out.mono ?_;rintro e w' ⟨rfl,rfl⟩;go_wp2;refine uF i0 i1 i2 rfl rfl rfl fun w' hb'=> ?_;rw[←hP.out];exact⟨by rw[e1.out],hB2.trans hb'⟩
set_option maxHeartbeats 8000000
set_option maxRecDepth 100000 in
theorem Ov(A:Option Addr)(c:Nat)(H:List Txn)(t key:Int)(bh bc:Nat)(w:World)(h:aD w (Old w) (.slice A H.length c) H)(hn:aH H)(hbh:w.cell? ⟨bh,0,none⟩=some (.slice A H.length c))(hbc:w.cell? ⟨bc,0,none⟩=some (.int .i64 key)):
 Calls Tryz.prog 236 #[.int .i64 t,.pointer (some ⟨bh,0,none⟩),.pointer (some ⟨bc,0,none⟩)] w fun e w'=>e= .returned (.bool (wrB H t key))∧Below w.heap.size w w':=by
 have hlen:=hn.1;have G8:=hide (fun W (hW:Below w.heap.size w W)=>(hW.cell (p:=⟨bh,0,none⟩) (block_lt_of_cell hbh)).trans hbh);have hbc2:=hide (fun W (hW:Below w.heap.size w W)=>(hW.cell (p:=⟨bc,0,none⟩) (block_lt_of_cell hbc)).trans hbc);clear hbh hbc;by_cases h0:0≤t
 ·have h0b:decide (t≥0)=true:=(by simpa using h0);by_cases h1:t<(H.length:Int)
  ·obtain⟨m,rfl⟩:∃m:Nat,t=m:=⟨t.toNat,by omega⟩;have hm:m<H.length:=(by omega);have hr:=CF (key:=key) hm;rw[aJ hm]at hr;obtain⟨b,off,Aw,cw,Ar,cr,rfl,hbK,d0,d1,d2,hws,_⟩:=aD.at_ h hm;have hd1:=hide (fun W (hW:Below w.heap.size w W)=>(hW.cell (p:=⟨b,off+m*3+1,none⟩) hbK).trans d1);have hwl:H[m].writes.length≤maxLen:=(by have:=(hn.2 _ (List.getElem_mem hm)).1;unfold maxLen;omega);have hcc:=hide (fun W (hW:Below w.heap.size w W)=>dR Aw cw H[m].writes key (Old W) W (aP.below hws hW) hwl);generalize H[m].writes=L at*;generalize hqe:L.contains key=q at*;rw[hr];have hm1:decide (m<H.length)=true:=(by simpa using hm);have hm2:(0:Int)≤(m:Int):=Int.natCast_nonneg _;replace hn:=hide hn;clear h h0 hws d0 d1 d2 hr hqe;go_enter Tryz.func236,Tryz.ntmps236;go_upto_region 1 with fail;refine bD (fun W=>Below w.heap.size w W) (by kernel_rfl) (by kernel_rfl) (Below.refl _ _).drew ?_;refine⟨.int .i64 (m:Int),fun W hW=>(by go_wp2),?_⟩;refine⟨.bool true,fun W hW=>(by go_wp2),?_⟩;refine⟨.bool true,fun W hW=>(by go_wp2),?_⟩;refine⟨.int .i64 (m:Int),fun W hW=>(by go_wp2),?_⟩;refine⟨.pointer (some ⟨bh,0,none⟩),fun W hW=>(by go_wp2),?_⟩;refine⟨.slice (some ⟨b,off,none⟩) H.length c,fun W hW=>(by have v0:=G8.out W hW;go_wp2),?_⟩;refine⟨.int .i64 (H.length:Int),fun W hW=>(by go_wp2),?_⟩;refine⟨.bool true,fun W hW=>(by go_wp2),?_⟩;refine⟨.bool true,fun W hW=>(by go_wp2),?_⟩;refine⟨.bool true,fun W hW=>(by go_wp2),?_⟩;refine⟨.pointer (some ⟨bh,0,none⟩),fun W hW=>(by go_wp2),?_⟩;refine⟨.slice (some ⟨b,off,none⟩) H.length c,fun W hW=>(by have v0:=G8.out W hW;go_wp2),?_⟩;refine⟨.int .i64 (m:Int),fun W hW=>(by go_wp2),?_⟩;refine⟨.pointer (some ⟨b,off+m*3,none⟩),fun W hW=>(by go_wp2),?_⟩;refine⟨.pointer (some ⟨b,off+m*3+1,none⟩),fun W hW=>(by go_wp2),?_⟩;refine⟨.slice Aw L.length cw,fun W hW=>(by have v0:=hd1.out W hW;go_wp2),?_⟩;refine⟨.pointer (some ⟨bc,0,none⟩),fun W hW=>(by go_wp2),?_⟩;refine⟨.int .i64 key,fun W hW=>(by have v0:=hbc2.out W hW;go_wp2),?_⟩;refine⟨.bool q,fun W hW=>(by
    go_wp2_with fail;refine(hcc.out W hW).mono ?_;rintro e w' ⟨rfl,rfl⟩;go_wp2),?_⟩
   refine⟨.bool q,fun W hW=>(by go_wp2),?_⟩;refine⟨.bool q,fun W hW=>(by go_wp2),?_⟩;intro W5 hW5;simp only[Act.put,sA,sZ,sS];go_wp2;go_ret;exact⟨rfl,hW5⟩
  ·have hr:wrB H t key=false:=(by unfold wrB;simp;intro _ e;exact absurd e h1);have h1b:decide (t<(H.length:Int))=false:=(by simpa using h1);rw[hr];replace hn:=hide hn;clear h h0 h1 hr;go_enter Tryz.func236,Tryz.ntmps236;go_upto_region 1 with fail;refine bD (fun W=>Below w.heap.size w W) (by kernel_rfl) (by kernel_rfl) (Below.refl _ _).drew ?_;refine⟨.int .i64 t,fun W hW=>(by go_wp2),?_⟩;refine⟨.bool true,fun W hW=>(by go_wp2),?_⟩;refine⟨.bool true,fun W hW=>(by go_wp2),?_⟩;refine⟨.int .i64 t,fun W hW=>(by go_wp2),?_⟩;refine⟨.pointer (some ⟨bh,0,none⟩),fun W hW=>(by go_wp2),?_⟩;refine⟨.slice A H.length c,fun W hW=>(by have v0:=G8.out W hW;go_wp2),?_⟩;refine⟨.int .i64 (H.length:Int),fun W hW=>(by go_wp2),?_⟩;refine⟨.bool false,fun W hW=>(by go_wp2),?_⟩;refine⟨.bool false,fun W hW=>(by go_wp2),?_⟩;refine⟨.bool false,fun W hW=>(by go_wp2),?_⟩;refine⟨undef,fun W hW=>(by go_wp2),?_⟩;refine⟨undef,fun W hW=>(by go_wp2),?_⟩;refine⟨undef,fun W hW=>(by go_wp2),?_⟩;refine⟨undef,fun W hW=>(by go_wp2),?_⟩;refine⟨undef,fun W hW=>(by go_wp2),?_⟩;refine⟨undef,fun W hW=>(by go_wp2),?_⟩;refine⟨undef,fun W hW=>(by go_wp2),?_⟩;refine⟨undef,fun W hW=>(by go_wp2),?_⟩;refine⟨undef,fun W hW=>(by go_wp2),?_⟩;refine⟨.bool false,fun W hW=>(by go_wp2),?_⟩;refine⟨.bool false,fun W hW=>(by go_wp2),?_⟩;intro W5 hW5;simp only[Act.put,sA,sZ,sS];go_wp2;go_ret;exact⟨rfl,hW5⟩
 ·have hr:wrB H t key=false:=(by unfold wrB;simp;intro e;exact absurd e h0);have h0b:decide (t≥0)=false:=(by simpa using h0);rw[hr];replace hn:=hide hn;clear h h0 hr;go_enter Tryz.func236,Tryz.ntmps236;go_upto_region 1 with fail;refine bD (fun W=>Below w.heap.size w W) (by kernel_rfl) (by kernel_rfl) (Below.refl _ _).drew ?_;refine⟨.int .i64 t,fun W hW=>(by go_wp2),?_⟩;refine⟨.bool false,fun W hW=>(by go_wp2),?_⟩;refine⟨.bool false,fun W hW=>(by go_wp2),?_⟩;refine⟨undef,fun W hW=>(by go_wp2),?_⟩;refine⟨undef,fun W hW=>(by go_wp2),?_⟩;refine⟨undef,fun W hW=>(by go_wp2),?_⟩;refine⟨undef,fun W hW=>(by go_wp2),?_⟩;refine⟨undef,fun W hW=>(by go_wp2),?_⟩;refine⟨.bool false,fun W hW=>(by go_wp2),?_⟩;refine⟨.bool false,fun W hW=>(by go_wp2),?_⟩;refine⟨undef,fun W hW=>(by go_wp2),?_⟩;refine⟨undef,fun W hW=>(by go_wp2),?_⟩;refine⟨undef,fun W hW=>(by go_wp2),?_⟩;refine⟨undef,fun W hW=>(by go_wp2),?_⟩;refine⟨undef,fun W hW=>(by go_wp2),?_⟩;refine⟨undef,fun W hW=>(by go_wp2),?_⟩;refine⟨undef,fun W hW=>(by go_wp2),?_⟩;refine⟨undef,fun W hW=>(by go_wp2),?_⟩;refine⟨undef,fun W hW=>(by go_wp2),?_⟩;refine⟨.bool false,fun W hW=>(by go_wp2),?_⟩;refine⟨.bool false,fun W hW=>(by go_wp2),?_⟩;intro W5 hW5;simp only[Act.put,sA,sZ,sS];go_wp2;go_ret;exact⟨rfl,hW5⟩
set_option maxRecDepth 100000 in
theorem Dq(A:Option Addr)(c:Nat)(H:List Txn)(key a b:Int)(w:World)(h:aD w (Old w) (.slice A H.length c) H)(hn:aH H):
 Calls Tryz.prog 209 #[.agg #[.slice A H.length c],.agg #[.int .i64 key,.int .i64 a,.int .i64 b]] w fun e w'=>e= .returned (.bool (dn H ⟨key,a,b⟩))∧Below w.heap.size w w':=by
 obtain⟨W0,hW0⟩:∃W0,(w.alloc (.cells #[.slice A H.length c] 24)).alloc (.cells #[.int .i64 key,.int .i64 a,.int .i64 b] 102)=W0:=⟨_,rfl⟩;have hB:=aS hW0;have k0:=Blk.kG hW0;have k1:=Blk.jk hW0;have hT:=hide (h.below hB);have hcl:=hide (fun(t:Int) W (hW:Below W0.heap.size W0 W)=>Ov A c H t key w.heap.size (w.heap.size+1) W (hT.out.below hW) hn (by have:=(k0.below hW k0.lt).cell 0;simpa using this) (by have:=(k1.below hW k1.lt).cell 0;simpa using this));have c0:=Blk.n0 k1;have c1:=Blk.n1 k1;have c2:=Blk.n2 k1;have hone:Hid (dn H ⟨key,a,b⟩=(decide (a≠b)&&wrB H a key&&wrB H b key)):=hide rfl;obtain⟨r,hr⟩:∃r,dn H ⟨key,a,b⟩=r:=⟨_,rfl⟩;rw[hr]at hone;rw[hr];clear h hr;by_cases hab:a=b
 ·have g1:(a !=b)=false:=(by simp[hab]);have hre:r=false:=(by rw[hone.out];simp[hab]);subst hre;clear hab hone hcl;go_enter Tryz.func209,Tryz.ntmps209;go_wp2;go_ret;exact⟨rfl,hB⟩
 ·have g1:(a !=b)=true:=(by simpa using hab);have uj:=hide (show r=(wrB H a key&&wrB H b key) by rw[hone.out];simp[hab]);have h1:=hide (hcl.out a W0 (Below.refl _ _));have h2:=hide (fun W hW=>hcl.out b W hW);generalize wrB H a key=q1 at*;generalize wrB H b key=q2 at*;clear hab hone hcl;go_enter Tryz.func209,Tryz.ntmps209;go_wp2_with fail;refine h1.out.mono ?_;rintro e w1 ⟨rfl,hb1⟩;have d2:=(hb1.cell (p:=⟨w.heap.size+1,2,none⟩) k1.lt).trans c2;have hb2:=hB.trans (hb1.mono hB.size);have h3:=hide (h2.out w1 hb1);clear hW0 h1 h2 c0 c1 c2;cases q1 with
  |false=>
   have hre:r=false:=(by rw[uj.out];rfl);subst hre;clear h3 uj;go_wp2;go_ret;exact⟨rfl,hb2⟩
  |true=>
   have hre:r=q2:=(by rw[uj.out];rfl);subst hre;clear uj;go_wp2_with fail;refine h3.out.mono ?_;rintro e w2 ⟨rfl,hb3⟩;go_wp2;go_ret;exact⟨rfl,hb2.trans (hb3.mono hb2.size)⟩
theorem Ie(k a b:Int)(w:World):Calls Tryz.prog 208 #[.agg #[.int .i64 k,.int .i64 a,.int .i64 b]] w fun e w'=>e= .returned (.agg #[.int .i64 k,.int .i64 b,.int .i64 a])∧Below w.heap.size w w':=by
 obtain⟨W0,hW0⟩:∃W0,(w.alloc (.cells #[.int .i64 k,.int .i64 a,.int .i64 b] 102)).alloc (.cells #[.int .i64 0,.int .i64 0,.int .i64 0] 102)=W0:=⟨_,rfl⟩;have hb:=aS hW0;have k1:=Blk.kG hW0;have k2:=Blk.jk hW0;have a0:=Blk.n0 k1;have a1:=Blk.n1 k1;have a2:=Blk.n2 k1;have b0:=Blk.n0 k2;have b1:=Blk.n1 k2;have b2:=Blk.n2 k2;have f0:=k2.frozen 0;have f1:=k2.frozen 1;have f2:=k2.frozen 2;have hz:=hide (((hb.setCell (p:=⟨w.heap.size+1,0,none⟩) (by simp) (.int .i64 k)).setCell (p:=⟨w.heap.size+1,1,none⟩) (by simp) (.int .i64 b)).setCell (p:=⟨w.heap.size+1,2,none⟩) (by simp) (.int .i64 a));have hq:=((k2.aM 0 (.int .i64 k)).aM 1 (.int .i64 b)).aM 2 (.int .i64 a);simp only[sA,sZ,sS]at hq;have y0:=Blk.n0 hq;have y1:=Blk.n1 hq;have y2:=Blk.n2 hq;clear hq;go_enter Tryz.func208,Tryz.ntmps208;go_wp2_with fail;exact bodyPost_ret (v:= .agg #[.int .i64 k,.int .i64 b,.int .i64 a]) (by simp[results,Tryz.results208,go_sem,y0,y1,y2]) rfl ⟨rfl,hz.out⟩
theorem uG(k a b:Int)(w:World):Calls Tryz.prog 84 #[.agg #[.int .i64 k,.int .i64 a,.int .i64 b]] w fun e w'=>e= .returned (.agg #[.int .i64 k,.int .i64 b,.int .i64 a])∧Below w.heap.size w w':=by
 obtain⟨W0,hW0⟩:∃W0,(w.alloc (.cells #[.int .i64 k,.int .i64 a,.int .i64 b] 102)).alloc (.cells #[.int .i64 0,.int .i64 0,.int .i64 0] 102)=W0:=⟨_,rfl⟩;have hb:=aS hW0;have k1:=Blk.kG hW0;have k2:=Blk.jk hW0;have a0:=Blk.n0 k1;have a1:=Blk.n1 k1;have a2:=Blk.n2 k1;have b0:=Blk.n0 k2;have b1:=Blk.n1 k2;have b2:=Blk.n2 k2;have f0:=k2.frozen 0;have f1:=k2.frozen 1;have f2:=k2.frozen 2;have hz:=hide (((hb.setCell (p:=⟨w.heap.size+1,0,none⟩) (by simp) (.int .i64 k)).setCell (p:=⟨w.heap.size+1,1,none⟩) (by simp) (.int .i64 b)).setCell (p:=⟨w.heap.size+1,2,none⟩) (by simp) (.int .i64 a));have hq:=((k2.aM 0 (.int .i64 k)).aM 1 (.int .i64 b)).aM 2 (.int .i64 a);simp only[sA,sZ,sS]at hq;have y0:=Blk.n0 hq;have y1:=Blk.n1 hq;have y2:=Blk.n2 hq;clear hq;go_enter Tryz.func84,Tryz.ntmps84;go_wp2_with fail;exact bodyPost_ret (v:= .agg #[.int .i64 k,.int .i64 b,.int .i64 a]) (by simp[results,Tryz.results84,go_sem,y0,y1,y2]) rfl ⟨rfl,hz.out⟩
set_option maxHeartbeats 2000000
theorem sJ(A:Option Addr)(n c:Nat)(w:World)(h:n≤c):Calls Tryz.prog 82 #[.slice A n c] w fun e w'=>e= .returned (.slice A n n)∧w=w':=by
 have h1:(n:Int)≤(c:Int):=(by omega);have h0:(0:Int)≤(n:Int):=Int.natCast_nonneg _;go_enter Tryz.func82,Tryz.ntmps82;go_wp2;go_ret;exact⟨rfl,rfl⟩
theorem Ll{α:Type}{size:Nat}{enc:α→List Value}{w:World}{K:Nat→Prop}{ad:Addr}{n c:Nat}{l:List α}(h:SlR size (Flat enc) w K (.slice (some ad) n c) l)(hs:∀x,(enc x).length=size):∀(j:Nat) (u:Value),(l.map enc).flatten[j]?=some u→w.cell? (ad.add j)=some u:=by
 intro j u hj;obtain⟨i,k,cs,rfl,h1,h2⟩:=rJ (size:=size) (l.map enc) j u (fun i cs e=>by
  rw[List.getElem?_map]at e;obtain⟨x,-,rfl⟩:=Option.map_eq_some_iff.1 e;exact hs x) hj
 rw[List.getElem?_map]at h1;obtain⟨x,hx,rfl⟩:=Option.map_eq_some_iff.1 h1;obtain⟨hi,rfl⟩:=List.getElem?_eq_some_iff.1 hx;obtain⟨b,off,cs',e,-,-,hR,hc⟩:=h.at_ hi;injection e with e
 subst e;unfold Flat at hR;subst hR;have:=hc k u h2;rw[show(⟨b,off,none⟩:Addr).add (i*size+k)=⟨b,off+i*size+k,none⟩ by unfold Addr.add;split<;>simp_all<;>omega];exact this
theorem eT {P:Program} {w:World} {ops:Array Oper} {rest:List Oper} {o:Oper} {a:Act} {Q:Exit→Act→World→Prop} {α:Type} {enc:α→List Value}
 (hgd:o.guard=none) (s x:Operand) (t:TypeId) (ho:o.op= .call {callee:= .builtin .append,args:=#[s,x],argTypes:=#[t,t]})
 (e:TypeId) (i:TypeInfo) (z:Value) (size bytes:Nat) (ht:P.underlying t=some (.slice e)) (hi:P.info? e=some i) (hz:i.zero=some z)
 (hsize:i.size=size) (hby:i.bytes=bytes) (hzs:z.cells.size=size) (hsz:0<size)
 (ao:Option Addr) (K:Nat→Prop) (l:List α) (hs:a.eval s= .slice ao l.length l.length) (hl:SlR size (Flat enc) w K (.slice ao l.length l.length) l) (hen:∀x,(enc x).length=size)
 (g:Nat) (cs:Array Value) (x0:α) (kg:Blk w g e cs) (hcs:cs.toList=enc x0) (hx:a.eval x= .slice (some ⟨g,0,none⟩) 1 1)
 (h1:∀x,∀u∈enc x,u.oneCell'=true) (h63:l.length+1≤maxLen) (hbytes:(l.length+1)*bytes≤140737488355328)
 (h:∀v' w',w'.ownsRow w.heap.size e size v' (l++[x0]).length ((l++[x0]).map enc).flatten→Below w.heap.size w w'→wpList P ops Q rest (a.put o.dst v') w'):
 wpList P ops Q (o::rest) a w:=by
 refine wpList_append_grows w hgd s x t ho e i z size bytes ht hi hz hsize hby hzs hsz ao l.length l.length (l.map enc).flatten hs (fun e=> ?_) ?_ (fun b e=> ?_) ⟨g,0,none⟩ 1 1 (enc x0) hx (by rw[hen];omega) (fun j u hj=> ?_) (h1 x0) (by omega) h63 hbytes ?_
 ·rcases Nat.eq_zero_or_pos l.length with h0|h0
  ·exact⟨h0,h0⟩
  ·obtain⟨b,off,cs',e',-⟩:=hl.at_ h0;rw[e]at e';cases e'
 ·clear h hs hl h63 hbytes
  induction l with
  |nil=>simp
  |cons y l ih=>rw[List.map_cons,List.flatten_cons,List.length_append,hen,ih,List.length_cons,Nat.add_mul];omega
 ·subst e;exact Ll hl hen
 ·have:=kg.cell j;rw[show(⟨g,0,none⟩:Addr).add j=⟨g,j,none⟩ by unfold Addr.add;split<;>simp_all,this];rw[←hcs]at hj;simpa using hj
 ·intro v' w' g1 g2;refine h v' w' ?_ ((Below.refl _ _).grown g2 (Nat.le_refl _) (by simp));rw[List.map_append,List.flatten_append,List.length_append];simpa using g1
end Go.Proofs.YtfhnamomiaekdaaGreatDoor
namespace Go.Inq
open Go Go.RowKit
def Cho.jy(x:Cho):Value:= .agg #[.int .i64 x.key,.int .i64 x.a,.int .i64 x.b]
structure vO(P:Program)(k:TypeId):Prop where
 kind:∃fs,P.underlying k=some (.struct fs)
 check:∀(e:Bool) (x:Cho) (w:World),(Instr.checkKey e 10000 k x.jy).run P w= .ok () w
 eq:∀(x y:Cho) (w:World),(Op.equal k x.jy y.jy).run P w= .ok (decide (x=y)) w
section
variable{P:Program}{k:TypeId}{α:Type}{enc:α→Value}{w:World}{g:Nat}
def bU(x:Cho):List (Cho×α)→Option (Nat×α)
 |[]=>none
 |(y,v)::r=>if x=y then some (0,v)else(bU x r).map fun p=>(p.1+1,p.2)
def nQ(enc:α→Value):List MapEntry→List (Cho×α)→Prop
 |[],[]=>True
 |e::es,(y,v)::r=>e.key=y.jy∧e.val=enc v∧nQ enc es r
 |_,_=>False
theorem uH(K:vO P k)(x:Cho)(w:World):∀(es:List MapEntry) (l:List (Cho×α)) (i:Nat),nQ enc es l→
 (Instr.findAsking k x.jy es i).run P w= .ok ((bU x l).map fun p=>(i+p.1,enc p.2)) w
 |[],[],i,_=>by simp[Instr.findAsking,bU]
 |e::es,(y,v)::r,i,h=>by
  obtain⟨h1,h2,h3⟩:=h;unfold Instr.findAsking;simp only[Sem.run_bind,h1,K.eq,Result.andThen_ok,bU];by_cases hx:x=y
  ·simp[hx,h2]
  ·simp only[hx,decide_false,Bool.false_eq_true,if_false];rw[uH K x w es r (i+1) h3];congr 1;cases bU x r with
   |none=>rfl
   |some p=>simp;omega
theorem vP(K:vO P k)(x:Cho)(w:World)(es:List MapEntry)(l:List (Cho×α))(h:nQ enc es l):(Instr.findKey k x.jy es).run P w= .ok ((bU x l).map fun p=>(p.1,enc p.2)) w:=by
 obtain⟨fs,hk⟩:=K.kind;unfold Instr.findKey;simp only[Sem.run_bind,run_underlying hk,Result.andThen_ok];cases es with
 |nil=>
  cases l with
  |nil=>simp[Instr.findNow,bU]
  |cons a r=>exact h.elim
 |cons e es=>
  have:Instr.findNow (.struct fs) x.jy (e::es) 0=none:=(by simp[Instr.findNow,Instr.sameNow]);rw[this];have:=uH K x w (e::es) l 0 h;simpa using this
def AY(x:Cho)(v:α):List (Cho×α)→List (Cho×α)
 |[]=>[(x,v)]
 |(y,u)::r=>if x=y then(x,v)::r else(y,u)::AY x v r
theorem sK(x:Cho)(v:α)(y:Cho):∀l:List (Cho×α),(bU y (AY x v l)).map (·.2)=if y=x then some v else(bU y l).map (·.2)
 |[]=>by
  by_cases h:y=x<;>simp[AY,bU,h]
 |(z,u)::r=>by
  have ih:=sK x v y r;unfold AY;by_cases hz:x=z
  ·subst hz;rw[if_pos rfl];by_cases hy:y=x
   ·simp[bU,hy]
   ·simp[bU,hy]
  ·rw[if_neg hz];by_cases hy:y=z
   ·subst hy;simp[bU,Ne.symm hz]
   ·simp only[bU,if_neg hy,Option.map_map];have e:((fun p:Nat×α=>p.2)∘fun p:Nat×α=>(p.1+1,p.2))=fun p=>p.2:=rfl;rw[e];exact ih
theorem wQ{x:Cho}:∀{l:List (Cho×α)} {i:Nat} {u:α} {es:List MapEntry},bU x l=some (i,u)→nQ enc es l→(es[i]?).map (·.key)=some x.jy
 |[],_,_,_,h,_=>by simp[bU]at h
 |(y,w)::r,i,u,[],_,h=>h.elim
 |(y,w)::r,i,u,e::es,h,hr=>by
  obtain⟨h1,h2,h3⟩:=hr;unfold bU at h;by_cases hx:x=y
  ·rw[if_pos hx]at h;injection h with h
   injection h with h4 h5
   subst h4 hx;simp[h1]
  ·rw[if_neg hx]at h;cases ha:bU x r with
   |none=>rw[ha]at h;simp at h
   |some p=>
    rw[ha]at h;simp at h;obtain⟨rfl,rfl⟩:=h;have:=wQ (i:=p.1) (u:=p.2) ha h3;simpa using this
theorem rD{x:Cho}{v:α}:∀{l:List (Cho×α)} {i:Nat} {u:α} {es:List MapEntry},bU x l=some (i,u)→nQ enc es l→
 nQ enc (es.modify i fun e=>{e with key:=x.jy,val:=enc v}) (AY x v l)
 |[],_,_,_,h,_=>by simp[bU]at h
 |(y,w)::r,i,u,[],_,h=>h.elim
 |(y,w)::r,i,u,e::es,h,hr=>by
  obtain⟨h1,h2,h3⟩:=hr;unfold bU at h;unfold AY;by_cases hx:x=y
  ·rw[if_pos hx]at h⊢;injection h with h
   injection h with h4 h5
   subst h4;rw[List.modify_zero_cons];exact⟨rfl,rfl,h3⟩
  ·rw[if_neg hx]at h⊢;cases ha:bU x r with
   |none=>rw[ha]at h;simp at h
   |some p=>
    rw[ha]at h;simp at h;obtain⟨rfl,rfl⟩:=h;rw[List.modify_succ_cons];exact⟨h1,h2,rD (i:=p.1) (u:=p.2) ha h3⟩
theorem wR{x:Cho}{v:α}{c:Nat}:∀{l:List (Cho×α)} {es:List MapEntry},bU x l=none→nQ enc es l→nQ enc (es++[⟨x.jy,enc v,c⟩]) (AY x v l)
 |[],[],_,_=>⟨rfl,rfl,trivial⟩
 |[],e::es,_,h=>h.elim
 |(y,w)::r,[],_,h=>h.elim
 |(y,w)::r,e::es,h,hr=>by
  obtain⟨h1,h2,h3⟩:=hr;unfold bU at h;unfold AY;by_cases hx:x=y
  ·rw[if_pos hx]at h;cases h
  ·rw[if_neg hx]at h⊢;exact⟨h1,h2,wR (by simpa using h) h3⟩
def sM(enc:α→Value)(z:Value):Option α→Value
 |some v=>enc v
 |none=>z
def jA(enc:α→Value)(w:World)(g:Nat)(B:Cho→Option α):Prop:=
 ∃es clock l,w.heap[g]?=some (.map es clock)∧nQ enc es.toList l∧∀x,(bU x l).map (·.2)=B x
theorem jA.lt{B:Cho→Option α}(h:jA enc w g B):g<w.heap.size:=by
 obtain⟨es,c,l,h1,_⟩:=h;exact(Array.getElem?_eq_some_iff.1 h1).1
theorem jA.new(w:World):jA enc (w.alloc (.map #[] 0)) w.heap.size (fun _=>none):=⟨#[],0,[],(MapKept.heap_alloc w _).1,trivial,fun _=>rfl⟩
theorem jA.agree{w':World}{B:Cho→Option α}(h:jA enc w g B)(ha:w'.heap[g]?=w.heap[g]?):jA enc w' g B:=by
 obtain⟨es,c,l,h1,h2,h3⟩:=h;exact⟨es,c,l,ha.trans h1,h2,h3⟩
theorem jA.below{w':World}{n:Nat}{B:Cho→Option α}(h:jA enc w g B)(hb:Below n w w')(hg:g<n):jA enc w' g B:=h.agree (hb.block g hg)
theorem jA.same{B B':Cho→Option α}(h:jA enc w g B)(hB:∀x,B x=B' x):jA enc w g B':=by
 obtain⟨es,c,l,h1,h2,h3⟩:=h;exact⟨es,c,l,h1,h2,fun x=>(h3 x).trans (hB x)⟩
theorem jA.lookup(K:vO P k){t e:TypeId}{z:Value}(ht:P.underlying t=some (.map k e))(hz:∀w,(zeroValue e).run P w= .ok z w){B:Cho→Option α}(h:jA enc w g B)(x:Cho):
 (Instr.lookup t (.map (some g)) x.jy true).run P w= .ok (.tuple #[sM enc z (B x),.bool (B x).isSome]) w:=by
 obtain⟨es,c,l,h1,h2,h3⟩:=h;have hf:=vP K x w es.toList l h2;have hB:=h3 x;unfold Instr.lookup;simp only[Sem.run_bind,run_underlying ht,Result.andThen_ok,MapKept.run_getObj_map h1,Sem.run_pure,K.check,hf];cases ha:bU x l with
 |none=>
  rw[ha]at hB;rw[←hB];simp[hz,sM]
 |some p=>
  rw[ha]at hB;rw[←hB];simp[sM]
theorem jA.Qv(K:vO P k){t e:TypeId}{z:Value}(ht:P.underlying t=some (.map k e))(hz:∀w,(zeroValue e).run P w= .ok z w){B:Cho→Option α}(h:jA enc w g B)(x:Cho):
 (Instr.lookup t (.map (some g)) x.jy false).run P w= .ok (sM enc z (B x)) w:=by
 obtain⟨es,c,l,h1,h2,h3⟩:=h;have hf:=vP K x w es.toList l h2;have hB:=h3 x;unfold Instr.lookup;simp only[Sem.run_bind,run_underlying ht,Result.andThen_ok,MapKept.run_getObj_map h1,Sem.run_pure,K.check,hf];cases ha:bU x l with
 |none=>
  rw[ha]at hB;rw[←hB];simp[hz,sM]
 |some p=>
  rw[ha]at hB;rw[←hB];simp[sM]
theorem jA.update(K:vO P k){t e:TypeId}(ht:P.underlying t=some (.map k e)){B:Cho→Option α}(h:jA enc w g B)(x:Cho)(v:α):
 ∃es c,(Instr.mapUpdate t (.map (some g)) x.jy (enc v)).run P w= .ok () (ChangeMaps.setBlock w g (.map es c))∧jA enc (ChangeMaps.setBlock w g (.map es c)) g (fun y=>if y=x then some v else B y):=by
 have hg:=h.lt;obtain⟨es,c,l,h1,h2,h3⟩:=h;have hf:=vP K x w es.toList l h2;have hs:Instr.sameBits 10000 x.jy x.jy=true:=(by simp[Cho.jy,Instr.sameBits]);cases ha:bU x l with
 |none=>
  refine⟨es.push ⟨x.jy,enc v,c⟩,c+1,?_,⟨es.push ⟨x.jy,enc v,c⟩,c+1,AY x v l,?_,?_,fun y=> ?_⟩⟩
  ·unfold Instr.mapUpdate;simp only[Sem.run_bind,run_underlying ht,Result.andThen_ok,MapKept.run_getObj_map h1,K.check,hf,ha,Option.map_none];exact MapKept.run_setObj_map _ h1
  ·unfold ChangeMaps.setBlock;simp[hg]
  ·rw[Array.toList_push];exact wR ha h2
  ·rw[sK,h3]
 |some p=>
  obtain⟨i,u⟩:=p;have hk:=wQ ha h2;refine⟨es.modify i fun e=>{e with key:=x.jy,val:=enc v},c,?_,⟨es.modify i fun e=>{e with key:=x.jy,val:=enc v},c,AY x v l,?_,?_,fun y=> ?_⟩⟩
  ·unfold Instr.mapUpdate;simp only[Sem.run_bind,run_underlying ht,Result.andThen_ok,MapKept.run_getObj_map h1,K.check,hf,ha,Option.map_some];have hk2:((es[i]?).map (·.key)).getD x.jy=x.jy:=by
    rw[←Array.getElem?_toList,hk];rfl
   rw[hk2];unfold Instr.keyThatStays;rw[hs];simp only[if_true,Sem.run_pure,Result.andThen_ok];exact MapKept.run_setObj_map _ h1
  ·unfold ChangeMaps.setBlock;simp[hg]
  ·rw[Array.toList_modify];exact rD ha h2
  ·rw[sK,h3]
end
end Go.Inq
namespace Go.Proofs.YtfhnamomiaekdaaGreatDoor
open Go.RowKit Go.Inq
set_option maxHeartbeats 1000000
theorem Qw(x y:Cho)(w:World):(Op.equal 102 x.jy y.jy).run Tryz.prog w= .ok (decide (x=y)) w:=by
 unfold Op.equal Op.maxDepth Cho.jy;rw[run_equalIn_agg w 9999 102 _ _ (by kernel_rfl) (by kernel_rfl)];have h1:decide (x=y)=(x.key==y.key&&(x.a==y.a&&x.b==y.b)):=by
  rw[Bool.eq_iff_iff];simp only[decide_eq_true_eq,Bool.and_eq_true,beq_iff_eq];cases x;cases y;simp
 rw[h1];cases g0:(x.key==y.key)<;>cases g1:(x.a==y.a)<;>cases g2:(x.b==y.b)<;>simp[Program.fieldsOf,Tryz.underlying102,Op.eqFields,go_sem,g0,g1,g2]
theorem Ig(e:Bool)(x:Cho)(w:World):(Instr.checkKey e 10000 102 x.jy).run Tryz.prog w= .ok () w:=by
 kernel_rfl
theorem Ih:vO Tryz.prog 102:=⟨⟨_,Tryz.underlying102⟩,Ig,Qw⟩
def vR(b:Bool):Value:= .bool b
end Go.Proofs.YtfhnamomiaekdaaGreatDoor
namespace Go.Proofs.YtfhnamomiaekdaaGreatDoor
open Go.RowKit Go.Inq
set_option maxHeartbeats 8000000
attribute [local go_sem↓] Go.wp_at_zero Go.wp_at_succ
def KC(g:Nat)(w:World):Nat→Prop:=fun b=>b<g∨∃cs,Blk w b 102 cs
theorem KC.agree{g n0:Nat}{σ:List TypeId}{w w':World}(hT:TyW n0 σ w w')(hg:g≤n0)(hs:102∉σ):Agree (KC g w) w w':=fun b hb=>by
 rcases hb with hb|⟨cs,hb⟩
 ·exact hT.below.block b (by omega)
 ·exact(show w'.heap[b]?=_ from hT.blk hb hs).trans hb.symm
theorem KC.step{g n0:Nat}{σ:List TypeId}{w w':World}(hT:TyW n0 σ w w')(hs:102∉σ){b:Nat}(h:KC g w b):KC g w' b:=by
 rcases h with h|⟨cs,h⟩
 ·exact .inl h
 ·exact .inr ⟨cs,hT.blk h hs⟩
theorem KC.ty{g n0:Nat}{σ:List TypeId}{w w':World}{v:Value}{M:List Cho}(h:bC w (KC g w) v M)(hT:TyW n0 σ w w')(hg:g≤n0)(hs:102∉σ):bC w' (KC g w') v M:=
 bC.keep h (KC.agree hT hg hs) fun _ h=>KC.step hT hs h
theorem KC.own{g:Nat}{w:World}{v:Value}{M:List Cho}(h:w.ownsRow g 102 3 v M.length (M.map gU).flatten):bC w (KC g w) v M:=by
 have h2:aG 3 (Flat gU) w (KC g w) g 102 v M:=aG.flat h (fun _=>rfl);refine h2.sl fun b hb=> ?_;obtain⟨cs,h3⟩:=h2.blk hb;exact .inr ⟨cs,h3⟩
def RdV(w0:World)(g:Nat)(l:List Nod)(W:World):Prop:=∃A c,Blk W g 231 #[.slice A l.length c]∧bJ w0 (fun b=>b<g) (.slice A l.length c) l
theorem RdV.rd{w0 W:World}{g:Nat}{l:List Nod}(h:RdV w0 g l W)(ha:Agree (fun b=>b<g) w0 W):RdW W g l:=by
 obtain⟨A,c,h1,h2⟩:=h;exact⟨A,c,h1,h2.keep ha fun _ h=>h⟩
theorem RdW.rv{w0 W:World}{g:Nat}{l:List Nod}(h:RdW W g l)(ha:Agree (fun b=>b<g) w0 W):RdV w0 g l W:=by
 obtain⟨A,c,h1,h2⟩:=h;exact⟨A,c,h1,h2.keep (fun b hb=>(ha b hb).symm) fun _ h=>h⟩
def wRd(w0:World)(g:Nat)(l:List Nod):Wrd:=⟨[231],fun _ W=>RdV w0 g l W,fun _ _ _ _ _ h hT k=>by
 obtain⟨A,c,h1,h2⟩:=k;exact⟨A,c,hT.blk h1 (h _ (by simp)),h2⟩⟩
theorem bC.clip{w:World}{K:Nat→Prop}{A:Option Addr}{c:Nat}{M:List Cho}(h:bC w K (.slice A M.length c) M):bC w K (.slice A M.length M.length) M:=by
 obtain⟨A',c',xs,e,h1,h2,h3,h4⟩:=h;injection e with e1 e2 e3
 subst e1;exact⟨A,M.length,xs,rfl,Nat.le_refl _,h2,h3,h4⟩
theorem bC.TF{w:World}{K:Nat→Prop}{A:Option Addr}{c:Nat}{M:List Cho}(h:bC w K (.slice A M.length c) M):M.length≤c:=by
 obtain⟨_,_,e,h1⟩:=SlR.len h;simp only[Value.slice.injEq]at e;omega
def jT(g:Nat)(q:Bool)(rest:List Nod)(w:World)(e:Ending)(w':World):Prop:=e= .returned (.bool q)∧RdW w' g rest∧TyW g [231] w w'
set_option maxRecDepth 100000 in
theorem Fp (g:Nat) (A:Option Addr) (c:Nat) (H:List Txn) (level:Int) (n:Nod) (rest:List Nod) (M:List Cho) (Am:Option Addr) (cm:Nat) (w:World) (h:aD w (fun b=>b<g) (.slice A H.length c) H) (hn:aH H)
 (hM:bC w (KC g w) (.slice Am M.length cm) M) (hR:RdW w g (n::rest)) (hc:n.cyc≠[]) (hcl:n.cyc.length≤1000000) (hrl:rest.length+1≤maxLen) (hml:M.length≤1000000000):
 Calls Tryz.prog 149 #[.pointer (some ⟨g,0,none⟩),.agg #[.slice A H.length c],.int .i64 level,.slice Am M.length cm] w (jT g (decide (n.c=dw)&&iI H level M n.cyc) rest w):=by
 have hgl:=hR.lt;obtain⟨W1,hW1⟩:∃W1,w.alloc (.cells #[.slice A H.length c] 24)=W1:=⟨_,rfl⟩;have hb1:=ah (Below.refl w.heap.size w) hW1 (Nat.le_refl _);have k1:=Blk.newEq hW1;have hT1:TyW g [231] w W1:=TyW.calm hb1 (Nat.le_of_lt hgl);have hx:=hide (vN g n rest W1 (hR.below hb1) hrl);obtain⟨P,hP⟩:∃P,jT g (decide (n.c=dw)&&iI H level M n.cyc) rest w=P:=⟨_,rfl⟩;rw[hP];replace hP:=hide hP;go_enter Tryz.func149,Tryz.ntmps149;go_wp2_with fail;refine hx.out.mono ?_;rintro e w2 ⟨Ay,cy,rfl,hI,hR2,hT2⟩;clear hx hW1;have hT:=hT1.trans hT2;have k2:=hT2.blk k1 (by decide);obtain⟨⟨nk,na,nb⟩,nc⟩:=n;dsimp only at hc hcl hI hP⊢;have hsz:=hT.size;obtain⟨W3,hW3⟩:∃W3,w2.alloc (.cells #[.int .i64 nk,.int .i64 na,.int .i64 nb,.slice Ay nc.length cy] 125)=W3:=⟨_,rfl⟩;have hb3:=ah (Below.refl w2.heap.size w2) hW3 (Nat.le_refl _);have n3:=Blk.newEq hW3;have k3:=k2.below hb3 k2.lt;have hT3:TyW g [231] w W3:=hT.trans (TyW.calm hb3 (by omega));have hR3:=hR2.below hb3;have hI3:=hI.keep (Agree.below hb3 fun b (hb:b<g)=>by omega) fun _ h=>h;have h3:=aD.keep (K':=fun b=>b<g) h (Agree.below hT3.below fun b hb=>hb) fun _ h=>h;have hM3:=KC.ty hM hT3 (Nat.le_refl _) (by decide);have c0:=Blk.n0 k3;have m0:=Blk.n0 n3;have m1:=Blk.n1 n3;have m2:=Blk.n2 n3;have m3:=Blk.n3 n3;have g1:decide ((nc.length:Int)>0)=true:=(by have:=List.length_pos_iff.2 hc;simp;omega);have g2:decide (0<nc.length)=true:=(by have:=List.length_pos_iff.2 hc;simp;omega);have hrg:=hide (zi A c H level Am cm M Ay cy nc W3 (h3.fit fun b hb=>by show b<_;have:=hT3.size;omega) hn (hM3.fit fun b hb=>by
  rcases hb with hb|⟨cs,hb⟩
  ·show b<_;have:=hT3.size;omega
  ·exact hb.lt) hml (hI3.fit fun b hb=>by show b<_;have:=hT3.size;omega) (by omega))
 have hO:∀q W',q=(decide ((⟨nk,na,nb⟩:Cho)=dw)&&iI H level M nc)→Below W3.heap.size W3 W'→Hid (jT g (decide ((⟨nk,na,nb⟩:Cho)=dw)&&iI H level M nc) rest w (.returned (.bool q)) W'):=fun q W' e hb=>
  hide ⟨by rw[e],hR3.below hb,hT3.trans (TyW.calm hb (by have:=hT3.size;omega))⟩
 clear hR hM hI h k1 k2 hR2 hT hT1 hT2 hb1 hb3 n3 k3 hI3 h3 hM3 hc hT3 hR3;replace hO:=hide hO;by_cases hz:(⟨nk,na,nb⟩:Cho)=⟨0,0,0⟩
 ·injection hz with z0 z1 z2
  subst z0 z1 z2;go_upto_region 3 with fail;try rw[hW3]
  clear hW3;go_wp2_with fail;refine hrg.out.mono ?_;rintro e w4 ⟨rfl,hb4⟩;go_wp2;rw[←hP.out];exact(hO.out _ _ rfl hb4).out
 ·have hz0:decide ((⟨nk,na,nb⟩:Cho)=dw)=false:=decide_eq_false hz;have hO2:=hide (hO.out false W3 (by rw[hz0];rfl) (Below.refl _ _));have hsp:nk≠0∨(nk=0∧na≠0)∨(nk=0∧na=0∧nb≠0):=by
   by_cases q0:nk=0
   ·by_cases q1:na=0
    ·by_cases q2:nb=0
     ·subst q0 q1 q2;exact absurd rfl hz
     ·exact .inr (.inr ⟨q0,q1,q2⟩)
    ·exact .inr (.inl ⟨q0,q1⟩)
   ·exact .inl q0
  replace hO2:=hide hO2;replace hz:=hide hz;clear hO hrg hz0;rcases hsp with q|⟨rfl,q⟩|⟨rfl,rfl,q⟩
  ·have qb:(nk==0)=false:=(by simpa using q);clear q;go_upto_region 3 with fail;try rw[hW3]
   clear hW3;go_wp2;rw[←hP.out];exact hO2.out.out
  ·have qb:(na==0)=false:=(by simpa using q);clear q;go_upto_region 3 with fail;try rw[hW3]
   clear hW3;go_wp2;rw[←hP.out];exact hO2.out.out
  ·have qb:(nb==0)=false:=(by simpa using q);clear q;go_upto_region 3 with fail;try rw[hW3]
   clear hW3;go_wp2;rw[←hP.out];exact hO2.out.out
end Go.Proofs.YtfhnamomiaekdaaGreatDoor
