/-
  Walks: layer 24: refute.Shape, which recovers where a row is no tree.
-/
import Derived.ArgAppend
import Derived.MapKept
import Derived.ChangeMaps4
import Derived.Carry
import Derived.Test.YtfhnamomiaekdaaGreatDoorP28
import Derived.Test.YtfhnamomiaekdaaGreatDoorP07
import Derived.Test.YtfhnamomiaekdaaGreatDoorP05
import Derived.Test.YtfhnamomiaekdaaGreatDoorP13
import Derived.Test.YtfhnamomiaekdaaGreatDoorP09
import Derived.Test.YtfhnamomiaekdaaGreatDoorP24
import Derived.Test.YtfhnamomiaekdaaGreatDoorP17
import Derived.Test.YtfhnamomiaekdaaGreatDoorP11
import Derived.Test.YtfhnamomiaekdaaGreatDoorP25
import Derived.Test.YtfhnamomiaekdaaGreatDoorP02
import Derived.Test.YtfhnamomiaekdaaGreatDoorP27
set_option linter.unusedVariables false
set_option linter.unusedSimpArgs false
namespace Go.Proofs.YtfhnamomiaekdaaGreatDoor
open Go.RowKit Go.Inq
set_option maxHeartbeats 4000000
attribute [local go_sem↓] Go.wp_at_zero Go.wp_at_succ
set_option maxRecDepth 100000 in
theorem zy(w:World)(g:Nat):
 CallsD Tryz.prog 203 #[.pointer (some ⟨g,0,none⟩),.pointer (some ⟨g+1,0,none⟩),.pointer (some ⟨g+2,0,none⟩)] .returning w fun e u' w'=>e= .returned (.tuple #[])∧u'= .returning∧Below w.heap.size w w':=by
 refine callsD_of_wpS Tryz.func203 rfl fun c₀ cs hu=> ?_;change Code.wpS _ _ _ {tmps:=#[.pointer (some ⟨g,0,none⟩),.pointer (some ⟨g+1,0,none⟩),.pointer (some ⟨g+2,0,none⟩),undef,undef],defers:=[]} _ _;apply wpS_seq;apply wpS_region;simp[wpOpsS,go_sem,recoverD,hu,Exit.thenS];refine wpS_of_wp ?_;go_wp2;cases c₀
 simp_all [bodyPostS,results,Tryz.results203]
 exact Below.refl _ _
set_option maxRecDepth 100000 in
theorem qI(older:List PanicEntry)(w:World)(g:Nat)(v0 v1 v2:Value)(k0:Blk w g 3 #[v0])(k1:Blk w (g+1) 3 #[v1])(k2:Blk w (g+2) 4 #[v2]):
 CallsD Tryz.prog 203 #[.pointer (some ⟨g,0,none⟩),.pointer (some ⟨g+1,0,none⟩),.pointer (some ⟨g+2,0,none⟩)] (.panicking ({v:= .iface 294 (.agg #[]),recovered:=false}::older)) w fun e u' w'=>
  e= .returned (.tuple #[])∧u'= .panicking ({v:= .iface 294 (.agg #[]),recovered:=true}::older)∧
   Blk w' g 3 #[.int .i64 0]∧Blk w' (g+1) 3 #[.int .i64 0]∧Blk w' (g+2) 4 #[.bool false]∧Below g w w':=by
 refine callsD_of_wpS Tryz.func203 rfl fun c₀ cs hu=> ?_;change Code.wpS _ _ _ {tmps:=#[.pointer (some ⟨g,0,none⟩),.pointer (some ⟨g+1,0,none⟩),.pointer (some ⟨g+2,0,none⟩),undef,undef],defers:=[]} _ _;apply wpS_seq;apply wpS_region;simp[wpOpsS,go_sem,recoverD,hu,Exit.thenS];have f0:=k0.frozen 0;have f1:=k1.frozen 0;have f2:=k2.frozen 0;have d0:=Blk.n0 k0;have d1:=Blk.n0 k1;have d2:=Blk.n0 k2;refine wpS_of_wp ?_;go_wp2;refine⟨rfl,_,rfl,.tuple #[],by simp[results,Tryz.results203],rfl,rfl,?_,?_,?_,?_⟩
 ·exact((k0.aK 0 _).far (by simp) _).far (by simp) _
 ·exact((k1.far (by simp) _).aK 0 _).far (by simp) _
 ·exact((k2.far (by simp) _).far (by simp) _).aK 0 _
 ·exact(((Below.refl _ _).setCell (by simp) _).setCell (by simp) _).setCell (by simp) _
theorem yF {tmps:Array Value} {w:World} {g:Nat} {v0 v1 v2:Value} (h2:tmps.getD 2 undef= .pointer (some ⟨g,0,none⟩)) (h3:tmps.getD 3 undef= .pointer (some ⟨g+1,0,none⟩)) (h4:tmps.getD 4 undef= .pointer (some ⟨g+2,0,none⟩))
 (k0:Blk w g 3 #[v0]) (k1:Blk w (g+1) 3 #[v1]) (k2:Blk w (g+2) 4 #[v2]):(results Tryz.f148 tmps).run Tryz.prog w= .ok (.tuple #[v0,v1,v2]) w:=by
 have c0:=Blk.n0 k0;have c1:=Blk.n0 k1;have c2:=Blk.n0 k2;have e2:tmps[2]?.getD undef= .pointer (some ⟨g,0,none⟩):=(by simpa using h2);have e3:tmps[3]?.getD undef= .pointer (some ⟨g+1,0,none⟩):=(by simpa using h3);have e4:tmps[4]?.getD undef= .pointer (some ⟨g+2,0,none⟩):=(by simpa using h4);unfold results;simp[Tryz.results148,e2,e3,e4,go_sem,c0,c1,c2]
def Fu(g:Nat):Deferred:={target:= .fn (.func 203) #[.pointer (some ⟨g,0,none⟩),.pointer (some ⟨g+1,0,none⟩),.pointer (some ⟨g+2,0,none⟩)],args:=#[]}
theorem qJ {R:Ending→World→Prop} {tmps:Array Value} {w:World} {g:Nat} {v0 v1 v2:Value} (k0:Blk w g 3 #[v0]) (k1:Blk w (g+1) 3 #[v1]) (k2:Blk w (g+2) 4 #[v2])
 (h2:tmps.getD 2 undef= .pointer (some ⟨g,0,none⟩)) (h3:tmps.getD 3 undef= .pointer (some ⟨g+1,0,none⟩)) (h4:tmps.getD 4 undef= .pointer (some ⟨g+2,0,none⟩))
 (h:∀w',Below g w w'→R (.returned (.tuple #[.int .i64 0,.int .i64 0,.bool false])) w'):
 Leaves Tryz.prog Tryz.f148 tmps R [Fu g] (.panicking zx) w:=by
 refine leaves_cons (f:=203) (args:=#[.pointer (some ⟨g,0,none⟩),.pointer (some ⟨g+1,0,none⟩),.pointer (some ⟨g+2,0,none⟩)]) (by simp) (by simp[go_sem]) ?_;refine(qI [] w g v0 v1 v2 k0 k1 k2).mono ?_;rintro e u' w'' ⟨rfl,rfl,j0,j1,j2,hb⟩;exact⟨_,yF h2 h3 h4 j0 j1 j2,h w'' hb⟩
theorem wQ {R:Ending→World→Prop} {tmps:Array Value} {w:World} {g:Nat} {v0 v1 v2:Value} (k0:Blk w g 3 #[v0]) (k1:Blk w (g+1) 3 #[v1]) (k2:Blk w (g+2) 4 #[v2])
 (h2:tmps.getD 2 undef= .pointer (some ⟨g,0,none⟩)) (h3:tmps.getD 3 undef= .pointer (some ⟨g+1,0,none⟩)) (h4:tmps.getD 4 undef= .pointer (some ⟨g+2,0,none⟩))
 (h:∀w',Below w.heap.size w w'→R (.returned (.tuple #[v0,v1,v2])) w'):Leaves Tryz.prog Tryz.f148 tmps R [Fu g] .returning w:=by
 refine leaves_cons (f:=203) (args:=#[.pointer (some ⟨g,0,none⟩),.pointer (some ⟨g+1,0,none⟩),.pointer (some ⟨g+2,0,none⟩)]) (by simp) (by simp[go_sem]) ?_;refine(zy w g).mono ?_;rintro e u' w'' ⟨rfl,rfl,hb⟩;exact⟨_,yF h2 h3 h4 (k0.below hb k0.lt) (k1.below hb k1.lt) (k2.below hb k2.lt),h w'' hb⟩
def jv(l:List Nod):Int×Int×Bool:=match lZ l with
 |some t=>((t.leaves:Int),(t.deep:Int),true)
 |none=>(0,0,false)
theorem BL{l:List Nod}(h:bG l.length l=none):jv l=(0,0,false):=by
 unfold jv lZ;rw[h]
theorem BM{l:List Nod}{t:Tr}{n:Nod}{r:List Nod}(h:bG l.length l=some (t,n::r)):jv l=(0,0,false):=by
 unfold jv lZ;rw[h]
theorem BN{l:List Nod}{t:Tr}(h:bG l.length l=some (t,[])):jv l=((t.leaves:Int),(t.deep:Int),true):=by
 unfold jv lZ;rw[h]
def Fv(w:World)(r:Int×Int×Bool)(e:Ending)(w':World):Prop:=e= .returned (.tuple #[.int .i64 r.1,.int .i64 r.2.1,.bool r.2.2])∧Below w.heap.size w w'
theorem M5{w W:World}{v0 v1 v2:Value}{cs:Array Value}(hW:(((w.alloc (.cells #[v0] 3)).alloc (.cells #[v1] 3)).alloc (.cells #[v2] 4)).alloc (.cells cs 231)=W):
 Blk W w.heap.size 3 #[v0]∧Blk W (w.heap.size+1) 3 #[v1]∧Blk W (w.heap.size+2) 4 #[v2]∧Blk W (w.heap.size+3) 231 cs∧Below w.heap.size w W:=by
 obtain⟨W1,hW1⟩:∃W1,w.alloc (.cells #[v0] 3)=W1:=⟨_,rfl⟩;rw[hW1]at hW;obtain⟨W2,hW2⟩:∃W2,W1.alloc (.cells #[v1] 3)=W2:=⟨_,rfl⟩;rw[hW2]at hW;obtain⟨W3,hW3⟩:∃W3,W2.alloc (.cells #[v2] 4)=W3:=⟨_,rfl⟩;rw[hW3]at hW;have s1:=aD hW1;have s2:=aD hW2;have s3:=aD hW3;have n1:=Blk.newEq hW2;have n2:=Blk.newEq hW3;have n3:=Blk.newEq hW;rw[s1]at n1;rw[s2,s1]at n2;rw[s3,s2,s1]at n3;exact⟨(((Blk.newEq hW1).av hW2).av hW3).av hW,(n1.av hW3).av hW,n2.av hW,n3,ah (ah (ah (ah (Below.refl w.heap.size w) hW1 (Nat.le_refl _)) hW2 (by omega)) hW3 (by omega)) hW (by omega)⟩
set_option maxRecDepth 100000 in
theorem BO(A:Option Addr)(c:Nat)(l:List Nod)(w:World)(h:ig w (Old w) (.slice A l.length c) l)(hn:l.length≤100000000):Calls Tryz.prog 148 #[.slice A l.length c] w (Fv w (jv l)):=by
 have hmf:∀(fn:Fn) (first cap:Array Value) (w:World),(Instr.makeFunc fn first cap).run Tryz.prog w= .ok (.func fn first cap) w:=fun _ _ _ _=>rfl;obtain⟨W0,hW0⟩:∃W0,(((w.alloc (.cells #[.int .i64 0] 3)).alloc (.cells #[.int .i64 0] 3)).alloc (.cells #[.bool false] 4)).alloc (.cells #[.slice A l.length c] 231)=W0:=⟨_,rfl⟩;obtain⟨k0,k1,k2,k3,hB⟩:=M5 hW0;have hR:RdW W0 (w.heap.size+3) l:=⟨A,c,k3,h.keep (Agree.below hB fun b hb=>hb) fun b hb=>by show b<w.heap.size+3;have:b<w.heap.size:=hb;omega⟩;have hs:=hide (Lr (w.heap.size+3) l.length l W0 hR hn (Nat.le_refl _));have hN:=hide (BL (l:=l));have hM:=hide (fun t n r=>BM (l:=l) (t:=t) (n:=n) (r:=r));have hS:=hide (fun t=>BN (l:=l) (t:=t));obtain⟨P,hP⟩:∃P,Fv w (jv l)=P:=⟨_,rfl⟩;rw[hP];replace hP:=hide hP;clear h hR k3
 go_enter_defers Tryz.func148,Tryz.ntmps148
 have k2':Blk W0 (w.heap.size+1+1) 4 #[.bool false]:=k2;have hs':Hid (Calls Tryz.prog 204 #[.pointer (some ⟨w.heap.size+1+1+1,0,none⟩)] W0 (kK (w.heap.size+1+1+1) l.length l W0)):=hs;clear hs k2;go_wp2_with fail;refine hs'.out.mono ?_;rintro e w1 ⟨s1,s2,hT⟩;have j0:=hT.blk k0 (by decide);have j1:=hT.blk k1 (by decide);have j2:=hT.blk k2' (by decide);have hB1:Below w.heap.size w w1:=hB.trans (hT.below.mono (by omega));clear hs' k0 k1 k2' hB hT hW0;cases hq:bG l.length l with
 |none=>
  obtain rfl:=s1 hq;have e1:=hide (hN.out hq);clear s1 s2 hM hS hq;go_wp2;refine qJ j0 j1 j2 rfl rfl rfl fun w' hb'=> ?_;rw[←hP.out];exact⟨by rw[e1.out],hB1.trans hb'⟩
 |some tr=>
  obtain⟨t,r⟩:=tr;obtain⟨rfl,hR1⟩:=s2 t r hq;have d0:=Blk.n0 j0;have d1:=Blk.n0 j1;have d2:=Blk.n0 j2;have f0:=j0.frozen 0;have f1:=j1.frozen 0;have f2:=j2.frozen 0;obtain⟨W2,hW2⟩:∃W2,(w1.setCell ⟨w.heap.size,0,none⟩ (.int .i64 (t.leaves:Int))).setCell ⟨w.heap.size+1,0,none⟩ (.int .i64 (t.deep:Int))=W2:=⟨_,rfl⟩;have hTy:TyW w.heap.size [3] w1 W2:=by
   rw[←hW2];exact(TyW.put j0 (Nat.le_refl _) (by simp) _).trans (TyW.put (j1.far (p:=⟨w.heap.size,0,none⟩) (by simp) _) (by omega) (by simp) _)
  have i0:Blk W2 w.heap.size 3 #[.int .i64 (t.leaves:Int)]:=by
   rw[←hW2];exact(j0.aK 0 _).far (p:=⟨w.heap.size+1,0,none⟩) (by simp) _
  have i1:Blk W2 (w.heap.size+1) 3 #[.int .i64 (t.deep:Int)]:=by
   rw[←hW2];exact(j1.far (p:=⟨w.heap.size,0,none⟩) (by simp) _).aK 0 _
  have i2:Blk W2 (w.heap.size+1+1) 4 #[.bool false]:=hTy.blk j2 (by decide);have hB2:=hB1.trans hTy.below;obtain⟨A',c',kr,-⟩:=hR1;have kr2:=hTy.blk kr (by decide);clear s1 s2 hN kr hTy j0 j1 j2;cases r with
  |nil=>
   have e1:=hide (hS.out t hq);have he:=hide (Kr (w.heap.size+1+1+1) A' c' W2 kr2);clear hM hS hq kr2;go_wp2_with fail;refine he.out.mono ?_;rintro e w' ⟨rfl,rfl⟩;clear he hW2 d0 d1 d2 f0 f1 f2;have d0:=Blk.n0 i0;have d1:=Blk.n0 i1;have d2:=Blk.n0 i2;have f0:=i0.frozen 0;have f1:=i1.frozen 0;have f2:=i2.frozen 0;go_wp2_with fail;go_region;have q0:=(((i0.aK 0 (.int .i64 (t.leaves:Int))).far (p:=⟨w.heap.size+1,0,none⟩) (by simp) (.int .i64 (t.deep:Int))).far (p:=⟨w.heap.size+1+1,0,none⟩) (by show w.heap.size≠w.heap.size+1+1;omega) (.bool true)).drew;have q1:=(((i1.far (p:=⟨w.heap.size,0,none⟩) (by simp) (.int .i64 (t.leaves:Int))).aK 0 (.int .i64 (t.deep:Int))).far (p:=⟨w.heap.size+1+1,0,none⟩) (by simp) (.bool true)).drew;have q2:=(((i2.far (p:=⟨w.heap.size,0,none⟩) (by show w.heap.size+1+1≠w.heap.size;omega) (.int .i64 (t.leaves:Int))).far (p:=⟨w.heap.size+1,0,none⟩) (by simp) (.int .i64 (t.deep:Int))).aK 0 (.bool true)).drew;have hB3:=(((hB2.setCell (p:=⟨w.heap.size,0,none⟩) (by simp) (.int .i64 (t.leaves:Int))).setCell (p:=⟨w.heap.size+1,0,none⟩) (by simp) (.int .i64 (t.deep:Int))).setCell (p:=⟨w.heap.size+1+1,0,none⟩) (by show w.heap.size≤w.heap.size+1+1;omega) (.bool true)).drew;generalize(((W2.setCell ⟨w.heap.size,0,none⟩ (.int .i64 (t.leaves:Int))).setCell ⟨w.heap.size+1,0,none⟩ (.int .i64 (t.deep:Int))).setCell ⟨w.heap.size+1+1,0,none⟩ (.bool true)).drew=W5 at*;go_wp2;refine wQ q0 q1 q2 rfl rfl rfl fun w' hb'=> ?_;rw[←hP.out];exact⟨by rw[e1.out],hB3.trans (hb'.mono hB3.size)⟩
  |cons x r=>
   have e1:=hide (hM.out t x r hq);have he:=hide (Kt (w.heap.size+1+1+1) A' r.length c' W2 kr2);clear hM hS hq kr2;go_wp2_with fail;refine he.out.mono ?_;rintro e w' ⟨rfl,rfl⟩;go_wp2;refine qJ i0 i1 i2 rfl rfl rfl fun w' hb'=> ?_;rw[←hP.out];exact⟨by rw[e1.out],hB2.trans hb'⟩
set_option maxHeartbeats 2000000
def tF(w:World)(K:Nat→Prop)(v:Value)(l:List (Value×Bool)):Prop:=SlR 1 (Flat fun x:Value×Bool=>[x.1]) w K v l
theorem tF.below{w w':World}{v:Value}{l:List (Value×Bool)}(h:tF w (Old w) v l)(hb:Below w.heap.size w w'):tF w' (Old w') v l:=SlR.below (Flat.bf _) h hb
theorem tF.at_{w:World}{K:Nat→Prop}{A:Option Addr}{n c:Nat}{l:List (Value×Bool)}(h:tF w K (.slice A n c) l){i:Nat}(hi:i<l.length):
 ∃b off,A=some ⟨b,off,none⟩∧K b∧w.cell? ⟨b,off+i,none⟩=some l[i].1:=by
 obtain⟨b,off,cs,hA,hK,_,hR,hc⟩:=SlR.at_ h hi;unfold Flat at hR;subst hR;have:=hc 0 _ rfl;rw[Nat.mul_one,Nat.add_zero]at this;exact⟨b,off,hA,hK,this⟩
set_option maxRecDepth 100000 in
theorem BP (f:Nat) (hf:∀args w,(callFunc f args).run Tryz.prog w= .ok (.enter f args) w) (lb:Array Value) (p:It→Bool) (A:Option Addr) (c:Nat) (l:List (It)) (w:World) (h:ItS w (Old w) (.slice A l.length c) l) (hl:l.length≤1000000000)
 (hp:∀W,Below w.heap.size w W→∀x∈l,Calls Tryz.prog f (#[.agg #[.int .i64 x.a,.int .i64 x.b]]++lb) W fun e W'=>e= .returned (.bool (p x))∧Below W.heap.size W W'):
 Calls Tryz.prog 257 #[.slice A l.length c,.func (.func f) #[] lb] w fun e w'=>e= .returned (.int .i64 (pW p l))∧Below w.heap.size w w':=by
 have hhit:=hide (fun k=>iE (p:=p) (l:=l) (k:=k));have hnone:=hide (gq (p:=p) (l:=l));replace h:=hide h;replace hp:=hide hp;go_enter Tryz.func257,Tryz.ntmps257;go_wp2_with fail;go_loopw [8] (fun s8 wr=>∃k:Nat,k≤l.length∧s8= .int .i64 k∧Hid (∀j (hj:j<l.length),j<k→p l[j]=false)∧Below w.heap.size w wr) (fun s8 _=>l.length-(intOf s8).toNat);case atStart=>exact⟨0,Nat.zero_le _,by go_num,fun j hj h=>absurd h (by omega),Below.refl _ _⟩
 case round=>
  obtain⟨k,hk,rfl,hall,hb⟩:=hrel;have hk1:(0:Int)≤(k:Int):=Int.natCast_nonneg _;by_cases hlt:k<l.length
  ·have hi2:(k:Int)<(l.length:Int):=(by omega);obtain⟨b,off,rfl,_,d0,d1⟩:=(h.out.below hb).at_ hlt;have hcall:=hide (hp.out _ hb _ (List.getElem_mem hlt));have hh:=hide (fun g=>hhit.out k hlt g hall.out);have hst:Hid (p l[k]=false→∀j (hj:j<l.length),j<k+1→p l[j]=false):=fun g j hj hjk=>by
    by_cases e:j=k
    ·subst e;exact g
    ·exact hall.out j hj (by omega)
   clear hall;generalize l[k]=x at*;go_wp2_with fail;refine hcall.out.mono ?_;rintro e W2 ⟨rfl,hb2⟩;have hb3:=hb.trans (hb2.mono hb.size);cases hpx:p x with
   |true=>
    have hr:=hide (hh.out hpx);clear hpx hh hst hcall;go_wp2;go_ret;exact⟨bV hr.out.symm,hb3⟩
   |false=>
    have hr:=hide (hst.out hpx);clear hpx hh hst hcall;go_wp2;go_roundw;case rel=>exact⟨k+1,by omega,by go_num,hr,hb3⟩
    case measure=>simp[intOf];omega
  ·have hr:=hide (hnone.out fun j hj=>hall.out j hj (by omega));go_wp2;go_ret;exact⟨bV hr.out.symm,hb⟩
theorem gT (f:Nat) (hf:∀args w,(callFunc f args).run Tryz.prog w= .ok (.enter f args) w) (lb:Array Value) (p:It→Bool) (A:Option Addr) (c:Nat) (l:List (It)) (w:World) (h:ItS w (Old w) (.slice A l.length c) l) (hl:l.length≤1000000000)
 (hp:∀W,Below w.heap.size w W→∀x∈l,Calls Tryz.prog f (#[.agg #[.int .i64 x.a,.int .i64 x.b]]++lb) W fun e W'=>e= .returned (.bool (p x))∧Below W.heap.size W W'):
 Calls Tryz.prog 217 #[.slice A l.length c,.func (.func f) #[] lb] w fun e w'=>e= .returned (.bool (l.any p))∧Below w.heap.size w w':=by
 have hd:=hide (iF p l);have hcall:=hide (BP f hf lb p A c l w h hl hp);clear hp hf h;go_enter Tryz.func217,Tryz.ntmps217;go_wp2_with fail;refine hcall.out.mono ?_;rintro e w1 ⟨rfl,hb⟩;clear hcall;go_wp2;go_ret;exact⟨by rw[←hd.out];rfl,hb⟩
set_option maxRecDepth 100000 in
theorem BQ (f:Nat) (hf:∀args w,(callFunc f args).run Tryz.prog w= .ok (.enter f args) w) (lb:Array Value) (p:Cho→Bool) (A:Option Addr) (c:Nat) (l:List (Cho)) (w:World) (h:bR w (Old w) (.slice A l.length c) l) (hl:l.length≤1000000000)
 (hp:∀W,Below w.heap.size w W→∀x∈l,Calls Tryz.prog f (#[.agg #[.int .i64 x.key,.int .i64 x.a,.int .i64 x.b]]++lb) W fun e W'=>e= .returned (.bool (p x))∧Below W.heap.size W W'):
 Calls Tryz.prog 301 #[.slice A l.length c,.func (.func f) #[] lb] w fun e w'=>e= .returned (.int .i64 (pW p l))∧Below w.heap.size w w':=by
 have hhit:=hide (fun k=>iE (p:=p) (l:=l) (k:=k));have hnone:=hide (gq (p:=p) (l:=l));replace h:=hide h;replace hp:=hide hp;go_enter Tryz.func301,Tryz.ntmps301;go_wp2_with fail;go_loopw [8] (fun s8 wr=>∃k:Nat,k≤l.length∧s8= .int .i64 k∧Hid (∀j (hj:j<l.length),j<k→p l[j]=false)∧Below w.heap.size w wr) (fun s8 _=>l.length-(intOf s8).toNat);case atStart=>exact⟨0,Nat.zero_le _,by go_num,fun j hj h=>absurd h (by omega),Below.refl _ _⟩
 case round=>
  obtain⟨k,hk,rfl,hall,hb⟩:=hrel;have hk1:(0:Int)≤(k:Int):=Int.natCast_nonneg _;by_cases hlt:k<l.length
  ·have hi2:(k:Int)<(l.length:Int):=(by omega);obtain⟨b,off,rfl,_,d0,d1,d2⟩:=(h.out.below hb).at_ hlt;have hcall:=hide (hp.out _ hb _ (List.getElem_mem hlt));have hh:=hide (fun g=>hhit.out k hlt g hall.out);have hst:Hid (p l[k]=false→∀j (hj:j<l.length),j<k+1→p l[j]=false):=fun g j hj hjk=>by
    by_cases e:j=k
    ·subst e;exact g
    ·exact hall.out j hj (by omega)
   clear hall;generalize l[k]=x at*;go_wp2_with fail;refine hcall.out.mono ?_;rintro e W2 ⟨rfl,hb2⟩;have hb3:=hb.trans (hb2.mono hb.size);cases hpx:p x with
   |true=>
    have hr:=hide (hh.out hpx);clear hpx hh hst hcall;go_wp2;go_ret;exact⟨bV hr.out.symm,hb3⟩
   |false=>
    have hr:=hide (hst.out hpx);clear hpx hh hst hcall;go_wp2;go_roundw;case rel=>exact⟨k+1,by omega,by go_num,hr,hb3⟩
    case measure=>simp[intOf];omega
  ·have hr:=hide (hnone.out fun j hj=>hall.out j hj (by omega));go_wp2;go_ret;exact⟨bV hr.out.symm,hb⟩
theorem vJ (f:Nat) (hf:∀args w,(callFunc f args).run Tryz.prog w= .ok (.enter f args) w) (lb:Array Value) (p:Cho→Bool) (A:Option Addr) (c:Nat) (l:List (Cho)) (w:World) (h:bR w (Old w) (.slice A l.length c) l) (hl:l.length≤1000000000)
 (hp:∀W,Below w.heap.size w W→∀x∈l,Calls Tryz.prog f (#[.agg #[.int .i64 x.key,.int .i64 x.a,.int .i64 x.b]]++lb) W fun e W'=>e= .returned (.bool (p x))∧Below W.heap.size W W'):
 Calls Tryz.prog 298 #[.slice A l.length c,.func (.func f) #[] lb] w fun e w'=>e= .returned (.bool (l.any p))∧Below w.heap.size w w':=by
 have hd:=hide (iF p l);have hcall:=hide (BQ f hf lb p A c l w h hl hp);clear hp hf h;go_enter Tryz.func298,Tryz.ntmps298;go_wp2_with fail;refine hcall.out.mono ?_;rintro e w1 ⟨rfl,hb⟩;clear hcall;go_wp2;go_ret;exact⟨by rw[←hd.out];rfl,hb⟩
set_option maxRecDepth 100000 in
theorem BR (f:Nat) (hf:∀args w,(callFunc f args).run Tryz.prog w= .ok (.enter f args) w) (lb:Array Value) (p:Value×Bool→Bool) (A:Option Addr) (c:Nat) (l:List (Value×Bool)) (w:World) (h:tF w (Old w) (.slice A l.length c) l) (hl:l.length≤1000000000)
 (hp:∀W,Below w.heap.size w W→∀x∈l,Calls Tryz.prog f (#[x.1]++lb) W fun e W'=>e= .returned (.bool (p x))∧Below W.heap.size W W'):
 Calls Tryz.prog 277 #[.slice A l.length c,.func (.func f) #[] lb] w fun e w'=>e= .returned (.int .i64 (pW p l))∧Below w.heap.size w w':=by
 have hhit:=hide (fun k=>iE (p:=p) (l:=l) (k:=k));have hnone:=hide (gq (p:=p) (l:=l));replace h:=hide h;replace hp:=hide hp;go_enter Tryz.func277,Tryz.ntmps277;go_wp2_with fail;go_loopw [8] (fun s8 wr=>∃k:Nat,k≤l.length∧s8= .int .i64 k∧Hid (∀j (hj:j<l.length),j<k→p l[j]=false)∧Below w.heap.size w wr) (fun s8 _=>l.length-(intOf s8).toNat);case atStart=>exact⟨0,Nat.zero_le _,by go_num,fun j hj h=>absurd h (by omega),Below.refl _ _⟩
 case round=>
  obtain⟨k,hk,rfl,hall,hb⟩:=hrel;have hk1:(0:Int)≤(k:Int):=Int.natCast_nonneg _;by_cases hlt:k<l.length
  ·have hi2:(k:Int)<(l.length:Int):=(by omega);obtain⟨b,off,rfl,_,d0⟩:=(h.out.below hb).at_ hlt;have hcall:=hide (hp.out _ hb _ (List.getElem_mem hlt));have hh:=hide (fun g=>hhit.out k hlt g hall.out);have hst:Hid (p l[k]=false→∀j (hj:j<l.length),j<k+1→p l[j]=false):=fun g j hj hjk=>by
    by_cases e:j=k
    ·subst e;exact g
    ·exact hall.out j hj (by omega)
   clear hall;generalize l[k]=x at*;go_wp2_with fail;refine hcall.out.mono ?_;rintro e W2 ⟨rfl,hb2⟩;have hb3:=hb.trans (hb2.mono hb.size);cases hpx:p x with
   |true=>
    have hr:=hide (hh.out hpx);clear hpx hh hst hcall;go_wp2;go_ret;exact⟨bV hr.out.symm,hb3⟩
   |false=>
    have hr:=hide (hst.out hpx);clear hpx hh hst hcall;go_wp2;go_roundw;case rel=>exact⟨k+1,by omega,by go_num,hr,hb3⟩
    case measure=>simp[intOf];omega
  ·have hr:=hide (hnone.out fun j hj=>hall.out j hj (by omega));go_wp2;go_ret;exact⟨bV hr.out.symm,hb⟩
theorem vK (f:Nat) (hf:∀args w,(callFunc f args).run Tryz.prog w= .ok (.enter f args) w) (lb:Array Value) (p:Value×Bool→Bool) (A:Option Addr) (c:Nat) (l:List (Value×Bool)) (w:World) (h:tF w (Old w) (.slice A l.length c) l) (hl:l.length≤1000000000)
 (hp:∀W,Below w.heap.size w W→∀x∈l,Calls Tryz.prog f (#[x.1]++lb) W fun e W'=>e= .returned (.bool (p x))∧Below W.heap.size W W'):
 Calls Tryz.prog 273 #[.slice A l.length c,.func (.func f) #[] lb] w fun e w'=>e= .returned (.bool (l.any p))∧Below w.heap.size w w':=by
 have hd:=hide (iF p l);have hcall:=hide (BR f hf lb p A c l w h hl hp);clear hp hf h;go_enter Tryz.func273,Tryz.ntmps273;go_wp2_with fail;refine hcall.out.mono ?_;rintro e w1 ⟨rfl,hb⟩;clear hcall;go_wp2;go_ret;exact⟨by rw[←hd.out];rfl,hb⟩
set_option maxHeartbeats 1000000
set_option maxHeartbeats 4000000
def M6(w:World)(base:Nat)(v:Value)(l:List Nat):Prop:=w.ownsRow base 172 1 v l.length (l.map FW).flatten
theorem M6.form{w:World}{base:Nat}{v:Value}{l:List Nat}(h:M6 w base v l):∃A c,v= .slice A l.length c:=bH h
def RG(W:World)(base n:Nat)(E:au)(v:Value):Prop:=
 (n=0∧v= .slice none 0 0)∨∃g cap cur,v= .slice (some ⟨g,0,none⟩) n cap∧base≤g∧Blk W g 172 cur∧n≤cap∧cap≤maxLen∧cur.size=cap∧∀i,i<n→cur[i]?=some (.int .u64 (bX (E i) n:Nat))
theorem RG.Cu{W:World}{base n:Nat}{E:au}{v:Value}(h:M6 W base v (dA n E)):RG W base n E v:=by
 obtain⟨h1,h2⟩:=h;rw[aM]at h2;rcases h2 with⟨h3,h4⟩|⟨g,cap,cur,h3,h4,h5,h6,h7,h8,h9⟩
 ·exact .inl ⟨h4,h3⟩
 ·refine .inr ⟨g,cap,cur,h3,h4,h5,h6,h7,by rw[h8];simp,fun i hi=> ?_⟩;have h10:(cur.toList.take (n*1))[i]?=some (.int .u64 (bX (E i) n:Nat)):=by
   rw[h9];have:∀l:List Nat,(l.map FW).flatten=l.map fun x:Nat=>Value.int .u64 x:=fun l=>by
    induction l with
    |nil=>rfl
    |cons a l ih=>simp[FW]at ih⊢;exact ih
   rw[this,List.getElem?_map,List.getElem?_eq_getElem (by rw[aM];exact hi),fC hi];rfl
  rw[List.getElem?_take]at h10;split at h10
  ·simpa using h10
  ·cases h10
theorem zQ(n:Nat):dA n noE=List.replicate n 0:=by
 unfold dA;rw[List.eq_replicate_iff];refine⟨by simp,fun x hx=> ?_⟩;obtain⟨a,_,rfl⟩:=List.mem_map.1 hx;refine Nat.eq_of_testBit_eq fun j=> ?_;rw[aL];simp[noE]
theorem RG.add{W:World}{base n:Nat}{E:au}{g cap:Nat}(h:RG W base n E (.slice (some ⟨g,0,none⟩) n cap)){x y:Nat}(hx:x<n)(hy:y<n)(hn:n≤64):
 RG (W.setCell ⟨g,x,none⟩ (.int .u64 (mJ (bX (E x) n) (y:Int):Nat))) base n (orE E (iQ x y)) (.slice (some ⟨g,0,none⟩) n cap):=by
 rcases h with⟨h1,h2⟩|⟨g',cap',cur,h1,h2,h3,h4,h5,h6,h7⟩
 ·cases h2
 ·simp only[Value.slice.injEq,Option.some.injEq,Addr.mk.injEq,and_true,true_and]at h1;obtain⟨rfl,rfl⟩:=h1;refine .inr ⟨g,cap,_,rfl,h2,h3.aK x _,h4,h5,by simp[h6],fun i hi=> ?_⟩;rw[qU hy hn];by_cases e:i=x
  ·subst e;rw[Array.getElem?_setIfInBounds_self_of_lt (by omega)];congr 3;refine fJ fun b hb=> ?_;simp[orE,iQ]
  ·rw[Array.getElem?_setIfInBounds_ne (by omega),h7 i hi];congr 3;refine fJ fun b hb=> ?_;simp[orE,iQ,e]
end Go.Proofs.YtfhnamomiaekdaaGreatDoor
namespace Go.Proofs.YtfhnamomiaekdaaGreatDoor
open Go.RowKit Go.Inq
theorem RG.keep{W W':World}{B n:Nat}{E:au}{v:Value}(h:RG W B n E v)(hk:∀g,B≤g→g<W.heap.size→W'.heap[g]?=W.heap[g]?):RG W' B n E v:=by
 rcases h with h|⟨g,cap,cur,h1,h2,h3,r⟩
 ·exact .inl h
 ·exact .inr ⟨g,cap,cur,h1,h2,(hk g h2 h3.lt).trans h3,r⟩
theorem RG.below{W W':World}{B B' n:Nat}{E:au}{v:Value}(h:RG W B n E v)(hb:Below B' W W')(hB:W.heap.size≤B'):RG W' B n E v:=h.keep fun g _ hg=>hb.block g (by omega)
theorem RG.alloc{W:World}{B n:Nat}{E:au}{v:Value}(h:RG W B n E v)(o:Obj):RG (W.alloc o) B n E v:=h.keep fun g _ hg=>Below.heap_alloc W o g hg
theorem RG.far{W:World}{B n:Nat}{E:au}{v:Value}(h:RG W B n E v){p:Addr}(hp:p.block<B)(u:Value):RG (W.setCell p u) B n E v:=h.keep fun g hg _=>Below.heap_setCell W p u g (by omega)
theorem RG.drew{W:World}{B n:Nat}{E:au}{v:Value}(h:RG W B n E v):RG W.drew B n E v:=h.keep fun _ _ _=>rfl
theorem RG.congr{W:World}{base n:Nat}{E F:au}{v:Value}(h:RG W base n E v)(hE:∀a b,a<n→b<n→E a b=F a b):RG W base n F v:=by
 rcases h with h|⟨g,cap,cur,h1,h2,h3,h4,h5,h6,h7⟩
 ·exact .inl h
 ·exact .inr ⟨g,cap,cur,h1,h2,h3,h4,h5,h6,fun i hi=>by rw[h7 i hi];congr 3;exact fJ fun b hb=>hE i b hi hb⟩
structure RGP(W:World)(B p n:Nat)(E:au)(A:Option Addr)(c:Nat):Prop where
 box:Blk W p 140 #[.int .i64 n,.slice A n c]
 rg:RG W B n E (.slice A n c)
 lt:∀g,A=some g→g.block<p
 n64:n≤64
section
variable{W W':World}{B p n:Nat}{E F:au}{A:Option Addr}{c:Nat}
theorem RGP.plt(h:RGP W B p n E A c):p<W.heap.size:=h.box.lt
theorem RGP.c0(h:RGP W B p n E A c):W.cell? ⟨p,0,none⟩=some (.int .i64 n):=by simpa using h.box.cell 0
theorem RGP.c1(h:RGP W B p n E A c):W.cell? ⟨p,1,none⟩=some (.slice A n c):=by simpa using h.box.cell 1
theorem RGP.below(h:RGP W B p n E A c){B':Nat}(hb:Below B' W W')(hB:W.heap.size≤B'):RGP W' B p n E A c:=
 ⟨h.box.below hb (Nat.lt_of_lt_of_le h.plt hB),h.rg.below hb hB,h.lt,h.n64⟩
theorem RGP.alloc(h:RGP W B p n E A c)(o:Obj):RGP (W.alloc o) B p n E A c:=⟨h.box.alloc o,h.rg.alloc o,h.lt,h.n64⟩
theorem RGP.drew(h:RGP W B p n E A c):RGP W.drew B p n E A c:=⟨h.box.drew,h.rg.drew,h.lt,h.n64⟩
theorem RGP.drewN(h:RGP W B p n E A c)(k:Nat):RGP (W.drewN k) B p n E A c:=⟨h.box.drewN k,h.rg.keep fun _ _ _=>rfl,h.lt,h.n64⟩
theorem RGP.congr(h:RGP W B p n E A c)(hE:∀a b,a<n→b<n→E a b=F a b):RGP W B p n F A c:=⟨h.box,h.rg.congr hE,h.lt,h.n64⟩
structure RGX(W:World)(B p n x:Nat)(E:au)(g c:Nat):Prop where
 box:RGP W B p n E (some ⟨g,0,none⟩) c
 c0:W.cell? ⟨p,0,none⟩=some (.int .i64 n)
 c1:W.cell? ⟨p,1,none⟩=some (.slice (some ⟨g,0,none⟩) n c)
 at_:W.cell? ⟨g,x,none⟩=some (.int .u64 (bX (E x) n:Nat))
 fr:W.frozen? ⟨g,x,none⟩=false
 gp:g<p
 gl:g<W.heap.size
 B:B≤g
 h64:bX (E x) n<18446744073709551616
theorem RGP.at_(h:RGP W B p n E A c){x:Nat}(hx:x<n):∃g,A=some ⟨g,0,none⟩∧RGX W B p n x E g c:=by
 rcases h.rg with⟨h1,_⟩|⟨g,cap,cur,h1,h2,h3,h4,h5,h6,h7⟩
 ·omega
 ·simp only[Value.slice.injEq,true_and]at h1;obtain⟨rfl,rfl⟩:=h1;exact⟨g,rfl,h,h.c0,h.c1,(h3.cell x).trans (h7 x hx),h3.frozen x,h.lt _ rfl,h3.lt,h2,gI h.n64⟩
theorem RGX.add{x:Nat}{g:Nat}(h:RGX W B p n x E g c){y:Nat}(hx:x<n)(hy:y<n):
 RGP (W.setCell ⟨g,x,none⟩ (.int .u64 (mJ (bX (E x) n) (y:Int):Nat))) B p n (orE E (iQ x y)) (some ⟨g,0,none⟩) c:=
 ⟨h.box.box.far (p:=⟨g,x,none⟩) (Nat.ne_of_gt h.gp) _,h.box.rg.add hx hy h.box.n64,h.box.lt,h.box.n64⟩
end
end Go.Proofs.YtfhnamomiaekdaaGreatDoor
namespace Go.Proofs.YtfhnamomiaekdaaGreatDoor
open Go.RowKit Go.Inq
set_option maxHeartbeats 8000000
attribute [local go_sem↓] Go.wp_at_zero Go.wp_at_succ
set_option maxRecDepth 100000 in
theorem lS(A:Option Addr)(c:Nat)(H:List Txn)(t:Nat)(key:Int)(w:World)(h:aA w (Old w) (.slice A H.length c) H)(hn:aG H)(ht:t<H.length):
 Calls Tryz.prog 300 #[.agg #[.slice A H.length c],.int .i64 (t:Int),.int .i64 key] w fun e w'=>e= .returned (.bool ((aF H t).writes.contains key))∧Below w.heap.size w w':=by
 obtain⟨W0,hW0⟩:∃W0,w.alloc (.cells #[.slice A H.length c] 24)=W0:=⟨_,rfl⟩;have hB:=ah (Below.refl w.heap.size w) hW0 (Nat.le_refl _);have k0:=Blk.newEq hW0;have hT:=h.below hB;have ht0:(0:Int)≤(t:Int):=Int.natCast_nonneg _;have ht1:(t:Int)<(H.length:Int):=(by omega);obtain⟨b,off,Aw,cw,Ar,cr,rfl,_,d0,d1,d2,hws,_⟩:=aA.at_ hT ht;have hwl:H[t].writes.length≤maxLen:=(by have:=(hn.2 _ (List.getElem_mem ht)).1;unfold maxLen;omega);have hc:=hide (bZ Aw cw H[t].writes key (Old W0) W0 hws hwl);rw[aH ht];generalize H[t].writes=L at*;generalize L.contains key=q at*;have c0:=Blk.n0 k0;replace hn:=hide hn;clear h hT hws;go_enter Tryz.func300,Tryz.ntmps300;go_wp2_with fail;clear hW0 c0 d0 d1 d2;refine hc.out.mono ?_;rintro e w1 ⟨rfl,rfl⟩;go_wp2;go_ret;exact⟨rfl,hB⟩
set_option maxRecDepth 100000 in
theorem Eh(A:Option Addr)(c:Nat)(H:List Txn)(x y:Nat)(v:Value)(w:World)(h:aA w (Old w) (.slice A H.length c) H)(hx:x<H.length)(hy:y<H.length):
 Calls Tryz.prog 294 #[.agg #[],.agg #[.slice A H.length c],.int .i64 (x:Int),.int .i64 (y:Int)] w fun e w'=>e= .returned (.bool (soE H x y))∧Below w.heap.size w w':=by
 have hx0:(0:Int)≤(x:Int):=Int.natCast_nonneg _;have hx1:(x:Int)<(H.length:Int):=(by omega);have hy0:(0:Int)≤(y:Int):=Int.natCast_nonneg _;have hy1:(y:Int)<(H.length:Int):=(by omega);have hso:soE H x y=(decide (x<y)&&decide (H[x].dH=H[y].dH)):=(by unfold soE;rw[aH hx,aH hy]);obtain⟨W0,hW0⟩:∃W0,(w.alloc (.cells #[] 317)).alloc (.cells #[.slice A H.length c] 24)=W0:=⟨_,rfl⟩;have hB:=aN hW0;have k1:=Blk.iB hW0;have hT:=h.below hB;obtain⟨b,off,Aw,cw,Ar,cr,rfl,_,d0,-,-,-,-⟩:=aA.at_ hT hx;obtain⟨b',off',Aw',cw',Ar',cr',e',_,d1,-,-,-,-⟩:=aA.at_ hT hy;injection e' with e'
 injection e' with e1 e2
 subst e1 e2;have c0:=Blk.n0 k1;rw[hso];generalize H[x].dH=sx at*;generalize H[y].dH=sy at*;have hbz:=hide (fun(nq:Nat)=>(hB.trans ⟨rfl,rfl,rfl,Nat.le_refl _,fun _ _=>rfl⟩:Below w.heap.size w (W0.drewN nq)));clear h hT hso;by_cases hlt:x<y
 ·have g1:decide (x<y)=true:=(by simpa using hlt);rw[g1,Bool.true_and];by_cases he:sx=sy
  ·subst he;have g2:decide (sx=sx)=true:=(by simp);rw[g2];go_enter Tryz.func294,Tryz.ntmps294;go_wp2;go_quiet (fail);go_wp2;go_ret;exact⟨rfl,hbz.out _⟩
  ·have g2:(sx==sy)=false:=(by simpa using he);have g3:decide (sx=sy)=false:=(by simpa using he);rw[g3];clear he g3;go_enter Tryz.func294,Tryz.ntmps294;go_wp2;go_quiet (fail);go_wp2;go_ret;exact⟨rfl,hbz.out _⟩
 ·have g1:decide (x<y)=false:=(by simpa using hlt);rw[g1,Bool.false_and];clear hlt;go_enter Tryz.func294,Tryz.ntmps294;go_wp2;go_quiet (fail);go_wp2;go_ret;exact⟨rfl,hbz.out _⟩
theorem H7(r:It)(x:Nat)(bx:Nat)(w:World)(hbx:w.cell? ⟨bx,0,none⟩=some (.int .i64 (x:Int))):
 Calls Tryz.prog 296 #[.agg #[.int .i64 r.a,.int .i64 r.b],.pointer (some ⟨bx,0,none⟩)] w fun e w'=>e= .returned (.bool (decide (r.b=(x:Int))))∧Below w.heap.size w w':=by
 obtain⟨ra,rb⟩:=r;dsimp only;obtain⟨W0,hW0⟩:∃W0,w.alloc (.cells #[.int .i64 ra,.int .i64 rb] 106)=W0:=⟨_,rfl⟩;have hB:=ah (Below.refl w.heap.size w) hW0 (Nat.le_refl _);have k0:=Blk.newEq hW0;have Ri:=(hB.cell (p:=⟨bx,0,none⟩) (block_lt_of_cell hbx)).trans hbx;have c0:=Blk.n0 k0;have c1:=Blk.n1 k0;have hq:decide (rb=(x:Int))=(rb==(x:Int)):=(by rw[Bool.eq_iff_iff];simp);rw[hq];obtain⟨q,hqe⟩:∃q,(rb==(x:Int))=q:=⟨_,rfl⟩;rw[hqe];clear hq hbx;go_enter Tryz.func296,Tryz.ntmps296;go_wp2;go_ret;exact⟨rfl,hB⟩
set_option maxRecDepth 100000 in
theorem Ei(A:Option Addr)(c:Nat)(H:List Txn)(x y:Nat)(w:World)(h:aA w (Old w) (.slice A H.length c) H)(hn:aG H)(hy:y<H.length):
 Calls Tryz.prog 295 #[.agg #[],.agg #[.slice A H.length c],.int .i64 (x:Int),.int .i64 (y:Int)] w fun e w'=>e= .returned (.bool (rG H x y))∧Below w.heap.size w w':=by
 have hy0:(0:Int)≤(y:Int):=Int.natCast_nonneg _;have hy1:(y:Int)<(H.length:Int):=(by omega);obtain⟨W0,hW0⟩:∃W0,((w.alloc (.cells #[] 318)).alloc (.cells #[.slice A H.length c] 24)).alloc (.cells #[.int .i64 (x:Int)] 3)=W0:=⟨_,rfl⟩;have hB:=iC hW0;have k1:=Blk.uo hW0;have k2:=Blk.uq hW0;have hT:=h.below hB;obtain⟨b,off,Aw,cw,Ar,cr,rfl,_,d0,d1,d2,-,hrs⟩:=aA.at_ hT hy;have hrl:H[y].reads.length≤1000000:=(hn.2 _ (List.getElem_mem hy)).2;have hc:=hide (gT 296 (enters_of Tryz.func296 (by kernel_rfl) rfl) #[.pointer (some ⟨w.heap.size+1+1,0,none⟩)] (fun r=>decide (r.b=(x:Int))) Ar cr H[y].reads W0 hrs (by omega) (fun W hbW r _=>H7 r x _ W (by have:=(k2.below hbW k2.lt).cell 0;simpa using this)));have hre:rG H x y=H[y].reads.any fun r=>decide (r.b=(x:Int)):=(by unfold rG;rw[aH hy]);rw[hre];generalize H[y].reads=R at*;generalize(R.any fun r=>decide (r.b=(x:Int)))=q at*;have c0:=Blk.n0 k1;clear h hT hrs hre;go_enter Tryz.func295,Tryz.ntmps295;go_wp2_with fail;refine hc.out.mono ?_;rintro e w1 ⟨rfl,hb1⟩;go_wp2;go_ret;exact⟨rfl,hB.trans (hb1.mono hB.size)⟩
set_option maxRecDepth 100000 in
theorem H8 (A:Option Addr) (c:Nat) (H:List Txn) (ch:Cho) (x y:Nat) (bx by' bh:Nat) (w:World) (h:aA w (Old w) (.slice A H.length c) H) (hn:aG H) (hx:x<H.length) (hy:y<H.length)
 (hbx:w.cell? ⟨bx,0,none⟩=some (.int .i64 (x:Int))) (hby:w.cell? ⟨by',0,none⟩=some (.int .i64 (y:Int))) (hbh:w.cell? ⟨bh,0,none⟩=some (.slice A H.length c)):
 Calls Tryz.prog 299 #[.agg #[.int .i64 ch.key,.int .i64 ch.a,.int .i64 ch.b],.pointer (some ⟨bx,0,none⟩),.pointer (some ⟨by',0,none⟩),.pointer (some ⟨bh,0,none⟩)] w fun e w'=>e= .returned (.bool (vC H x y ch))∧Below w.heap.size w w':=by
 obtain⟨key,a,b⟩:=ch;dsimp only;obtain⟨W0,hW0⟩:∃W0,w.alloc (.cells #[.int .i64 key,.int .i64 a,.int .i64 b] 102)=W0:=⟨_,rfl⟩;have hB:=ah (Below.refl w.heap.size w) hW0 (Nat.le_refl _);have k0:=Blk.newEq hW0;have e0:=(hB.cell (p:=⟨bx,0,none⟩) (block_lt_of_cell hbx)).trans hbx;have e1:=(hB.cell (p:=⟨by',0,none⟩) (block_lt_of_cell hby)).trans hby;have e2:=(hB.cell (p:=⟨bh,0,none⟩) (block_lt_of_cell hbh)).trans hbh;have hT:=hide (h.below hB);have c0:=Blk.n0 k0;have c1:=Blk.n1 k0;have c2:=Blk.n2 k0;have hp:Hid (vC H x y ⟨key,a,b⟩=(decide (a=(x:Int))&&decide (b=(y:Int))&&decide (x≠y)&&(aF H x).writes.contains key&&(aF H y).writes.contains key)):=hide rfl;obtain⟨r,hr⟩:∃r,vC H x y ⟨key,a,b⟩=r:=⟨_,rfl⟩;rw[hr]at hp;rw[hr];clear h hbx hby hbh hr;by_cases h1:a=(x:Int)
 ·have g1:(a==(x:Int))=true:=(by simpa using h1);by_cases h2:b=(y:Int)
  ·have g2:(b==(y:Int))=true:=(by simpa using h2);by_cases h3:x=y
   ·have hre:r=false:=(by rw[hp.out];simp[h3]);have g3:((x:Int) !=(y:Int))=false:=(by simp[h3]);have g4:(x !=y)=false:=(by simp[h3]);subst hre;clear h1 h2 h3;clear hp;go_enter Tryz.func299,Tryz.ntmps299;go_wp2;go_ret;exact⟨rfl,hB⟩
   ·have g3:((x:Int) !=(y:Int))=true:=(by simp;omega);have g4:(x !=y)=true:=(by simp[h3]);have hp2:=hide (show r=((aF H x).writes.contains key&&(aF H y).writes.contains key) by rw[hp.out];simp[h1,h2,h3]);have hw1:=hide (lS A c H x key W0 hT.out hn hx);have hw2:=hide (fun W (hb:Below W0.heap.size W0 W)=>lS A c H y key W (hT.out.below hb) hn hy);generalize(aF H x).writes.contains key=q1 at*;generalize(aF H y).writes.contains key=q2 at*;clear h1 h2 h3 hp;go_enter Tryz.func299,Tryz.ntmps299;go_wp2_with fail;refine hw1.out.mono ?_;rintro e w1 ⟨rfl,hb1⟩;have e1':=(hb1.cell (p:=⟨by',0,none⟩) (block_lt_of_cell e1)).trans e1;have e2':=(hb1.cell (p:=⟨bh,0,none⟩) (block_lt_of_cell e2)).trans e2;have c0':=(hb1.cell (p:=⟨w.heap.size,0,none⟩) k0.lt).trans c0;have hw3:=hide (hw2.out w1 hb1);have hb2:=hB.trans (hb1.mono hB.size);clear hW0 hw1 hw2 e0 e1 e2 c0 c1 c2;cases q1 with
    |false=>
     have hre:r=false:=(by rw[hp2.out];rfl);subst hre;clear hp2;go_wp2;go_ret;exact⟨rfl,hb2⟩
    |true=>
     have hre:r=q2:=(by rw[hp2.out];rfl);subst hre;clear hp2;go_wp2_with fail;refine hw3.out.mono ?_;rintro e w2 ⟨rfl,hb3⟩;go_wp2;go_ret;exact⟨rfl,hb2.trans (hb3.mono hb2.size)⟩
  ·have g2:(b==(y:Int))=false:=(by simpa using h2);have hre:r=false:=(by rw[hp.out];simp[h2]);subst hre;clear h1 h2;clear hp;go_enter Tryz.func299,Tryz.ntmps299;go_wp2;go_ret;exact⟨rfl,hB⟩
 ·have g1:(a==(x:Int))=false:=(by simpa using h1);have hre:r=false:=(by rw[hp.out];simp[h1]);subst hre;clear h1;clear hp;go_enter Tryz.func299,Tryz.ntmps299;go_wp2;go_ret;exact⟨rfl,hB⟩
set_option maxRecDepth 100000 in
theorem Ej(A:Option Addr)(c:Nat)(H:List Txn)(Al:Option Addr)(cl:Nat)(l:List Cho)(x y:Nat)(w:World)(h:aA w (Old w) (.slice A H.length c) H)(hn:aG H)(hl:bR w (Old w) (.slice Al l.length cl) l)(hln:l.length≤1000000000)(hx:x<H.length)(hy:y<H.length):
 Calls Tryz.prog 297 #[.slice Al l.length cl,.agg #[.slice A H.length c],.int .i64 (x:Int),.int .i64 (y:Int)] w fun e w'=>e= .returned (.bool (sw H l x y))∧Below w.heap.size w w':=by
 obtain⟨W0,hW0⟩:∃W0,((w.alloc (.cells #[.slice A H.length c] 24)).alloc (.cells #[.int .i64 (x:Int)] 3)).alloc (.cells #[.int .i64 (y:Int)] 3)=W0:=⟨_,rfl⟩;have hB:=iC hW0;have k0:=Blk.yU hW0;have k1:=Blk.uo hW0;have k2:=Blk.uq hW0;have hT:=hide (h.below hB);have hc:=hide (vJ 299 (enters_of Tryz.func299 (by kernel_rfl) rfl) #[.pointer (some ⟨w.heap.size+1,0,none⟩),.pointer (some ⟨w.heap.size+1+1,0,none⟩),.pointer (some ⟨w.heap.size,0,none⟩)] (vC H x y) Al cl l W0 (hl.below hB) hln (fun W hbW ch _=>H8 A c H ch x y _ _ _ W (hT.out.below hbW) hn hx hy (by have:=(k1.below hbW k1.lt).cell 0;simpa using this) (by have:=(k2.below hbW k2.lt).cell 0;simpa using this) (by have:=(k0.below hbW k0.lt).cell 0;simpa using this)));have hre:Hid (sw H l x y=l.any (vC H x y)):=hide rfl;rw[hre.out];generalize l.any (vC H x y)=q at*;clear h hl hre;go_enter Tryz.func297,Tryz.ntmps297;go_wp2_with fail;refine hc.out.mono ?_;rintro e w1 ⟨rfl,hb1⟩;go_wp2;go_ret;exact⟨rfl,hB.trans (hb1.mono hB.size)⟩
set_option maxHeartbeats 2000000
theorem M7(x:Cho)(k a b:Int):decide (x=⟨k,a,b⟩)=(decide (x.key=k)&&decide (x.a=a)&&decide (x.b=b)):=by
 obtain⟨k',a',b'⟩:=x;rw[Bool.eq_iff_iff];simp[and_assoc]
theorem BS(A:Option Addr)(c:Nat)(l:List Cho)(xk xa xb:Int)(w:World)(h:bR w (Old w) (.slice A l.length c) l)(hl:l.length≤1000000000):
 Calls Tryz.prog 305 #[.slice A l.length c,.agg #[.int .i64 xk,.int .i64 xa,.int .i64 xb]] w fun e w'=>e= .returned (.int .i64 (pW (fun x:Cho=>decide (x=⟨xk,xa,xb⟩)) l))∧Below w.heap.size w w':=by
 have hhit:=hide (fun k=>iE (p:=fun x:Cho=>decide (x=⟨xk,xa,xb⟩)) (l:=l) (k:=k));have hnone:=hide (gq (p:=fun x:Cho=>decide (x=⟨xk,xa,xb⟩)) (l:=l));obtain⟨W0,hW0⟩:∃W0,w.alloc (.cells #[.int .i64 xk,.int .i64 xa,.int .i64 xb] 102)=W0:=⟨_,rfl⟩;have hB:=ah (Below.refl w.heap.size w) hW0 (Nat.le_refl _);have k0:=Blk.newEq hW0;replace h:=hide h;go_enter Tryz.func305,Tryz.ntmps305;go_wp2_with fail;clear hW0;go_loopw [8] (fun s8 wr=>∃k:Nat,k≤l.length∧s8= .int .i64 k∧Hid (∀j (hj:j<l.length),j<k→decide (l[j]=⟨xk,xa,xb⟩)=false)∧Below w.heap.size w wr∧Blk wr w.heap.size 102 #[.int .i64 xk,.int .i64 xa,.int .i64 xb]) (fun s8 _=>l.length-(intOf s8).toNat);case atStart=>exact⟨0,Nat.zero_le _,by go_num,fun j hj h=>absurd h (by omega),hB,k0⟩
 case round=>
  clear k0 hB;obtain⟨k,hk,rfl,hall,hb,k0⟩:=hrel;have hk1:(0:Int)≤(k:Int):=Int.natCast_nonneg _;by_cases hlt:k<l.length
  ·have hi2:(k:Int)<(l.length:Int):=(by omega);obtain⟨b,off,rfl,_,d0,d1,d2⟩:=(h.out.below hb).at_ hlt;have hh:=hide (fun g=>hhit.out k hlt g hall.out);have hst:Hid (decide (l[k]=⟨xk,xa,xb⟩)=false→∀j (hj:j<l.length),j<k+1→decide (l[j]=⟨xk,xa,xb⟩)=false):=fun g j hj hjk=>by
    by_cases e:j=k
    ·subst e;exact g
    ·exact hall.out j hj (by omega)
   have c0:=Blk.n0 k0;have c1:=Blk.n1 k0;have c2:=Blk.n2 k0;clear hall;generalize l[k]=x at*;obtain⟨yk,ya,yb⟩:=x;dsimp only at*;rw[M7]at hh hst;dsimp only at hh hst;by_cases q0:xk=yk
   ·have q0b:(xk==yk)=true:=(by simpa using q0);by_cases q1:xa=ya
    ·have q1b:(xa==ya)=true:=(by simpa using q1);by_cases q2:xb=yb
     ·have q2b:(xb==yb)=true:=(by simpa using q2);have hr:=hide (hh.out (by simp[q0,q1,q2]));clear q0 q1 q2 hh hst;go_wp2;go_quiet (fail);go_wp2;go_ret;exact⟨bV hr.out.symm,hb.trans ⟨rfl,rfl,rfl,Nat.le_refl _,fun _ _=>rfl⟩⟩
     ·have q2b:(xb==yb)=false:=(by simpa using q2);have hr:=hide (hst.out (by simp[q0,q1,Ne.symm q2]));clear q0 q1 q2;clear hh hst;go_wp2;go_quiet (fail);go_wp2;go_roundw;case rel=>exact⟨k+1,by omega,by go_num,hr,hb.trans ⟨rfl,rfl,rfl,Nat.le_refl _,fun _ _=>rfl⟩,k0⟩
      case measure=>simp[intOf];omega
    ·have q1b:(xa==ya)=false:=(by simpa using q1);have hr:=hide (hst.out (by simp[Ne.symm q1]));clear q0 q1;clear hh hst;go_wp2;go_quiet (fail);go_wp2;go_roundw;case rel=>exact⟨k+1,by omega,by go_num,hr,hb.trans ⟨rfl,rfl,rfl,Nat.le_refl _,fun _ _=>rfl⟩,k0⟩
     case measure=>simp[intOf];omega
   ·have q0b:(xk==yk)=false:=(by simpa using q0);have hr:=hide (hst.out (by simp[Ne.symm q0]));clear q0;clear hh hst;go_wp2;go_quiet (fail);go_wp2;go_roundw;case rel=>exact⟨k+1,by omega,by go_num,hr,hb.trans ⟨rfl,rfl,rfl,Nat.le_refl _,fun _ _=>rfl⟩,k0⟩
    case measure=>simp[intOf];omega
  ·have hr:=hide (hnone.out fun j hj=>hall.out j hj (by omega));go_wp2;go_ret;exact⟨bV hr.out.symm,hb⟩
theorem vM(A:Option Addr)(c:Nat)(l:List Cho)(xk xa xb:Int)(w:World)(h:bR w (Old w) (.slice A l.length c) l)(hl:l.length≤1000000000):
 Calls Tryz.prog 304 #[.slice A l.length c,.agg #[.int .i64 xk,.int .i64 xa,.int .i64 xb]] w fun e w'=>e= .returned (.bool (l.any fun x=>decide (x=⟨xk,xa,xb⟩)))∧Below w.heap.size w w':=by
 have hd:=hide (iF (fun x:Cho=>decide (x=⟨xk,xa,xb⟩)) l);obtain⟨W0,hW0⟩:∃W0,w.alloc (.cells #[.int .i64 xk,.int .i64 xa,.int .i64 xb] 102)=W0:=⟨_,rfl⟩;have hB:=ah (Below.refl w.heap.size w) hW0 (Nat.le_refl _);have h0:=h.below hB;have hcall:=hide (BS A c l xk xa xb W0 h0 hl);have k0:=Blk.newEq hW0;clear h h0;have c0:=Blk.n0 k0;have c1:=Blk.n1 k0;have c2:=Blk.n2 k0;go_enter Tryz.func304,Tryz.ntmps304;go_wp2_with fail;clear hW0 c0 c1 c2;refine hcall.out.mono ?_;rintro e w1 ⟨rfl,hb⟩;clear hcall;go_wp2;go_ret;exact⟨by rw[←hd.out];rfl,hB.trans (hb.mono hB.size)⟩
set_option maxHeartbeats 8000000
set_option maxRecDepth 100000 in
theorem H9 (A:Option Addr) (c:Nat) (H:List Txn) (Al:Option Addr) (cl:Nat) (l:List Cho) (r:It) (y:Nat) (bh by' bl:Nat) (w:World) (h:aA w (Old w) (.slice A H.length c) H) (hn:aG H) (hl:bR w (Old w) (.slice Al l.length cl) l) (hln:l.length≤1000000000) (hy:y<H.length)
 (hbh:w.cell? ⟨bh,0,none⟩=some (.slice A H.length c)) (hby:w.cell? ⟨by',0,none⟩=some (.int .i64 (y:Int))) (hbl:w.cell? ⟨bl,0,none⟩=some (.slice Al l.length cl)):
 Calls Tryz.prog 303 #[.agg #[.int .i64 r.a,.int .i64 r.b],.pointer (some ⟨bh,0,none⟩),.pointer (some ⟨by',0,none⟩),.pointer (some ⟨bl,0,none⟩)] w fun e w'=>e= .returned (.bool (vD H l y r))∧Below w.heap.size w w':=by
 obtain⟨ra,rb⟩:=r;dsimp only;obtain⟨W0,hW0⟩:∃W0,w.alloc (.cells #[.int .i64 ra,.int .i64 rb] 106)=W0:=⟨_,rfl⟩;have hB:=ah (Below.refl w.heap.size w) hW0 (Nat.le_refl _);have k0:=Blk.newEq hW0;have e0:=(hB.cell (p:=⟨bh,0,none⟩) (block_lt_of_cell hbh)).trans hbh;have e1:=(hB.cell (p:=⟨by',0,none⟩) (block_lt_of_cell hby)).trans hby;have e2:=(hB.cell (p:=⟨bl,0,none⟩) (block_lt_of_cell hbl)).trans hbl;have hT:=h.below hB;have hL:=hide (hl.below hB);have c0:=Blk.n0 k0;have c1:=Blk.n1 k0;have hp:Hid (vD H l y ⟨ra,rb⟩=((aF H y).writes.contains ra&&(decide (rb<0)||(decide (rb≠(y:Int))&&l.any fun c=>decide (c=⟨ra,rb,y⟩))))):=hide rfl;obtain⟨q,hq⟩:∃q,vD H l y ⟨ra,rb⟩=q:=⟨_,rfl⟩;rw[hq]at hp;rw[hq];have hw1:=hide (lS A c H y ra W0 hT hn hy);have hco:=hide (fun W (hb:Below W0.heap.size W0 W)=>vM Al cl l ra rb (y:Int) W (hL.out.below hb) hln);generalize(aF H y).writes.contains ra=q1 at*;generalize(l.any fun c=>decide (c=⟨ra,rb,(y:Int)⟩))=q2 at*;clear h hl hbh hby hbl hq hT;go_enter Tryz.func303,Tryz.ntmps303;go_wp2_with fail;refine hw1.out.mono ?_;rintro e w1 ⟨rfl,hb1⟩;have hb2:=hB.trans (hb1.mono hB.size);have c0':=(hb1.cell (p:=⟨w.heap.size,0,none⟩) k0.lt).trans c0;have c1':=(hb1.cell (p:=⟨w.heap.size,1,none⟩) k0.lt).trans c1;have e1':=(hb1.cell (p:=⟨by',0,none⟩) (block_lt_of_cell e1)).trans e1;have e2':=(hb1.cell (p:=⟨bl,0,none⟩) (block_lt_of_cell e2)).trans e2;have hc2:=hide (hco.out w1 hb1);clear hW0 hw1 hco c0 c1 e0 e1 e2;cases q1 with
 |false=>
  have hre:q=false:=(by rw[hp.out];rfl);subst hre;clear hp hc2;go_wp2;go_ret;exact⟨rfl,hb2⟩
 |true=>
  by_cases h1:rb<0
  ·have hre:q=true:=(by rw[hp.out,decide_eq_true h1];rfl);have g1:decide (rb<0)=true:=(by simpa using h1);subst hre;clear hp hc2;go_wp2;go_ret;exact⟨rfl,hb2⟩
  ·have g1:decide (rb<0)=false:=(by simpa using h1);by_cases h2:rb=(y:Int)
   ·have hre:q=false:=(by rw[hp.out,decide_eq_false h1];simp[h2]);have g2:(rb !=(y:Int))=false:=(by simp[h2]);subst hre;clear hp hc2 h1 h2;go_wp2;go_ret;exact⟨rfl,hb2⟩
   ·have hre:q=q2:=(by rw[hp.out,decide_eq_false h1];simp[h2]);have g2:(rb !=(y:Int))=true:=(by simpa using h2);subst hre;clear hp h1 h2;go_wp2_with fail;refine hc2.out.mono ?_;rintro e w2 ⟨rfl,hb3⟩;go_wp2;go_ret;exact⟨rfl,hb2.trans (hb3.mono hb2.size)⟩
set_option maxRecDepth 100000 in
theorem El(A:Option Addr)(c:Nat)(H:List Txn)(Al:Option Addr)(cl:Nat)(l:List Cho)(x y:Nat)(w:World)(h:aA w (Old w) (.slice A H.length c) H)(hn:aG H)(hl:bR w (Old w) (.slice Al l.length cl) l)(hln:l.length≤1000000000)(hx:x<H.length)(hy:y<H.length):
 Calls Tryz.prog 302 #[.slice Al l.length cl,.agg #[.slice A H.length c],.int .i64 (x:Int),.int .i64 (y:Int)] w fun e w'=>e= .returned (.bool (qB H l x y))∧Below w.heap.size w w':=by
 have hx0:(0:Int)≤(x:Int):=Int.natCast_nonneg _;have hx1:(x:Int)<(H.length:Int):=(by omega);obtain⟨W0,hW0⟩:∃W0,((w.alloc (.cells #[.slice Al l.length cl] 334)).alloc (.cells #[.slice A H.length c] 24)).alloc (.cells #[.int .i64 (y:Int)] 3)=W0:=⟨_,rfl⟩;have hB:=iC hW0;have k0:=Blk.yU hW0;have k1:=Blk.uo hW0;have k2:=Blk.uq hW0;have hT:=hide (h.below hB);have hL:=hide (hl.below hB);obtain⟨b,off,Aw,cw,Ar,cr,rfl,_,d0,d1,d2,-,hrs⟩:=aA.at_ hT.out hx;have hrl:H[x].reads.length≤1000000:=(hn.2 _ (List.getElem_mem hx)).2;have hc:=hide (gT 303 (enters_of Tryz.func303 (by kernel_rfl) rfl) #[.pointer (some ⟨w.heap.size+1,0,none⟩),.pointer (some ⟨w.heap.size+1+1,0,none⟩),.pointer (some ⟨w.heap.size,0,none⟩)] (vD H l y) Ar cr H[x].reads W0 hrs (by omega) (fun W hbW r _=>H9 _ c H Al cl l r y _ _ _ W (hT.out.below hbW) hn (hL.out.below hbW) hln hy (by have:=(k1.below hbW k1.lt).cell 0;simpa using this) (by have:=(k2.below hbW k2.lt).cell 0;simpa using this) (by have:=(k0.below hbW k0.lt).cell 0;simpa using this)));have hre:qB H l x y=(decide (x≠y)&&H[x].reads.any (vD H l y)):=(by unfold qB;rw[aH hx]);rw[hre];generalize H[x].reads=R at*;generalize R.any (vD H l y)=q at*;have c0:=Blk.n0 k1;have c1:=Blk.n0 k2;clear h hl hrs hre;by_cases hxy:x=y
 ·have g1:((x:Int) !=(y:Int))=false:=(by simp[hxy]);have g2:(x !=y)=false:=(by simp[hxy]);have hq:(decide (x≠y)&&q)=false:=(by simp[hxy]);rw[hq];clear hc hxy hq;go_enter Tryz.func302,Tryz.ntmps302;go_wp2;go_ret;exact⟨rfl,hB⟩
 ·have g1:((x:Int) !=(y:Int))=true:=(by simp;omega);have g2:(x !=y)=true:=(by simp[hxy]);have hq:(decide (x≠y)&&q)=q:=(by simp[hxy]);rw[hq];clear hxy hq;go_enter Tryz.func302,Tryz.ntmps302;go_wp2_with fail;refine hc.out.mono ?_;rintro e w1 ⟨rfl,hb1⟩;go_wp2;go_ret;exact⟨rfl,hB.trans (hb1.mono hB.size)⟩
set_option maxRecDepth 100000 in
theorem Ia (A:Option Addr) (c:Nat) (H:List Txn) (Al:Option Addr) (cl:Nat) (l:List Cho) (x y:Nat) (bh bx by':Nat) (w:World) (h:aA w (Old w) (.slice A H.length c) H) (hn:aG H) (hl:bR w (Old w) (.slice Al l.length cl) l) (hln:l.length≤1000000000) (hx:x<H.length) (hy:y<H.length)
 (hbh:w.cell? ⟨bh,0,none⟩=some (.slice A H.length c)) (hbx:w.cell? ⟨bx,0,none⟩=some (.int .i64 (x:Int))) (hby:w.cell? ⟨by',0,none⟩=some (.int .i64 (y:Int))):
 Calls Tryz.prog 274 #[.iface 317 (.agg #[]),.pointer (some ⟨bh,0,none⟩),.pointer (some ⟨bx,0,none⟩),.pointer (some ⟨by',0,none⟩)] w fun e w'=>e= .returned (.bool (soE H x y))∧Below w.heap.size w w':=by
 have hc:=hide (Eh A c H x y undef w h hx hy);clear h hl;go_enter Tryz.func274,Tryz.ntmps274;go_wp2_with fail;refine hc.out.mono ?_;rintro e w1 ⟨rfl,hb1⟩;go_wp2;go_ret;exact⟨rfl,hb1⟩
set_option maxRecDepth 100000 in
theorem Ib (A:Option Addr) (c:Nat) (H:List Txn) (Al:Option Addr) (cl:Nat) (l:List Cho) (x y:Nat) (bh bx by':Nat) (w:World) (h:aA w (Old w) (.slice A H.length c) H) (hn:aG H) (hl:bR w (Old w) (.slice Al l.length cl) l) (hln:l.length≤1000000000) (hx:x<H.length) (hy:y<H.length)
 (hbh:w.cell? ⟨bh,0,none⟩=some (.slice A H.length c)) (hbx:w.cell? ⟨bx,0,none⟩=some (.int .i64 (x:Int))) (hby:w.cell? ⟨by',0,none⟩=some (.int .i64 (y:Int))):
 Calls Tryz.prog 274 #[.iface 318 (.agg #[]),.pointer (some ⟨bh,0,none⟩),.pointer (some ⟨bx,0,none⟩),.pointer (some ⟨by',0,none⟩)] w fun e w'=>e= .returned (.bool (rG H x y))∧Below w.heap.size w w':=by
 have hc:=hide (Ei A c H x y w h hn hy);clear h hl;go_enter Tryz.func274,Tryz.ntmps274;go_wp2_with fail;refine hc.out.mono ?_;rintro e w1 ⟨rfl,hb1⟩;go_wp2;go_ret;exact⟨rfl,hb1⟩
set_option maxRecDepth 100000 in
theorem Ic (A:Option Addr) (c:Nat) (H:List Txn) (Al:Option Addr) (cl:Nat) (l:List Cho) (x y:Nat) (bh bx by':Nat) (w:World) (h:aA w (Old w) (.slice A H.length c) H) (hn:aG H) (hl:bR w (Old w) (.slice Al l.length cl) l) (hln:l.length≤1000000000) (hx:x<H.length) (hy:y<H.length)
 (hbh:w.cell? ⟨bh,0,none⟩=some (.slice A H.length c)) (hbx:w.cell? ⟨bx,0,none⟩=some (.int .i64 (x:Int))) (hby:w.cell? ⟨by',0,none⟩=some (.int .i64 (y:Int))):
 Calls Tryz.prog 274 #[.iface 319 (.slice Al l.length cl),.pointer (some ⟨bh,0,none⟩),.pointer (some ⟨bx,0,none⟩),.pointer (some ⟨by',0,none⟩)] w fun e w'=>e= .returned (.bool (sw H l x y))∧Below w.heap.size w w':=by
 have hc:=hide (Ej A c H Al cl l x y w h hn hl hln hx hy);clear h hl;go_enter Tryz.func274,Tryz.ntmps274;go_wp2_with fail;refine hc.out.mono ?_;rintro e w1 ⟨rfl,hb1⟩;go_wp2;go_ret;exact⟨rfl,hb1⟩
set_option maxRecDepth 100000 in
theorem Ie (A:Option Addr) (c:Nat) (H:List Txn) (Al:Option Addr) (cl:Nat) (l:List Cho) (x y:Nat) (bh bx by':Nat) (w:World) (h:aA w (Old w) (.slice A H.length c) H) (hn:aG H) (hl:bR w (Old w) (.slice Al l.length cl) l) (hln:l.length≤1000000000) (hx:x<H.length) (hy:y<H.length)
 (hbh:w.cell? ⟨bh,0,none⟩=some (.slice A H.length c)) (hbx:w.cell? ⟨bx,0,none⟩=some (.int .i64 (x:Int))) (hby:w.cell? ⟨by',0,none⟩=some (.int .i64 (y:Int))):
 Calls Tryz.prog 274 #[.iface 334 (.slice Al l.length cl),.pointer (some ⟨bh,0,none⟩),.pointer (some ⟨bx,0,none⟩),.pointer (some ⟨by',0,none⟩)] w fun e w'=>e= .returned (.bool (qB H l x y))∧Below w.heap.size w w':=by
 have hc:=hide (El A c H Al cl l x y w h hn hl hln hx hy);clear h hl;go_enter Tryz.func274,Tryz.ntmps274;go_wp2_with fail;refine hc.out.mono ?_;rintro e w1 ⟨rfl,hb1⟩;go_wp2;go_ret;exact⟨rfl,hb1⟩
set_option maxRecDepth 100000 in
theorem vN (A:Option Addr) (c:Nat) (H:List Txn) (x y:Int) (Ak:Option Addr) (ck:Nat) (vs:List (Value×Bool)) (w:World) (h:aA w (Old w) (.slice A H.length c) H) (hn:aG H) (hk:tF w (Old w) (.slice Ak vs.length ck) vs) (hkn:vs.length≤1000)
 (hp:tC H x y=true→∀W (bh bx by':Nat),Below w.heap.size w W→W.cell? ⟨bh,0,none⟩=some (.slice A H.length c)→W.cell? ⟨bx,0,none⟩=some (.int .i64 x)→W.cell? ⟨by',0,none⟩=some (.int .i64 y)→∀v∈vs,Calls Tryz.prog 274 #[v.1,.pointer (some ⟨bh,0,none⟩),.pointer (some ⟨bx,0,none⟩),.pointer (some ⟨by',0,none⟩)] W fun e W'=>e= .returned (.bool v.2)∧Below W.heap.size W W'):
 Calls Tryz.prog 260 #[.agg #[.slice A H.length c],.int .i64 x,.int .i64 y,.slice Ak vs.length ck] w fun e w'=>e= .returned (.bool (tC H x y&&vs.any (·.2)))∧Below w.heap.size w w':=by
 obtain⟨W0,hW0⟩:∃W0,((w.alloc (.cells #[.slice A H.length c] 24)).alloc (.cells #[.int .i64 x] 3)).alloc (.cells #[.int .i64 y] 3)=W0:=⟨_,rfl⟩;have hB:=iC hW0;have k0:=Blk.yU hW0;have k1:=Blk.uo hW0;have k2:=Blk.uq hW0;have hrc:=hide (dn A c H W0 (h.below hB) hn);have c0:=Blk.n0 k0;have hko:=hide (fun W (hb:Below w.heap.size w W)=>hk.below hb);have htw:Hid (tC H x y=(ay H&&decide (0≤x)&&decide (x<(H.length:Int))&&decide (0≤y)&&decide (y<(H.length:Int)))):=hide rfl;obtain⟨r,hr⟩:∃r,tC H x y=r:=⟨_,rfl⟩;rw[hr]at htw hp;rw[hr];obtain⟨q,hq⟩:∃q,ay H=q:=⟨_,rfl⟩;rw[hq]at htw hrc;replace hp:=hide hp;replace hn:=hide hn;obtain⟨z,hz⟩:∃z,vs.any (·.2)=z:=⟨_,rfl⟩;rw[hz];replace hz:=hide hz;clear h hk hr hq;go_enter Tryz.func260,Tryz.ntmps260;go_wp2_with fail;refine hrc.out.mono ?_;rintro e w1 ⟨rfl,hb1⟩;replace k0:=k0.below hb1 k0.lt;replace k1:=k1.below hb1 k1.lt;replace k2:=k2.below hb1 k2.lt;have hb2:=hB.trans (hb1.mono hB.size);clear hW0 hrc c0;have c0:=Blk.n0 k0;have c1:=Blk.n0 k1;have c2:=Blk.n0 k2;cases q with
 |false=>
  have hre:r=false:=(by rw[htw.out];rfl);subst hre;clear htw hp;go_wp2;go_ret;exact⟨rfl,hb2⟩
 |true=>
  by_cases h1:x<0∨y<0
  ·have hre:r=false:=by
    rw[htw.out];rcases h1 with g|g
    ·rw[decide_eq_false (show¬0≤x by omega)];simp
    ·rw[decide_eq_false (show¬0≤y by omega)];simp
   subst hre;have g1:decide (min x y<0)=true:=(by simp;omega);clear htw hp h1;go_wp2;go_ret;exact⟨rfl,hb2⟩
  ·have g1:decide (min x y<0)=false:=(by simp;omega);by_cases h2:(H.length:Int)≤x∨(H.length:Int)≤y
   ·have hre:r=false:=by
     rw[htw.out];rcases h2 with g|g
     ·rw[decide_eq_false (show¬x<(H.length:Int) by omega)];simp
     ·rw[decide_eq_false (show¬y<(H.length:Int) by omega)];simp
    subst hre;have g2:decide (max x y≥(H.length:Int))=true:=(by simp;omega);have g3:decide ((H.length:Int)≤max x y)=true:=(by simp;omega);clear htw hp h1 h2;go_wp2;go_ret;exact⟨rfl,hb2⟩
   ·have hre:r=true:=by
     rw[htw.out,decide_eq_true (show 0≤x by omega),decide_eq_true (show 0≤y by omega),decide_eq_true (show x<(H.length:Int) by omega),decide_eq_true (show y<(H.length:Int) by omega)];rfl
    subst hre;have g2:decide (max x y≥(H.length:Int))=false:=(by simp;omega);have g3:decide ((H.length:Int)≤max x y)=false:=(by simp;omega);have hc:=hide (vK 274 (enters_of Tryz.func274 (by kernel_rfl) rfl) #[.pointer (some ⟨w.heap.size,0,none⟩),.pointer (some ⟨w.heap.size+1,0,none⟩),.pointer (some ⟨w.heap.size+1+1,0,none⟩)] (·.2) Ak ck vs w1 (hko.out w1 hb2) (by omega) (fun W hbW v hv=>hp.out (by simp) W _ _ _ (hb2.trans (hbW.mono hb2.size)) (by have:=(k0.below hbW k0.lt).cell 0;simpa using this) (by have:=(k1.below hbW k1.lt).cell 0;simpa using this) (by have:=(k2.below hbW k2.lt).cell 0;simpa using this) v hv));rw[hz.out]at hc;clear htw hp h1 h2 hko hz;go_wp2_with fail;refine hc.out.mono ?_;rintro e w2 ⟨rfl,hb3⟩;go_wp2;go_ret;exact⟨rfl,hb2.trans (hb3.mono hb2.size)⟩
theorem tF.bW{w:World}{g:Nat}{t:TypeId}{vs:List (Value×Bool)}(h:Blk w g t (vs.map (·.1)).toArray):tF w (Old w) (.slice (some ⟨g,0,none⟩) vs.length vs.length) vs:=by
 refine⟨some ⟨g,0,none⟩,vs.length,vs.map fun x=>[x.1],rfl,Nat.le_refl _,by simp,fun i cs x h1 h2=> ?_,fun _=>⟨g,0,rfl,h.lt,fun i j cs u h1 h2=> ?_⟩⟩
 ·rw[List.getElem?_map,h2]at h1;injection h1 with h1
  exact⟨by rw[←h1];rfl,h1.symm⟩
 ·rw[List.getElem?_map]at h1;cases hl:vs[i]? with
  |none=>rw[hl]at h1;cases h1
  |some x=>
   rw[hl]at h1;injection h1 with h1
   subst h1;cases j with
   |zero=>
    injection h2 with h2
    rw[Nat.zero_add,Nat.mul_one,Nat.add_zero,h.cell,gA,List.getElem?_map,hl,←h2];rfl
   |succ j=>simp at h2
set_option maxRecDepth 100000 in
theorem zA(A:Option Addr)(c:Nat)(H:List Txn)(Al:Option Addr)(cl:Nat)(l:List Cho)(x y:Int)(w:World)(h:aA w (Old w) (.slice A H.length c) H)(hn:aG H)(hl:bR w (Old w) (.slice Al l.length cl) l)(hln:l.length≤1000000000):
 Calls Tryz.prog 229 #[.agg #[.slice A H.length c],.slice Al l.length cl,.int .i64 x,.int .i64 y] w fun e w'=>e= .returned (.bool (dJ H l x y))∧Below w.heap.size w w':=by
 obtain⟨W0,hW0⟩:∃W0,(w.alloc (.cells #[.slice A H.length c] 24)).alloc (.cells #[.iface 317 (.agg #[]),.iface 318 (.agg #[]),.iface 319 (.slice Al l.length cl)] 332)=W0:=⟨_,rfl⟩;have hB:=aN hW0;have k1:=Blk.iB hW0;have hT:=h.below hB;have hL:=hl.below hB;have hc:=hide (vN A c H x y (some ⟨w.heap.size+1,0,none⟩) 3 [(.iface 317 (.agg #[]),soE H x.toNat y.toNat),(.iface 318 (.agg #[]),rG H x.toNat y.toNat),(.iface 319 (.slice Al l.length cl),sw H l x.toNat y.toNat)] W0 hT hn (tF.bW (vs:=[(.iface 317 (.agg #[]),soE H x.toNat y.toNat),(.iface 318 (.agg #[]),rG H x.toNat y.toNat),(.iface 319 (.slice Al l.length cl),sw H l x.toNat y.toNat)]) k1) (by simp) (fun htw W bh bx by' hbW g1 g2 g3 v hv=>by
  obtain⟨_,a,b,rfl,rfl,ha,hb⟩:=BH.1 htw;simp only[Int.toNat_natCast]at hv;simp only[List.mem_cons,List.not_mem_nil,or_false]at hv;rcases hv with rfl|rfl|rfl
  ·exact Ia A c H Al cl l a b bh bx by' W (hT.below hbW) hn (hL.below hbW) hln ha hb g1 g2 g3
  ·exact Ib A c H Al cl l a b bh bx by' W (hT.below hbW) hn (hL.below hbW) hln ha hb g1 g2 g3
  ·exact Ic A c H Al cl l a b bh bx by' W (hT.below hbW) hn (hL.below hbW) hln ha hb g1 g2 g3))
 have hre:dJ H l x y=(tC H x y&&[((.iface 317 (.agg #[]):Value),soE H x.toNat y.toNat),(.iface 318 (.agg #[]),rG H x.toNat y.toNat),(.iface 319 (.slice Al l.length cl),sw H l x.toNat y.toNat)].any (·.2)):=by
  unfold dJ Om;simp[Bool.or_assoc]
 rw[hre];generalize(tC H x y&&[((.iface 317 (.agg #[]):Value),soE H x.toNat y.toNat),(.iface 318 (.agg #[]),rG H x.toNat y.toNat),(.iface 319 (.slice Al l.length cl),sw H l x.toNat y.toNat)].any (·.2))=q at*;clear h hl hre hT hL;go_enter Tryz.func229,Tryz.ntmps229;go_wp2_with fail;refine hc.out.mono ?_;rintro e w1 ⟨rfl,hb1⟩;go_wp2;go_ret;exact⟨rfl,hB.trans (hb1.mono hB.size)⟩
set_option maxRecDepth 100000 in
theorem Em(A:Option Addr)(c:Nat)(H:List Txn)(Al:Option Addr)(cl:Nat)(l:List Cho)(x y:Int)(w:World)(h:aA w (Old w) (.slice A H.length c) H)(hn:aG H)(hl:bR w (Old w) (.slice Al l.length cl) l)(hln:l.length≤1000000000):
 Calls Tryz.prog 263 #[.agg #[.slice A H.length c],.slice Al l.length cl,.int .i64 x,.int .i64 y] w fun e w'=>e= .returned (.bool (jR H l x y))∧Below w.heap.size w w':=by
 obtain⟨W0,hW0⟩:∃W0,(w.alloc (.cells #[.slice A H.length c] 24)).alloc (.cells #[.iface 334 (.slice Al l.length cl)] 332)=W0:=⟨_,rfl⟩;have hB:=aN hW0;have k1:=Blk.iB hW0;have hT:=h.below hB;have hL:=hl.below hB;have hc:=hide (vN A c H x y (some ⟨w.heap.size+1,0,none⟩) 1 [(.iface 334 (.slice Al l.length cl),qB H l x.toNat y.toNat)] W0 hT hn (tF.bW (vs:=[(.iface 334 (.slice Al l.length cl),qB H l x.toNat y.toNat)]) k1) (by simp) (fun htw W bh bx by' hbW g1 g2 g3 v hv=>by
  obtain⟨_,a,b,rfl,rfl,ha,hb⟩:=BH.1 htw;simp only[Int.toNat_natCast]at hv;simp only[List.mem_cons,List.not_mem_nil,or_false]at hv;subst hv;exact Ie A c H Al cl l a b bh bx by' W (hT.below hbW) hn (hL.below hbW) hln ha hb g1 g2 g3))
 have hre:jR H l x y=(tC H x y&&[((.iface 334 (.slice Al l.length cl):Value),qB H l x.toNat y.toNat)].any (·.2)):=by
  unfold jR;simp
 rw[hre];generalize(tC H x y&&[((.iface 334 (.slice Al l.length cl):Value),qB H l x.toNat y.toNat)].any (·.2))=q at*;clear h hl hre hT hL;go_enter Tryz.func263,Tryz.ntmps263;go_wp2_with fail;refine hc.out.mono ?_;rintro e w1 ⟨rfl,hb1⟩;go_wp2;go_ret;exact⟨rfl,hB.trans (hb1.mono hB.size)⟩
set_option maxRecDepth 100000 in
theorem Ku(A:Option Addr)(c:Nat)(H:List Txn)(level:Int)(Al:Option Addr)(cl:Nat)(l:List Cho)(x y:Int)(w:World)(h:aA w (Old w) (.slice A H.length c) H)(hn:aG H)(hl:bR w (Old w) (.slice Al l.length cl) l)(hln:l.length≤1000000000):
 Calls Tryz.prog 235 #[.agg #[.slice A H.length c],.int .i64 level,.slice Al l.length cl,.int .i64 x,.int .i64 y] w fun e w'=>e= .returned (.bool (isB H level l x y))∧Below w.heap.size w w':=by
 obtain⟨W0,hW0⟩:∃W0,w.alloc (.cells #[.slice A H.length c] 24)=W0:=⟨_,rfl⟩;have hB:=ah (Below.refl w.heap.size w) hW0 (Nat.le_refl _);have k0:=Blk.newEq hW0;have hdi:=hide (fun(a b:Int) W (hb:Below w.heap.size w W)=>zA A c H Al cl l a b W (h.below hb) hn (hl.below hb) hln);have han:=hide (fun(a b:Int) W (hb:Below w.heap.size w W)=>Em A c H Al cl l a b W (h.below hb) hn (hl.below hb) hln);have hH:=hn.1;have c0:=Blk.n0 k0;clear h hl;by_cases h0:level=0
 ·subst h0;have hre:Hid (isB H 0 l x y=(dJ H l x y||jR H l x y)):=hide rfl;rw[hre.out];have hd1:=hide (hdi.out x y W0 hB);have ha1:=hide (fun W (hb:Below W0.heap.size W0 W)=>han.out x y W (hB.trans (hb.mono hB.size)));generalize dJ H l x y=q1 at*;generalize jR H l x y=q2 at*;clear hre hdi han;go_enter Tryz.func235,Tryz.ntmps235;go_wp2_with fail;refine hd1.out.mono ?_;rintro e w1 ⟨rfl,hb1⟩;have hb2:=hB.trans (hb1.mono hB.size);have ha2:=hide (ha1.out w1 hb1);have k1:=k0.below hb1 k0.lt;have c1:=Blk.n0 k1;clear hW0 c0 hd1 ha1;cases q1 with
  |true=>
   clear ha2;go_wp2;go_ret;exact⟨rfl,hb2⟩
  |false=>
   go_wp2_with fail;refine ha2.out.mono ?_;rintro e w2 ⟨rfl,hb3⟩;go_wp2;go_ret;exact⟨rfl,hb2.trans (hb3.mono hb2.size)⟩
 ·have g0:(level==0)=false:=(by simpa using h0);by_cases h1:level=1
  ·subst h1;have hre:Hid (isB H 1 l x y=(List.range H.length).any fun m=>dJ H l x (m:Int)&&(decide ((m:Int)=y)||jR H l (m:Int) y)):=hide rfl;have hyes:Hid (∀m,m<H.length→(dJ H l x (m:Int)&&(decide ((m:Int)=y)||jR H l (m:Int) y))=true→isB H 1 l x y=true):=hide (fun m hm g=>by rw[hre.out,List.any_eq_true];exact⟨m,List.mem_range.2 hm,g⟩);have hno:Hid ((∀m,m<H.length→(dJ H l x (m:Int)&&(decide ((m:Int)=y)||jR H l (m:Int) y))=false)→isB H 1 l x y=false):=hide (fun g=>by rw[hre.out,List.any_eq_false];intro m hm;rw[g m (List.mem_range.1 hm)];decide);generalize isB H 1 l x y=r at*;clear hre h0;go_enter Tryz.func235,Tryz.ntmps235;go_wp2_with fail;clear hW0 c0;go_loopw [32] (fun s32 wr=>∃m:Nat,m≤H.length∧s32= .int .i64 m∧Hid (∀m',m'<m→(dJ H l x (m':Int)&&(decide ((m':Int)=y)||jR H l (m':Int) y))=false)∧Below w.heap.size w wr∧Blk wr w.heap.size 24 #[.slice A H.length c]) (fun s32 _=>H.length-(intOf s32).toNat);case atStart=>exact⟨0,Nat.zero_le _,by go_num,hide (fun m hm=>absurd hm (by omega)),hB,k0⟩
   case round=>
    clear k0 hB;obtain⟨m,hm,rfl,hall,hb,k0⟩:=hrel;have hm0:(0:Int)≤(m:Int):=Int.natCast_nonneg _;by_cases hlt:m<H.length
    ·have hm1:(m:Int)<(H.length:Int):=(by omega);have c0:=Blk.n0 k0;have hd1:=hide (hdi.out x (m:Int) wr hb);have ha1:=hide (fun W (hb2:Below wr.heap.size wr W)=>han.out (m:Int) y W (hb.trans (hb2.mono hb.size)));have hy:=hide (hyes.out m hlt);have hnx:=hide (fun(g:(dJ H l x (m:Int)&&(decide ((m:Int)=y)||jR H l (m:Int) y))=false)=>(fun m' (hm':m'<m+1)=>(by
      by_cases e:m'=m
      ·subst e;exact g
      ·exact hall.out m' (by omega):(dJ H l x (m':Int)&&(decide ((m':Int)=y)||jR H l (m':Int) y))=false)))
     generalize dJ H l x (m:Int)=q1 at*;generalize jR H l (m:Int) y=q2 at*;go_wp2_with fail;refine hd1.out.mono ?_;rintro e w1 ⟨rfl,hb1⟩;have hb2:=hb.trans (hb1.mono hb.size);have ha2:=hide (ha1.out w1 hb1);have k1:=k0.below hb1 k0.lt;have c1:=Blk.n0 k1;clear c0 hd1 ha1 k0;cases q1 with
     |false=>
      have hn2:=hide (hnx.out rfl);clear ha2 hnx hy;go_wp2;go_roundw;case rel=>exact⟨m+1,by omega,by go_num,hn2,hb2,k1⟩
      case measure=>simp[intOf];omega
     |true=>
      by_cases hmy:(m:Int)=y
      ·have hr:=hy.out (by simp[hmy]);have g1:((m:Int)==y)=true:=(by simpa using hmy);subst hr;clear ha2 hnx hy hmy hno hyes;go_wp2;go_ret;exact⟨rfl,hb2⟩
      ·have g1:((m:Int)==y)=false:=(by simpa using hmy);have hmd:decide ((m:Int)=y)=false:=(by simpa using hmy);rw[hmd]at hy hnx;clear hmd hmy;go_wp2_with fail;refine ha2.out.mono ?_;rintro e w2 ⟨rfl,hb3⟩;have hb4:=hb2.trans (hb3.mono hb2.size);have k2:=k1.below hb3 k1.lt;clear ha2 c1;cases q2 with
       |true=>
        have hr:=hy.out rfl;subst hr;clear hnx hy hno hyes;go_wp2;go_ret;exact⟨rfl,hb4⟩
       |false=>
        have hn2:=hide (hnx.out rfl);clear hnx hy;go_wp2;go_roundw;case rel=>exact⟨m+1,by omega,by go_num,hn2,hb4,k2⟩
        case measure=>simp[intOf];omega
    ·have hr:=hno.out (fun m' hm'=>hall.out m' (by omega));subst hr;clear hyes hall;go_wp2;go_ret;exact⟨rfl,hb⟩
  ·have g1:(level==1)=false:=(by simpa using h1);have hre:isB H level l x y=false:=(by unfold isB;rw[if_neg h0,if_neg h1]);rw[hre];clear hre h0 h1;go_enter Tryz.func235,Tryz.ntmps235;go_wp2;go_ret;exact⟨rfl,hB⟩
def sG(H:List Txn)(level:Int)(l:List Cho)(row:List Int)(i:Nat):Bool:= !(row.take i).contains (row.getD i 0)&&isB H level l (row.getD i 0) (row.getD ((i+1)%row.length) 0)
theorem Ls{H:List Txn}{level:Int}{l:List Cho}{row:List Int}{i:Nat}(hi:i<row.length)(h:sG H level l row i=false):lY H level l row=false:=by
 unfold lY;rw[Bool.and_eq_false_iff];right;rw[List.all_eq_false];exact⟨i,List.mem_range.2 hi,by unfold sG at h;rw[h];decide⟩
theorem Kv{H:List Txn}{level:Int}{l:List Cho}{row:List Int}(h:∀i,i<row.length→sG H level l row i=true):lY H level l row=decide (0<row.length):=by
 unfold lY;rw[show((List.range row.length).all fun i=> !(row.take i).contains (row.getD i 0)&&isB H level l (row.getD i 0) (row.getD ((i+1)%row.length) 0))=true from List.all_eq_true.2 fun i hi=>h i (List.mem_range.1 hi),Bool.and_true]
set_option maxRecDepth 100000 in
theorem En(A:Option Addr)(c:Nat)(H:List Txn)(level:Int)(Al:Option Addr)(cl:Nat)(l:List Cho)(Ar:Option Addr)(cr:Nat)(row:List Int)(w:World)(h:aA w (Old w) (.slice A H.length c) H)(hn:aG H)(hl:bR w (Old w) (.slice Al l.length cl) l)(hln:l.length≤1000000000)(hr:aB w (Old w) (.slice Ar row.length cr) row)(hrl:row.length≤1000000000):
 Calls Tryz.prog 207 #[.agg #[.slice A H.length c],.int .i64 level,.slice Al l.length cl,.slice Ar row.length cr] w fun e w'=>e= .returned (.bool (lY H level l row))∧Below w.heap.size w w':=by
 obtain⟨W0,hW0⟩:∃W0,w.alloc (.cells #[.slice A H.length c] 24)=W0:=⟨_,rfl⟩;have hB:=ah (Below.refl w.heap.size w) hW0 (Nat.le_refl _);have k0:=Blk.newEq hW0;have his:=hide (fun(a b:Int) W (hb:Below w.heap.size w W)=>Ku A c H level Al cl l a b W (h.below hb) hn (hl.below hb) hln);have hrw:=hide (fun W (hb:Below w.heap.size w W)=>hr.below hb);have hno:=hide (fun i (hi:i<row.length)=>Ls (H:=H) (level:=level) (l:=l) hi);have hyes:=hide (Kv (H:=H) (level:=level) (l:=l) (row:=row));generalize lY H level l row=r at*;clear h hl hr;go_enter Tryz.func207,Tryz.ntmps207;go_wp2_with fail;clear hW0;go_loopw [13] (fun s13 wr=>∃i:Nat,i≤row.length∧s13= .int .i64 i∧Hid (∀j,j<i→sG H level l row j=true)∧Below w.heap.size w wr∧Blk wr w.heap.size 24 #[.slice A H.length c]) (fun s13 _=>row.length-(intOf s13).toNat);case atStart=>exact⟨0,Nat.zero_le _,by go_num,hide (fun j hj=>absurd hj (by omega)),hB,k0⟩
 case round=>
  clear k0 hB;obtain⟨Wo,rfl⟩:∃Wo,Wo=wr:=⟨_,rfl⟩;obtain⟨i,hi,rfl,hall,hb,k0⟩:=hrel;have hi0:(0:Int)≤(i:Int):=Int.natCast_nonneg _;by_cases hlt:i<row.length
  ·have hi1:(i:Int)<(row.length:Int):=(by omega);have hi2:(i:Int)≤(row.length:Int):=(by omega);have hI:=hrw.out Wo hb;have hlc:row.length≤cr:=by
    obtain⟨_,_,e,h⟩:=SlR.len hI;simp only[Value.slice.injEq]at e;omega
   have hic:(i:Int)≤(cr:Int):=(by omega);obtain⟨br,orr,rfl,-,x0⟩:=hI.at_ hlt;have hj:(i+1)%row.length<row.length:=Nat.mod_lt _ (by omega);have hnx:=hide (fun(g:sG H level l row i=true)=>(fun j (hj:j<i+1)=>(by
    by_cases e:j=i
    ·subst e;exact g
    ·exact hall.out j (by omega):sG H level l row j=true)))
   have hn2:=hide (hno.out i hlt);have hrA:Hid (sG H level l row i=(!(row.take i).contains row[i]&&isB H level l row[i] row[(i+1)%row.length])):=hide (by
    unfold sG;rw[List.getD_eq_getElem?_getD,List.getElem?_eq_getElem hlt,Option.getD_some,List.getD_eq_getElem?_getD,List.getElem?_eq_getElem hj,Option.getD_some])
   have hcc:=hide (fun W (hb:Below Wo.heap.size Wo W)=>bZ (some ⟨br,orr,none⟩) cr (row.take i) row[i] (Old W) W (by rw[show(row.take i).length=i by rw[List.length_take];omega];exact(hI.below hb).take (by omega)) (by rw[List.length_take];unfold maxLen;omega));have htl:Hid ((row.take i).length=i):=hide (by rw[List.length_take];omega);have hxj:Hid (∀W,Below Wo.heap.size Wo W→W.cell? ⟨br,orr+(i+1)%row.length,none⟩=some (.int .i64 row[(i+1)%row.length])):=hide (fun W hbW=>((hI.below hbW).cells hj).2);have hii:=hide (fun W (hbW:Below Wo.heap.size Wo W)=>his.out row[i] row[(i+1)%row.length] W (hb.trans (hbW.mono hb.size)));have hch:Hid (∀W,Below Wo.heap.size Wo W→W.cell? ⟨w.heap.size,0,none⟩=some (.slice A H.length c)):=hide (fun W hbW=>by have:=(k0.below hbW k0.lt).cell 0;simpa using this);rw[htl.out]at hcc;generalize isB H level l row[i] row[(i+1)%row.length]=q2 at*;generalize(row.take i).contains row[i]=q1 at*;generalize row[(i+1)%row.length]=xj at*;generalize row[i]=xi at*;have hm:Hid (((i:Int)+1).tmod (row.length:Int)=(((i+1)%row.length:Nat):Int)):=hide (by rw[show(i:Int)+1=((i+1:Nat):Int) by omega];rfl);generalize hmm:(i+1)%row.length=mi at*;replace hmm:=hide hmm;have hmi:(mi:Int)<(row.length:Int):=(by omega);have Rj:(0:Int)≤(mi:Int):=Int.natCast_nonneg _;have hz0:((row.length:Int)==0)=false:=(by rw[beq_eq_false_iff_ne];omega);have hz1:(row.length==0)=false:=(by rw[beq_eq_false_iff_ne];omega);have hnil:Hid (row≠[]):=hide (fun e=>by rw[e]at hlt;simp at hlt);go_upto_region 4 with fail;cases q1 with
   |true=>
    have hr2:=hn2.out (by rw[hrA.out];rfl);subst hr2;clear hn2 hrA hnx hyes hno;refine bK (fun W=>Below Wo.heap.size Wo W) (by kernel_rfl) (by kernel_rfl) (Below.refl _ _).drew ?_;refine⟨.slice (some ⟨br,orr,none⟩) row.length cr,fun W hW=>(by go_wp2),?_⟩;refine⟨.int .i64 (i:Int),fun W hW=>(by go_wp2),?_⟩;refine⟨.slice (some ⟨br,orr,none⟩) i cr,fun W hW=>(by go_wp2),?_⟩;refine⟨.int .i64 xi,fun W hW=>(by go_wp2),?_⟩;refine⟨.bool true,fun W hW=>(by
     go_wp2_with fail;refine(hcc.out W hW).mono ?_;rintro e w' ⟨rfl,rfl⟩;go_wp2),?_⟩
    refine⟨.bool true,fun W hW=>(by go_wp2),?_⟩;refine⟨undef,fun W hW=>(by go_wp2),?_⟩;refine⟨undef,fun W hW=>(by go_wp2),?_⟩;refine⟨undef,fun W hW=>(by go_wp2),?_⟩;refine⟨undef,fun W hW=>(by go_wp2),?_⟩;refine⟨undef,fun W hW=>(by go_wp2),?_⟩;refine⟨undef,fun W hW=>(by go_wp2),?_⟩;refine⟨undef,fun W hW=>(by go_wp2),?_⟩;refine⟨undef,fun W hW=>(by go_wp2),?_⟩;refine⟨undef,fun W hW=>(by go_wp2),?_⟩;refine⟨undef,fun W hW=>(by go_wp2),?_⟩;refine⟨undef,fun W hW=>(by go_wp2),?_⟩;refine⟨undef,fun W hW=>(by go_wp2),?_⟩;refine⟨undef,fun W hW=>(by go_wp2),?_⟩;refine⟨undef,fun W hW=>(by go_wp2),?_⟩;refine⟨.bool true,fun W hW=>(by go_wp2),?_⟩;intro W5 hW5;simp only[Act.put,sA,sZ,sS];have hb5:=hb.trans (hW5.mono hb.size);go_wp2;go_ret;exact⟨rfl,hb5⟩
   |false=>
    refine bK (fun W=>Below Wo.heap.size Wo W) (by kernel_rfl) (by kernel_rfl) (Below.refl _ _).drew ?_;refine⟨.slice (some ⟨br,orr,none⟩) row.length cr,fun W hW=>(by go_wp2),?_⟩;refine⟨.int .i64 (i:Int),fun W hW=>(by go_wp2),?_⟩;refine⟨.slice (some ⟨br,orr,none⟩) i cr,fun W hW=>(by go_wp2),?_⟩;refine⟨.int .i64 xi,fun W hW=>(by go_wp2),?_⟩;refine⟨.bool false,fun W hW=>(by
     go_wp2_with fail;refine(hcc.out W hW).mono ?_;rintro e w' ⟨rfl,rfl⟩;go_wp2),?_⟩
    refine⟨.bool false,fun W hW=>(by go_wp2),?_⟩;refine⟨.agg #[.slice A H.length c],fun W hW=>(by have v0:=hch.out W hW;go_wp2),?_⟩;refine⟨.int .i64 level,fun W hW=>(by go_wp2),?_⟩;refine⟨.slice Al l.length cl,fun W hW=>(by go_wp2),?_⟩;refine⟨.int .i64 xi,fun W hW=>(by go_wp2),?_⟩;refine⟨.slice (some ⟨br,orr,none⟩) row.length cr,fun W hW=>(by go_wp2),?_⟩;refine⟨.int .i64 (i:Int),fun W hW=>(by go_wp2),?_⟩;refine⟨.int .i64 ((i:Int)+1),fun W hW=>(by go_wp2),?_⟩;refine⟨.slice (some ⟨br,orr,none⟩) row.length cr,fun W hW=>(by go_wp2),?_⟩;refine⟨.int .i64 (row.length:Int),fun W hW=>(by go_wp2),?_⟩;refine⟨.int .i64 (mi:Int),fun W hW=>(by have hm2:=hm.out;go_wp2;try exact hnil.out (by assumption)),?_⟩;refine⟨.pointer (some ⟨br,orr+mi,none⟩),fun W hW=>(by go_wp2),?_⟩;refine⟨.int .i64 xj,fun W hW=>(by have v0:=hxj.out W hW;go_wp2),?_⟩;refine⟨.bool q2,fun W hW=>(by
     go_wp2_with fail;refine(hii.out W hW).mono ?_;rintro e w' ⟨rfl,hb'⟩;replace hW:=hW.trans (hb'.mono hW.size);go_wp2),?_⟩
    refine⟨.bool (!q2),fun W hW=>(by go_wp2),?_⟩;refine⟨.bool (!q2),fun W hW=>(by go_wp2),?_⟩;intro W5 hW5;simp only[Act.put,sA,sZ,sS];have hb5:=hb.trans (hW5.mono hb.size);have k5:=k0.below hW5 k0.lt;cases q2 with
    |true=>
     have hn3:=hide (hnx.out (by rw[hrA.out];rfl));clear hnx hn2 hrA;go_wp2;go_roundw;case rel=>exact⟨i+1,by omega,by go_num,hn3,hb5,k5⟩
     case measure=>simp[intOf];omega
    |false=>
     have hr2:=hn2.out (by rw[hrA.out];rfl);subst hr2;clear hn2 hrA hnx hyes hno;go_wp2;go_ret;exact⟨rfl,hb5⟩
  ·obtain rfl:i=row.length:=(by omega);have hr2:=hyes.out hall.out;obtain⟨q,hq⟩:∃q,decide (0<row.length)=q:=⟨_,rfl⟩;have hq2:decide ((row.length:Int)>0)=q:=(by rw[←hq];simp);rw[hq]at hr2;subst hr2;clear hyes hno hall;go_wp2;go_ret;exact⟨rfl,hb⟩
set_option maxRecDepth 100000 in
theorem Kw(A:Option Addr)(c:Nat)(H:List Txn)(t key:Int)(bh bc:Nat)(w:World)(h:aA w (Old w) (.slice A H.length c) H)(hn:aG H)(hbh:w.cell? ⟨bh,0,none⟩=some (.slice A H.length c))(hbc:w.cell? ⟨bc,0,none⟩=some (.int .i64 key)):
 Calls Tryz.prog 236 #[.int .i64 t,.pointer (some ⟨bh,0,none⟩),.pointer (some ⟨bc,0,none⟩)] w fun e w'=>e= .returned (.bool (wrB H t key))∧Below w.heap.size w w':=by
 have hlen:=hn.1;have M8:=hide (fun W (hW:Below w.heap.size w W)=>(hW.cell (p:=⟨bh,0,none⟩) (block_lt_of_cell hbh)).trans hbh);have hbc2:=hide (fun W (hW:Below w.heap.size w W)=>(hW.cell (p:=⟨bc,0,none⟩) (block_lt_of_cell hbc)).trans hbc);clear hbh hbc;by_cases h0:0≤t
 ·have h0b:decide (t≥0)=true:=(by simpa using h0);by_cases h1:t<(H.length:Int)
  ·obtain⟨m,rfl⟩:∃m:Nat,t=m:=⟨t.toNat,by omega⟩;have hm:m<H.length:=(by omega);have hr:=EU (key:=key) hm;rw[aH hm]at hr;obtain⟨b,off,Aw,cw,Ar,cr,rfl,hbK,d0,d1,d2,hws,_⟩:=aA.at_ h hm;have hd1:=hide (fun W (hW:Below w.heap.size w W)=>(hW.cell (p:=⟨b,off+m*3+1,none⟩) hbK).trans d1);have hwl:H[m].writes.length≤maxLen:=(by have:=(hn.2 _ (List.getElem_mem hm)).1;unfold maxLen;omega);have hcc:=hide (fun W (hW:Below w.heap.size w W)=>bZ Aw cw H[m].writes key (Old W) W (aB.below hws hW) hwl);generalize H[m].writes=L at*;generalize hqe:L.contains key=q at*;rw[hr];have hm1:decide (m<H.length)=true:=(by simpa using hm);have hm2:(0:Int)≤(m:Int):=Int.natCast_nonneg _;replace hn:=hide hn;clear h h0 hws d0 d1 d2 hr hqe;go_enter Tryz.func236,Tryz.ntmps236;go_upto_region 1 with fail;refine bK (fun W=>Below w.heap.size w W) (by kernel_rfl) (by kernel_rfl) (Below.refl _ _).drew ?_;refine⟨.int .i64 (m:Int),fun W hW=>(by go_wp2),?_⟩;refine⟨.bool true,fun W hW=>(by go_wp2),?_⟩;refine⟨.bool true,fun W hW=>(by go_wp2),?_⟩;refine⟨.int .i64 (m:Int),fun W hW=>(by go_wp2),?_⟩;refine⟨.pointer (some ⟨bh,0,none⟩),fun W hW=>(by go_wp2),?_⟩;refine⟨.slice (some ⟨b,off,none⟩) H.length c,fun W hW=>(by have v0:=M8.out W hW;go_wp2),?_⟩;refine⟨.int .i64 (H.length:Int),fun W hW=>(by go_wp2),?_⟩;refine⟨.bool true,fun W hW=>(by go_wp2),?_⟩;refine⟨.bool true,fun W hW=>(by go_wp2),?_⟩;refine⟨.bool true,fun W hW=>(by go_wp2),?_⟩;refine⟨.pointer (some ⟨bh,0,none⟩),fun W hW=>(by go_wp2),?_⟩;refine⟨.slice (some ⟨b,off,none⟩) H.length c,fun W hW=>(by have v0:=M8.out W hW;go_wp2),?_⟩;refine⟨.int .i64 (m:Int),fun W hW=>(by go_wp2),?_⟩;refine⟨.pointer (some ⟨b,off+m*3,none⟩),fun W hW=>(by go_wp2),?_⟩;refine⟨.pointer (some ⟨b,off+m*3+1,none⟩),fun W hW=>(by go_wp2),?_⟩;refine⟨.slice Aw L.length cw,fun W hW=>(by have v0:=hd1.out W hW;go_wp2),?_⟩;refine⟨.pointer (some ⟨bc,0,none⟩),fun W hW=>(by go_wp2),?_⟩;refine⟨.int .i64 key,fun W hW=>(by have v0:=hbc2.out W hW;go_wp2),?_⟩;refine⟨.bool q,fun W hW=>(by
    go_wp2_with fail;refine(hcc.out W hW).mono ?_;rintro e w' ⟨rfl,rfl⟩;go_wp2),?_⟩
   refine⟨.bool q,fun W hW=>(by go_wp2),?_⟩;refine⟨.bool q,fun W hW=>(by go_wp2),?_⟩;intro W5 hW5;simp only[Act.put,sA,sZ,sS];go_wp2;go_ret;exact⟨rfl,hW5⟩
  ·have hr:wrB H t key=false:=(by unfold wrB;simp;intro _ e;exact absurd e h1);have h1b:decide (t<(H.length:Int))=false:=(by simpa using h1);rw[hr];replace hn:=hide hn;clear h h0 h1 hr;go_enter Tryz.func236,Tryz.ntmps236;go_upto_region 1 with fail;refine bK (fun W=>Below w.heap.size w W) (by kernel_rfl) (by kernel_rfl) (Below.refl _ _).drew ?_;refine⟨.int .i64 t,fun W hW=>(by go_wp2),?_⟩;refine⟨.bool true,fun W hW=>(by go_wp2),?_⟩;refine⟨.bool true,fun W hW=>(by go_wp2),?_⟩;refine⟨.int .i64 t,fun W hW=>(by go_wp2),?_⟩;refine⟨.pointer (some ⟨bh,0,none⟩),fun W hW=>(by go_wp2),?_⟩;refine⟨.slice A H.length c,fun W hW=>(by have v0:=M8.out W hW;go_wp2),?_⟩;refine⟨.int .i64 (H.length:Int),fun W hW=>(by go_wp2),?_⟩;refine⟨.bool false,fun W hW=>(by go_wp2),?_⟩;refine⟨.bool false,fun W hW=>(by go_wp2),?_⟩;refine⟨.bool false,fun W hW=>(by go_wp2),?_⟩;refine⟨undef,fun W hW=>(by go_wp2),?_⟩;refine⟨undef,fun W hW=>(by go_wp2),?_⟩;refine⟨undef,fun W hW=>(by go_wp2),?_⟩;refine⟨undef,fun W hW=>(by go_wp2),?_⟩;refine⟨undef,fun W hW=>(by go_wp2),?_⟩;refine⟨undef,fun W hW=>(by go_wp2),?_⟩;refine⟨undef,fun W hW=>(by go_wp2),?_⟩;refine⟨undef,fun W hW=>(by go_wp2),?_⟩;refine⟨undef,fun W hW=>(by go_wp2),?_⟩;refine⟨.bool false,fun W hW=>(by go_wp2),?_⟩;refine⟨.bool false,fun W hW=>(by go_wp2),?_⟩;intro W5 hW5;simp only[Act.put,sA,sZ,sS];go_wp2;go_ret;exact⟨rfl,hW5⟩
 ·have hr:wrB H t key=false:=(by unfold wrB;simp;intro e;exact absurd e h0);have h0b:decide (t≥0)=false:=(by simpa using h0);rw[hr];replace hn:=hide hn;clear h h0 hr;go_enter Tryz.func236,Tryz.ntmps236;go_upto_region 1 with fail;refine bK (fun W=>Below w.heap.size w W) (by kernel_rfl) (by kernel_rfl) (Below.refl _ _).drew ?_;refine⟨.int .i64 t,fun W hW=>(by go_wp2),?_⟩;refine⟨.bool false,fun W hW=>(by go_wp2),?_⟩;refine⟨.bool false,fun W hW=>(by go_wp2),?_⟩;refine⟨undef,fun W hW=>(by go_wp2),?_⟩;refine⟨undef,fun W hW=>(by go_wp2),?_⟩;refine⟨undef,fun W hW=>(by go_wp2),?_⟩;refine⟨undef,fun W hW=>(by go_wp2),?_⟩;refine⟨undef,fun W hW=>(by go_wp2),?_⟩;refine⟨.bool false,fun W hW=>(by go_wp2),?_⟩;refine⟨.bool false,fun W hW=>(by go_wp2),?_⟩;refine⟨undef,fun W hW=>(by go_wp2),?_⟩;refine⟨undef,fun W hW=>(by go_wp2),?_⟩;refine⟨undef,fun W hW=>(by go_wp2),?_⟩;refine⟨undef,fun W hW=>(by go_wp2),?_⟩;refine⟨undef,fun W hW=>(by go_wp2),?_⟩;refine⟨undef,fun W hW=>(by go_wp2),?_⟩;refine⟨undef,fun W hW=>(by go_wp2),?_⟩;refine⟨undef,fun W hW=>(by go_wp2),?_⟩;refine⟨undef,fun W hW=>(by go_wp2),?_⟩;refine⟨.bool false,fun W hW=>(by go_wp2),?_⟩;refine⟨.bool false,fun W hW=>(by go_wp2),?_⟩;intro W5 hW5;simp only[Act.put,sA,sZ,sS];go_wp2;go_ret;exact⟨rfl,hW5⟩
set_option maxRecDepth 100000 in
theorem zB(A:Option Addr)(c:Nat)(H:List Txn)(key a b:Int)(w:World)(h:aA w (Old w) (.slice A H.length c) H)(hn:aG H):
 Calls Tryz.prog 209 #[.agg #[.slice A H.length c],.agg #[.int .i64 key,.int .i64 a,.int .i64 b]] w fun e w'=>e= .returned (.bool (jC H ⟨key,a,b⟩))∧Below w.heap.size w w':=by
 obtain⟨W0,hW0⟩:∃W0,(w.alloc (.cells #[.slice A H.length c] 24)).alloc (.cells #[.int .i64 key,.int .i64 a,.int .i64 b] 102)=W0:=⟨_,rfl⟩;have hB:=aN hW0;have k0:=Blk.jg hW0;have k1:=Blk.iB hW0;have hT:=hide (h.below hB);have hcl:=hide (fun(t:Int) W (hW:Below W0.heap.size W0 W)=>Kw A c H t key w.heap.size (w.heap.size+1) W (hT.out.below hW) hn (by have:=(k0.below hW k0.lt).cell 0;simpa using this) (by have:=(k1.below hW k1.lt).cell 0;simpa using this));have c0:=Blk.n0 k1;have c1:=Blk.n1 k1;have c2:=Blk.n2 k1;have hone:Hid (jC H ⟨key,a,b⟩=(decide (a≠b)&&wrB H a key&&wrB H b key)):=hide rfl;obtain⟨r,hr⟩:∃r,jC H ⟨key,a,b⟩=r:=⟨_,rfl⟩;rw[hr]at hone;rw[hr];clear h hr;by_cases hab:a=b
 ·have g1:(a !=b)=false:=(by simp[hab]);have hre:r=false:=(by rw[hone.out];simp[hab]);subst hre;clear hab hone hcl;go_enter Tryz.func209,Tryz.ntmps209;go_wp2;go_ret;exact⟨rfl,hB⟩
 ·have g1:(a !=b)=true:=(by simpa using hab);have Fw:=hide (show r=(wrB H a key&&wrB H b key) by rw[hone.out];simp[hab]);have h1:=hide (hcl.out a W0 (Below.refl _ _));have h2:=hide (fun W hW=>hcl.out b W hW);generalize wrB H a key=q1 at*;generalize wrB H b key=q2 at*;clear hab hone hcl;go_enter Tryz.func209,Tryz.ntmps209;go_wp2_with fail;refine h1.out.mono ?_;rintro e w1 ⟨rfl,hb1⟩;have d2:=(hb1.cell (p:=⟨w.heap.size+1,2,none⟩) k1.lt).trans c2;have hb2:=hB.trans (hb1.mono hB.size);have h3:=hide (h2.out w1 hb1);clear hW0 h1 h2 c0 c1 c2;cases q1 with
  |false=>
   have hre:r=false:=(by rw[Fw.out];rfl);subst hre;clear h3 Fw;go_wp2;go_ret;exact⟨rfl,hb2⟩
  |true=>
   have hre:r=q2:=(by rw[Fw.out];rfl);subst hre;clear Fw;go_wp2_with fail;refine h3.out.mono ?_;rintro e w2 ⟨rfl,hb3⟩;go_wp2;go_ret;exact⟨rfl,hb2.trans (hb3.mono hb2.size)⟩
theorem Eo(k a b:Int)(w:World):Calls Tryz.prog 208 #[.agg #[.int .i64 k,.int .i64 a,.int .i64 b]] w fun e w'=>e= .returned (.agg #[.int .i64 k,.int .i64 b,.int .i64 a])∧Below w.heap.size w w':=by
 obtain⟨W0,hW0⟩:∃W0,(w.alloc (.cells #[.int .i64 k,.int .i64 a,.int .i64 b] 102)).alloc (.cells #[.int .i64 0,.int .i64 0,.int .i64 0] 102)=W0:=⟨_,rfl⟩;have hb:=aN hW0;have k1:=Blk.jg hW0;have k2:=Blk.iB hW0;have a0:=Blk.n0 k1;have a1:=Blk.n1 k1;have a2:=Blk.n2 k1;have b0:=Blk.n0 k2;have b1:=Blk.n1 k2;have b2:=Blk.n2 k2;have f0:=k2.frozen 0;have f1:=k2.frozen 1;have f2:=k2.frozen 2;have hz:=hide (((hb.setCell (p:=⟨w.heap.size+1,0,none⟩) (by simp) (.int .i64 k)).setCell (p:=⟨w.heap.size+1,1,none⟩) (by simp) (.int .i64 b)).setCell (p:=⟨w.heap.size+1,2,none⟩) (by simp) (.int .i64 a));have hq:=((k2.aK 0 (.int .i64 k)).aK 1 (.int .i64 b)).aK 2 (.int .i64 a);simp only[sA,sZ,sS]at hq;have y0:=Blk.n0 hq;have y1:=Blk.n1 hq;have y2:=Blk.n2 hq;clear hq;go_enter Tryz.func208,Tryz.ntmps208;go_wp2_with fail;exact bodyPost_ret (v:= .agg #[.int .i64 k,.int .i64 b,.int .i64 a]) (by simp[results,Tryz.results208,go_sem,y0,y1,y2]) rfl ⟨rfl,hz.out⟩
set_option maxHeartbeats 2000000
theorem Ep(A:Option Addr)(n c:Nat)(w:World)(h:n≤c):Calls Tryz.prog 82 #[.slice A n c] w fun e w'=>e= .returned (.slice A n n)∧w=w':=by
 have h1:(n:Int)≤(c:Int):=(by omega);have h0:(0:Int)≤(n:Int):=Int.natCast_nonneg _;go_enter Tryz.func82,Tryz.ntmps82;go_wp2;go_ret;exact⟨rfl,rfl⟩
theorem Ig{α:Type}{size:Nat}{enc:α→List Value}{w:World}{K:Nat→Prop}{ad:Addr}{n c:Nat}{l:List α}(h:SlR size (Flat enc) w K (.slice (some ad) n c) l)(hs:∀x,(enc x).length=size):∀(j:Nat) (u:Value),(l.map enc).flatten[j]?=some u→w.cell? (ad.add j)=some u:=by
 intro j u hj;obtain⟨i,k,cs,rfl,h1,h2⟩:=oG (size:=size) (l.map enc) j u (fun i cs e=>by
  rw[List.getElem?_map]at e;obtain⟨x,-,rfl⟩:=Option.map_eq_some_iff.1 e;exact hs x) hj
 rw[List.getElem?_map]at h1;obtain⟨x,hx,rfl⟩:=Option.map_eq_some_iff.1 h1;obtain⟨hi,rfl⟩:=List.getElem?_eq_some_iff.1 hx;obtain⟨b,off,cs',e,-,-,hR,hc⟩:=h.at_ hi;injection e with e
 subst e;unfold Flat at hR;subst hR;have:=hc k u h2;rw[show(⟨b,off,none⟩:Addr).add (i*size+k)=⟨b,off+i*size+k,none⟩ by unfold Addr.add;split<;>simp_all<;>omega];exact this
theorem jw {P:Program} {w:World} {ops:Array Oper} {rest:List Oper} {o:Oper} {a:Act} {Q:Exit→Act→World→Prop} {α:Type} {enc:α→List Value}
 (hgd:o.guard=none) (s x:Operand) (t:TypeId) (ho:o.op= .call {callee:= .builtin .append,args:=#[s,x],argTypes:=#[t,t]})
 (e:TypeId) (i:TypeInfo) (z:Value) (size bytes:Nat) (ht:P.underlying t=some (.slice e)) (hi:P.info? e=some i) (hz:i.zero=some z)
 (hsize:i.size=size) (hby:i.bytes=bytes) (hzs:z.cells.size=size) (hsz:0<size)
 (ao:Option Addr) (K:Nat→Prop) (l:List α) (hs:a.eval s= .slice ao l.length l.length) (hl:SlR size (Flat enc) w K (.slice ao l.length l.length) l) (hen:∀x,(enc x).length=size)
 (g:Nat) (cs:Array Value) (x0:α) (kg:Blk w g e cs) (hcs:cs.toList=enc x0) (hx:a.eval x= .slice (some ⟨g,0,none⟩) 1 1)
 (h1:∀x,∀u∈enc x,u.oneCell'=true) (h63:l.length+1≤maxLen) (hbytes:(l.length+1)*bytes≤140737488355328)
 (h:∀v' w',w'.ownsRow w.heap.size e size v' (l++[x0]).length ((l++[x0]).map enc).flatten→Below w.heap.size w w'→wpList P ops Q rest (a.put o.dst v') w'):
 wpList P ops Q (o::rest) a w:=by
 refine wpList_append_grows w hgd s x t ho e i z size bytes ht hi hz hsize hby hzs hsz ao l.length l.length (l.map enc).flatten hs (fun e=> ?_) ?_ (fun b e=> ?_) ⟨g,0,none⟩ 1 1 (enc x0) hx (by rw[hen];omega) (fun j u hj=> ?_) (h1 x0) (by omega) h63 hbytes ?_
 ·rcases Nat.eq_zero_or_pos l.length with h0|h0
  ·exact⟨h0,h0⟩
  ·obtain⟨b,off,cs',e',-⟩:=hl.at_ h0;rw[e]at e';cases e'
 ·clear h hs hl h63 hbytes
  induction l with
  |nil=>simp
  |cons y l ih=>rw[List.map_cons,List.flatten_cons,List.length_append,hen,ih,List.length_cons,Nat.add_mul];omega
 ·subst e;exact Ig hl hen
 ·have:=kg.cell j;rw[show(⟨g,0,none⟩:Addr).add j=⟨g,j,none⟩ by unfold Addr.add;split<;>simp_all,this];rw[←hcs]at hj;simpa using hj
 ·intro v' w' g1 g2;refine h v' w' ?_ ((Below.refl _ _).grown g2 (Nat.le_refl _) (by simp));rw[List.map_append,List.flatten_append,List.length_append];simpa using g1
end Go.Proofs.YtfhnamomiaekdaaGreatDoor
namespace Go.Proofs.YtfhnamomiaekdaaGreatDoor
open Go.RowKit Go.Inq
set_option maxHeartbeats 1000000
theorem vO:∀(l:List Cho) (i:Nat) (d:Cho),i<l.length→((((l.map j6).flatten.set (i*3) (.int .i64 d.key)).set (i*3+1) (.int .i64 d.a)).set (i*3+2) (.int .i64 d.b))=((l.set i d).map j6).flatten
 |[],i,d,h=>by simp at h
 |x::l,0,d,h=>by simp[j6]
 |x::l,i+1,d,h=>by
  have ih:=vO l i d (by simpa using h);rw[show(i+1)*3=i*3+1+1+1 by omega];simp only[List.map_cons,List.flatten_cons,j6,List.cons_append,List.nil_append,sS];rw[←ih]
def Qf(w:World)(g i:Nat)(d:Cho):World:=((w.setCell ⟨g,i*3,none⟩ (.int .i64 d.key)).setCell ⟨g,i*3+1,none⟩ (.int .i64 d.a)).setCell ⟨g,i*3+2,none⟩ (.int .i64 d.b)
theorem iD.store{w:World}{base:Nat}{A:Option Addr}{n c:Nat}{l:List Cho}(h:iD w base (.slice A n c) l){i:Nat}(hi:i<l.length):
 ∃g cs,A=some ⟨g,0,none⟩∧base≤g∧g<w.heap.size∧Blk w g 102 cs∧cs[i*3]?=some (.int .i64 l[i].key)∧cs[i*3+1]?=some (.int .i64 l[i].a)∧cs[i*3+2]?=some (.int .i64 l[i].b)∧∀d,iD (Qf w g i d) base (.slice A n c) (l.set i d):=by
 have hat:=(iD.sl (K:=fun _=>True) h (fun _ _ _=>trivial)).at_ hi;have h0:=h;rcases h.2 with⟨_,h4⟩|⟨g,cap,cur,hv,hg,hh,h6,h7,h8,h9⟩
 ·omega
 ·simp only[Value.slice.injEq]at hv;obtain⟨rfl,hn,rfl⟩:=hv;have hk:Blk w g 102 cur:=hh;obtain⟨b,off,e,-,c0,c1,c2⟩:=hat;injection e with e
  injection e with e1 e2
  subst e1 e2;rw[Nat.zero_add]at c0 c1 c2;rw[hk.cell]at c0 c1 c2;refine⟨g,cur,rfl,hg,hk.lt,hk,c0,c1,c2,fun d=> ?_⟩;have hb2:=((hk.aK (i*3) (.int .i64 d.key)).aK (i*3+1) (.int .i64 d.a)).aK (i*3+2) (.int .i64 d.b);refine⟨?_,.inr ⟨g,c,_,by simp only[Value.slice.injEq,List.length_set];exact⟨trivial,hn,trivial⟩,hg,hb2,by rw[List.length_set];exact h6,h7,by simpa using h8,?_⟩⟩
  ·rw[←vO l i d hi,List.length_set,List.length_set,List.length_set,List.length_set];exact h.1
  ·rw[List.length_set,←vO l i d hi,←h9];simp only[Array.toList_setIfInBounds,List.take_set]
end Go.Proofs.YtfhnamomiaekdaaGreatDoor
namespace Go.Inq
open Go Go.RowKit
def Cho.Qg(x:Cho):Value:= .agg #[.int .i64 x.key,.int .i64 x.a,.int .i64 x.b]
section
variable{P:Program}{k:TypeId}{α:Type}{enc:α→Value}{w:World}{g:Nat}
def Ky(x:Cho):List (Cho×α)→Option (Nat×α)
 |[]=>none
 |(y,v)::r=>if x=y then some (0,v)else(Ky x r).map fun p=>(p.1+1,p.2)
def Kz(enc:α→Value):List MapEntry→List (Cho×α)→Prop
 |[],[]=>True
 |e::es,(y,v)::r=>e.key=y.Qg∧e.val=enc v∧Kz enc es r
 |_,_=>False
def rO(enc:α→Value)(w:World)(g:Nat)(B:Cho→Option α):Prop:=
 ∃es clock l,w.heap[g]?=some (.map es clock)∧Kz enc es.toList l∧∀x,(Ky x l).map (·.2)=B x
theorem rO.lt{B:Cho→Option α}(h:rO enc w g B):g<w.heap.size:=by
 obtain⟨es,c,l,h1,_⟩:=h;exact(Array.getElem?_eq_some_iff.1 h1).1
theorem rO.new(w:World):rO enc (w.alloc (.map #[] 0)) w.heap.size (fun _=>none):=⟨#[],0,[],(MapKept.heap_alloc w _).1,trivial,fun _=>rfl⟩
theorem rO.agree{w':World}{B:Cho→Option α}(h:rO enc w g B)(ha:w'.heap[g]?=w.heap[g]?):rO enc w' g B:=by
 obtain⟨es,c,l,h1,h2,h3⟩:=h;exact⟨es,c,l,ha.trans h1,h2,h3⟩
theorem rO.below{w':World}{n:Nat}{B:Cho→Option α}(h:rO enc w g B)(hb:Below n w w')(hg:g<n):rO enc w' g B:=h.agree (hb.block g hg)
theorem rO.same{B B':Cho→Option α}(h:rO enc w g B)(hB:∀x,B x=B' x):rO enc w g B':=by
 obtain⟨es,c,l,h1,h2,h3⟩:=h;exact⟨es,c,l,h1,h2,fun x=>(h3 x).trans (hB x)⟩
end
end Go.Inq
namespace Go.Proofs.YtfhnamomiaekdaaGreatDoor
open Go.RowKit Go.Inq
set_option maxHeartbeats 1000000
end Go.Proofs.YtfhnamomiaekdaaGreatDoor
