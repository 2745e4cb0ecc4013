/-
  Plain words of layer 30: a state that may be is followed by one that may be; no program in sight.
-/
import Derived.Test.YtfhnamomiaekdaaGreatDoorP24
import Derived.Test.YtfhnamomiaekdaaGreatDoorP07
import Derived.Test.YtfhnamomiaekdaaGreatDoorP02
set_option linter.unusedVariables false
set_option linter.unusedSimpArgs false
namespace Go.Inq
theorem Ki {H:List Txn} {s:Wd} (hr:ay H=true) (w1:1≤s.width) (w2:s.width≤32) (pl:s.path.length≤H.length-1) (pf:∀i (hi:i<s.path.length),aW H.length [s.path[i]] (s.path.take i)=true)
 (hlen:s.left.length=s.path.length) (lf:∀i (hi:i<s.left.length),eO s.left[i]=true∧aW H.length s.left[i] (s.path.take i)=true):OkW H (jU H s):=by
 unfold jU;refine⟨hr,w1,w2,pl,pf,fun e=> ?_,fun _=> ?_,fun i hi=> ?_⟩
 ·simp at e
 ·simp;exact hlen
 ·dsimp only at hi⊢;by_cases h:i<s.left.length
  ·rw[List.getElem_append_left h];exact lf i h
  ·have:i=s.left.length:=(by simp at hi;omega);subst this;rw[List.getElem_append_right (Nat.le_refl _)];simp only[Nat.sub_self,List.getElem_cons_zero];rw[hlen,List.take_length];exact⟨Ht _ _ _,Ea _ _ _⟩
theorem MZ{H:List Txn}{s:Wd}(h:OkW H s)(hl:1<s.left.length):OkW H {s with left:=s.left.dropLast,path:=s.path.dropLast}:=by
 have hne:s.left≠[]:=fun e=>(by rw[e]at hl;simp at hl);have hll:=h.ll hne;refine⟨h.h,h.w1,h.w2,?_,fun i hi=> ?_,fun e=> ?_,fun _=> ?_,fun i hi=> ?_⟩
 ·have:=h.pl;simp;omega
 ·dsimp only at hi⊢;simp at hi;have:=h.pf i (by omega);have e:s.path.dropLast.take i=s.path.take i:=(by rw[List.dropLast_eq_take,List.take_take,Nat.min_eq_left (by omega)]);rw[List.getElem_dropLast,e];exact this
 ·dsimp only at e;have:s.left.dropLast.length=0:=(by rw[e];rfl);simp at this;omega
 ·simp;omega
 ·dsimp only at hi⊢;simp at hi;have:=h.lf i (by omega);have e:s.path.dropLast.take i=s.path.take i:=(by rw[List.dropLast_eq_take,List.take_take,Nat.min_eq_left (by omega)]);rw[List.getElem_dropLast,e];exact this
theorem Hu{t:Int}{r:List Int}(h:eO (t::r)=true):eO r=true:=by
 cases r with
 |nil=>rfl
 |cons b r=>unfold eO at h;rw[Bool.and_eq_true]at h;exact h.2
theorem vH{n:Nat}{t:Int}{r path:List Int}(h:aW n (t::r) path=true):aW n r path=true∧aW n [t] path=true:=by
 unfold aW at h⊢;rw[List.all_cons,Bool.and_eq_true]at h;exact⟨h.2,by rw[List.all_cons,h.1];rfl⟩
theorem tN{H:List Txn}{s:Wd}(h:OkW H s){t:Int}{r:List Int}(hl:s.left.getLast?=some (t::r)):
 OkW H {s with left:=s.left.dropLast++[r]}∧aW H.length [t] s.path=true∧(s.left.dropLast++[r]).length=s.path.length+1∧
  ∀i (hi:i<(s.left.dropLast++[r]).length),eO (s.left.dropLast++[r])[i]=true∧aW H.length (s.left.dropLast++[r])[i] (s.path.take i)=true:=by
 have hne:s.left≠[]:=fun e=>(by rw[e]at hl;simp at hl);have hll:=h.ll hne;have hm:s.left[s.left.length-1]'(by omega)=t::r:=by
  rw[List.getLast?_eq_getElem?,List.getElem?_eq_some_iff]at hl;obtain⟨_,e⟩:=hl;exact e
 have hlast:=h.lf (s.left.length-1) (by omega);rw[hm]at hlast;have hpt:s.path.take (s.left.length-1)=s.path:=List.take_of_length_le (by omega);rw[hpt]at hlast;have hrows:∀i (hi:i<(s.left.dropLast++[r]).length),eO (s.left.dropLast++[r])[i]=true∧aW H.length (s.left.dropLast++[r])[i] (s.path.take i)=true:=fun i hi=>by
  by_cases hi2:i<s.left.dropLast.length
  ·rw[List.getElem_append_left hi2,List.getElem_dropLast];exact h.lf i (by simp at hi2;omega)
  ·have:i=s.left.dropLast.length:=(by simp at hi hi2⊢;omega);subst this;rw[List.getElem_append_right (Nat.le_refl _)];simp only[Nat.sub_self,List.getElem_cons_zero];rw[List.length_dropLast,hpt];exact⟨Hu hlast.1,(vH hlast.2).1⟩
 have hlen:(s.left.dropLast++[r]).length=s.path.length+1:=(by simp;omega);exact⟨⟨h.h,h.w1,h.w2,h.pl,h.pf,fun e=>by simp at e,fun _=>hlen,hrows⟩,(vH hlast.2).2,hlen,hrows⟩
theorem Ll{H:List Txn}{s:Wd}(h:OkW H s){t:Int}{r:List Int}(hl:s.left.getLast?=some (t::r))(hn:(s.path++[t]).length≠H.length):OkW H (jU H {s with left:=s.left.dropLast++[r],path:=s.path++[t]}):=by
 obtain⟨_,h2,h3,h4⟩:=tN h hl;have hpl:=h.pl;have hx:=Da h2 (x:=t) (by simp);have hH:0<H.length:=(by omega);refine Ki h.h h.w1 h.w2 ?_ (fun i hi=> ?_) (by simpa using h3) (fun i hi=> ?_)
 ·simp at hn⊢;omega
 ·dsimp only at hi⊢;by_cases hi2:i<s.path.length
  ·rw[List.getElem_append_left hi2,List.take_append_of_le_length (by omega)];exact h.pf i hi2
  ·have:i=s.path.length:=(by simp at hi;omega);subst this;rw[List.getElem_append_right (Nat.le_refl _),List.take_append_of_le_length (Nat.le_refl _),List.take_length];simpa using h2
 ·dsimp only at hi⊢;have:=h4 i hi;rw[List.take_append_of_le_length (by omega)];exact this
theorem step_ok{H:List Txn}{level:Int}{s:Wd}(h:OkW H s):OkW H (stepW H level s).1:=by
 unfold stepW;split
 ·exact h
 ·split
  ·exact h
  ·split
   ·rename_i hl;have e:s.left=[]:=(by simpa using hl);have hp:=h.l0 e;exact Ki h.h h.w1 h.w2 h.pl h.pf (by rw[e,hp];rfl) h.lf
   ·split
    ·rename_i h1;exact MZ h h1
    ·split
     ·rename_i h2;exact⟨h.h,by have:=h.w1;dsimp only;omega,by have:=h2.2;dsimp only;omega,by simp,by simp,fun _=>rfl,fun e=>absurd rfl e,by simp⟩
     ·exact h
   ·rename_i t r hl;dsimp only;split
    ·exact(tN h hl).1
    ·split
     ·exact(tN h hl).1
     ·rename_i hn;exact Ll h hl hn
end Go.Inq
namespace Go.Proofs.YtfhnamomiaekdaaGreatDoor
open Go.RowKit Go.Inq
theorem Lm{L:List (List Int)}{x:List Int}:(L++[x]).getLast?=some x:=by simp
theorem Hw{H:List Txn}{s:Wd}{L:List (List Int)}{t:Int}{r:List Int}(ho:OkW H s)(h:s.left=L++[t::r])(hlen:(s.path++[t]).length=H.length):aT (s.path++[t]) H.length=true:=by
 obtain⟨_,hf,_,_⟩:=tN ho (t:=t) (r:=r) (by rw[h,Lm]);have hpf:=ho.pf;have hfr:∀{x:Int} {p:List Int},aW H.length [x] p=true→0≤x∧x<(H.length:Int)∧x∉p:=fun{x p} g=>by
  unfold aW at g;simp only[List.all_cons,List.all_nil,Bool.and_true,Bool.and_eq_true,Bool.not_eq_true']at g;refine⟨of_decide_eq_true g.1.1,of_decide_eq_true g.1.2,fun hm=> ?_⟩;rw[List.contains_iff_mem.2 hm]at g;exact absurd g.2 (by decide)
 obtain⟨f1,f2,f3⟩:=hfr hf;refine zo hlen ?_ fun x hx=> ?_
 ·rw[List.nodup_append];refine⟨?_,by simp,fun a ha b hb e=> ?_⟩
  ·rw[List.nodup_iff_pairwise_ne,List.pairwise_iff_getElem];intro i j hi hj hij e;obtain⟨_,_,g3⟩:=hfr (hpf j hj);exact g3 (List.mem_take_iff_getElem.2 ⟨i,by omega,e⟩)
  ·simp at hb;subst hb;exact f3 (e▸ha)
 ·rw[List.mem_append,List.mem_singleton]at hx;rcases hx with hx|rfl
  ·obtain⟨i,hi,rfl⟩:=List.getElem_of_mem hx;obtain⟨g1,g2,_⟩:=hfr (hpf i hi);exact⟨g1,g2⟩
  ·exact⟨f1,f2⟩
end Go.Proofs.YtfhnamomiaekdaaGreatDoor
namespace Go.Inq
structure Fct where
 c:Cho
 kind:Int
 i:Int
 j:Int
 cyc:List Int
deriving DecidableEq
def Oo(L:List Fct)(f:Fct):Bool:=
 decide (0≤f.i)&&decide (f.i<(L.length:Int))&&decide (0≤f.j)&&decide (f.j<(L.length:Int))&&
  match L[f.i.toNat]?,L[f.j.toNat]? with
  |some x,some y=>decide (x.c.b=y.c.a)&&decide (x.c.key=y.c.key)&&decide (f.c=⟨x.c.key,x.c.a,y.c.b⟩)
  |_,_=>false
def Oq(H:List Txn)(f:Fct):Bool:=
 decide (f.j=0)&&decide (f.i≠f.c.a)&&decide (0≤f.i)&&decide (f.i<(H.length:Int))&&
  ((aF H f.i.toNat).reads.any fun x=>decide (x.a=f.c.key)&&decide (x.b=f.c.b))&&dJ H [] f.c.a f.i
def axB(H:List Txn)(f:Fct):Bool:=decide (f.i=0)&&decide (f.j=0)&&dJ H [] f.c.a f.c.b
def Ot(H:List Txn)(level:Int)(L:List Fct)(f:Fct):Bool:=decide (f.i=0)&&decide (f.j=0)&&lY H level (L.map (·.c)++[j5 f.c]) f.cyc
def Qa(H:List Txn)(level:Int)(L:List Fct)(f:Fct):Bool:=
 if f.kind=1 then axB H f else if f.kind=2 then Oo L f else if f.kind=3 then Oq H f else if f.kind=4 then Ot H level L f else false
def Kj(H:List Txn)(level:Int):Bool:=ay H&&(decide (level=0)||decide (level=1))
def M0(H:List Txn)(level:Int)(L:List Fct)(f:Fct):Bool:=
 Kj H level&&jC H f.c&&(decide (f.kind=4)||decide (f.cyc=[]))&&Qa H level L f
section
variable{n:Nat}{E:au}{v:Nat}
end
section
variable{H:List Txn}{l:List Cho}{x y:Nat}
end
structure Nod where
 c:Cho
 cyc:List Int
deriving DecidableEq
def yC:Cho:=⟨0,0,0⟩
def Ou(c:Cho)(x:Nat×Nat):Fct:=⟨c,2,(x.1:Int),(x.2:Int),[]⟩
def Qb(n:Nat):List (Nat×Nat):=((List.range n).map fun i=>(List.range n).map fun j=>(i,j)).flatten
def Fb(H:List Txn)(level:Int)(L:List Fct)(c:Cho):Option Fct:=((Qb L.length).map (Ou c)).find? (M0 H level L)
end Go.Inq
namespace Go.Proofs.YtfhnamomiaekdaaGreatDoor
open Go.RowKit Go.Inq
set_option maxHeartbeats 1000000
def Kk(H:List Txn)(level:Int)(π:List Int):Bool:=if level=0 then vB H π else if level=1 then gY H (fE H π)else false
theorem Lp{H:List Txn}{m:List Cho}{o:List Nat}(hr:ay H=true)(hm:Bz (cK H) m)(hg:qo H 1 m=true)(ht:lX H.length (eH H 1 m) o):gY H (fE H (iX o))=true:=by
 have hp:aT (iX o) H.length=true:=ht.perm;rw[BJ,sD hr hp,Bool.true_and,Hr hr hp,zn hp];refine Hl (Li hm ht fun a b h=> ?_) hg;unfold eH orE;rw[h];simp
theorem Kl{H:List Txn}{level:Int}{m:List Cho}{o:List Nat}(hr:ay H=true)(hl:level=0∨level=1)(hm:Bz (cK H) m)(ho:gG H.length (eH H level m)=some o):Kk H level (iX o)=true:=by
 have ht:=BF ho;have hg:qo H level m=true:=(by rw[←D8,ho];rfl);unfold Kk;rcases hl with rfl|rfl
 ·rw[if_pos rfl];exact Ka hr hm ht
 ·rw[if_neg (by decide),if_pos rfl];exact Lp hr hm hg ht
theorem BK{H:List Txn}{s:Wd}{t:Int}{r:List Int}(ho:OkW H s)(hl:s.left.getLast?=some (t::r))(hlen:(s.path++[t]).length=H.length):aT (s.path++[t]) H.length=true:=by
 refine Hw (L:=s.left.dropLast) (r:=r) ho ?_ hlen;have hne:s.left≠[]:=fun e=>(by rw[e]at hl;simp at hl);rw[List.getLast?_eq_some_getLast hne]at hl;injection hl with hl
 rw[←hl];exact(List.dropLast_concat_getLast hne).symm
theorem Hy{H:List Txn}{level:Int}{s:Wd}(h:OkW H s):
 ((stepW H level s).2.1=1∧Kk H level (stepW H level s).2.2=true)∨((stepW H level s).2.2=[]∧((stepW H level s).2.1=0∨(stepW H level s).2.1=3)):=by
 unfold stepW;split
 ·exact .inr ⟨rfl,.inr rfl⟩
 ·rename_i h0;have hl:level=0∨level=1:=(by omega);split
  ·rename_i hH;subst hH;refine .inl ⟨rfl,?_⟩;have:=Kl (level:=level) (m:=[]) (o:=[]) h.h hl (by rw[show cK []=[] by kernel_rfl];trivial) (by rfl);exact this
  ·split
   ·exact .inr ⟨rfl,.inl rfl⟩
   ·split
    ·exact .inr ⟨rfl,.inl rfl⟩
    ·split
     ·exact .inr ⟨rfl,.inl rfl⟩
     ·exact .inr ⟨rfl,.inr rfl⟩
   ·rename_i t r Qc;dsimp only;split
    ·exact .inr ⟨rfl,.inl rfl⟩
    ·rename_i o wL;split
     ·rename_i hlen;refine .inl ⟨rfl,?_⟩;exact Kl h.h hl (Lh (BK h Qc hlen)) wL
     ·exact .inr ⟨rfl,.inl rfl⟩
def Hz(w:World)(K:Nat→Prop)(cs:List Value)(f:Fct):Prop:=∃A c,cs=[.int .i64 f.c.key,.int .i64 f.c.a,.int .i64 f.c.b,.int .i64 f.kind,.int .i64 f.i,.int .i64 f.j,.slice A f.cyc.length c]∧aB w K (.slice A f.cyc.length c) f.cyc
theorem Hz.bf:nV Hz:=fun _ _ _ _ _ _ h ha hk=>by
 obtain⟨A,c,h1,h2⟩:=h;exact⟨A,c,h1,aB.keep h2 ha hk⟩
def l8(w:World)(K:Nat→Prop)(v:Value)(l:List Fct):Prop:=SlR 7 Hz w K v l
section
variable{w w':World}{K K':Nat→Prop}{v:Value}{l:List Fct}
theorem l8.keep(h:l8 w K v l)(ha:Agree K w w')(hk:∀b,K b→K' b):l8 w' K' v l:=SlR.keep Hz.bf h ha hk
theorem l8.below(h:l8 w (Old w) v l)(hb:Below w.heap.size w w'):l8 w' (Old w') v l:=SlR.below Hz.bf h hb
theorem l8.fit(h:l8 w K v l)(hk:∀b,K b→K' b):l8 w K' v l:=SlR.fit Hz.bf h hk
theorem l8.nil(w:World)(K:Nat→Prop)(A:Option Addr)(c:Nat):l8 w K (.slice A 0 c) []:=SlR.nil _ _ _ _ _ _
theorem l8.take{A:Option Addr}{n c:Nat}(h:l8 w K (.slice A n c) l){k:Nat}(hk:k≤l.length):l8 w K (.slice A k c) (l.take k):=SlR.take h hk
theorem l8.cap{A:Option Addr}{n c:Nat}(h:l8 w K (.slice A n c) l):l.length≤c:=by
 obtain⟨_,_,e,h1⟩:=SlR.len h;simp only[Value.slice.injEq]at e;omega
structure Ov(w:World)(K:Nat→Prop)(b o:Nat)(f:Fct)(Ay:Option Addr)(cy:Nat):Prop where
 d0:w.cell? ⟨b,o,none⟩=some (.int .i64 f.c.key)
 d1:w.cell? ⟨b,o+1,none⟩=some (.int .i64 f.c.a)
 d2:w.cell? ⟨b,o+2,none⟩=some (.int .i64 f.c.b)
 d3:w.cell? ⟨b,o+3,none⟩=some (.int .i64 f.kind)
 d4:w.cell? ⟨b,o+4,none⟩=some (.int .i64 f.i)
 d5:w.cell? ⟨b,o+5,none⟩=some (.int .i64 f.j)
 d6:w.cell? ⟨b,o+6,none⟩=some (.slice Ay f.cyc.length cy)
 cyc:aB w K (.slice Ay f.cyc.length cy) f.cyc
theorem l8.at_{A:Option Addr}{n c:Nat}(h:l8 w K (.slice A n c) l){i:Nat}(hi:i<l.length):∃b off Ay cy,A=some ⟨b,off,none⟩∧K b∧Ov w K b (off+i*7) l[i] Ay cy:=by
 obtain⟨b,off,cs,hA,hK,-,⟨Ay,cy,rfl,hy⟩,hc⟩:=SlR.at_ h hi;exact⟨b,off,Ay,cy,hA,hK,hc 0 _ rfl,hc 1 _ rfl,hc 2 _ rfl,hc 3 _ rfl,hc 4 _ rfl,hc 5 _ rfl,hc 6 _ rfl,hy⟩
end
def wN(w:World)(K:Nat→Prop)(cs:List Value)(n:Nod):Prop:=∃A c,cs=[.int .i64 n.c.key,.int .i64 n.c.a,.int .i64 n.c.b,.slice A n.cyc.length c]∧aB w K (.slice A n.cyc.length c) n.cyc
theorem wN.bf:nV wN:=fun _ _ _ _ _ _ h ha hk=>by
 obtain⟨A,c,h1,h2⟩:=h;exact⟨A,c,h1,aB.keep h2 ha hk⟩
def ig(w:World)(K:Nat→Prop)(v:Value)(l:List Nod):Prop:=SlR 4 wN w K v l
section
variable{w w':World}{K K':Nat→Prop}{v:Value}{l:List Nod}
theorem ig.keep(h:ig w K v l)(ha:Agree K w w')(hk:∀b,K b→K' b):ig w' K' v l:=SlR.keep wN.bf h ha hk
theorem ig.below(h:ig w (Old w) v l)(hb:Below w.heap.size w w'):ig w' (Old w') v l:=SlR.below wN.bf h hb
theorem ig.fit(h:ig w K v l)(hk:∀b,K b→K' b):ig w K' v l:=SlR.fit wN.bf h hk
theorem ig.nil(w:World)(K:Nat→Prop)(A:Option Addr)(c:Nat):ig w K (.slice A 0 c) []:=SlR.nil _ _ _ _ _ _
theorem ig.cap{A:Option Addr}{n c:Nat}(h:ig w K (.slice A n c) l):l.length≤c:=by
 obtain⟨_,_,e,h1⟩:=SlR.len h;simp only[Value.slice.injEq]at e;omega
structure Ow(w:World)(K:Nat→Prop)(b o:Nat)(n:Nod)(Ay:Option Addr)(cy:Nat):Prop where
 d0:w.cell? ⟨b,o,none⟩=some (.int .i64 n.c.key)
 d1:w.cell? ⟨b,o+1,none⟩=some (.int .i64 n.c.a)
 d2:w.cell? ⟨b,o+2,none⟩=some (.int .i64 n.c.b)
 d3:w.cell? ⟨b,o+3,none⟩=some (.slice Ay n.cyc.length cy)
 cyc:aB w K (.slice Ay n.cyc.length cy) n.cyc
theorem ig.at_{A:Option Addr}{n c:Nat}(h:ig w K (.slice A n c) l){i:Nat}(hi:i<l.length):∃b off Ay cy,A=some ⟨b,off,none⟩∧K b∧Ow w K b (off+i*4) l[i] Ay cy:=by
 obtain⟨b,off,cs,hA,hK,-,⟨Ay,cy,rfl,hy⟩,hc⟩:=SlR.at_ h hi;exact⟨b,off,Ay,cy,hA,hK,hc 0 _ rfl,hc 1 _ rfl,hc 2 _ rfl,hc 3 _ rfl,hy⟩
end
def Ox(l:List Nod):Prop:=l.length≤100000000∧∀n∈l,n.cyc.length≤1000000
end Go.Proofs.YtfhnamomiaekdaaGreatDoor
namespace Go.Inq
inductive Tr where
 |leaf (n:Nod):Tr
 |fork (c:Cho) (l r:Tr):Tr
def Tr.flat:Tr→List Nod
 | .leaf n=>[n]
 | .fork c l r=>⟨c,[]⟩::(l.flat++r.flat)
def Tr.ok:Tr→Prop
 | .leaf n=>n.cyc≠[]
 | .fork _ l r=>l.ok∧r.ok
def Tr.leaves:Tr→Nat
 | .leaf _=>1
 | .fork _ l r=>l.leaves+r.leaves
def Tr.deep:Tr→Nat
 | .leaf _=>0
 | .fork _ l r=>1+max l.deep r.deep
def Tr.held(H:List Txn)(level:Int):Tr→List Cho→Bool
 | .leaf n,l=>decide (n.c=yC)&&lY H level l n.cyc
 | .fork c x y,l=>x.held H level (l++[c])&&y.held H level (l++[j5 c])&&jC H c
def bG:Nat→List Nod→Option (Tr×List Nod)
 |0,_=>none
 |_+1,[]=>none
 |k+1,n::r=>if n.cyc≠[]then some (.leaf n,r)else match bG k r with
  |none=>none
  |some (x,r1)=>match bG k r1 with
   |none=>none
   |some (y,r2)=>some (.fork n.c x y,r2)
theorem iH:∀{k:Nat} {l r:List Nod} {t:Tr},bG k l=some (t,r)→l=t.flat++r∧t.ok
 |0,_,_,_,h=>by cases h
 |k+1,[],_,_,h=>by cases h
 |k+1,n::l,r,t,h=>by
  unfold bG at h;split at h
  ·rename_i hc;injection h with h
   injection h with h1 h2
   subst h1 h2;exact⟨rfl,hc⟩
  ·rename_i hc;split at h
   ·cases h
   ·rename_i x r1 h1;split at h
    ·cases h
    ·rename_i y r2 h2;injection h with h
     injection h with h3 h4
     subst h3 h4;obtain⟨e1,o1⟩:=iH h1;obtain⟨e2,o2⟩:=iH h2;refine⟨?_,o1,o2⟩;have hn:n=⟨n.c,[]⟩:=by
      have:n.cyc=[]:=Classical.byContradiction hc;cases n;simp at this⊢;exact this
     show n::l=(⟨n.c,[]⟩::(x.flat++y.flat))++r2;rw[e1,e2,←hn];simp
theorem Km(t:Tr):0<t.flat.length:=by cases t<;>simp[Tr.flat]
theorem rJ:∀(t:Tr) (r:List Nod) (k:Nat),t.ok→t.flat.length≤k→bG k (t.flat++r)=some (t,r)
 | .leaf n,r,k,ho,hk=>by
  obtain⟨k,rfl⟩:∃j,k=j+1:=⟨k-1,by simp[Tr.flat]at hk;omega⟩;show bG (k+1) (n::r)=_;unfold bG;rw[if_pos (show n.cyc≠[] from ho)]
 | .fork c x y,r,k,ho,hk=>by
  have hl:(Tr.fork c x y).flat.length=x.flat.length+y.flat.length+1:=(by simp[Tr.flat]);obtain⟨k,rfl⟩:∃j,k=j+1:=⟨k-1,by omega⟩;show bG (k+1) (⟨c,[]⟩::(x.flat++y.flat)++r)=_;rw[List.cons_append,List.append_assoc];unfold bG;rw[if_neg (by simp),rJ x (y.flat++r) k ho.1 (by omega)];dsimp only;rw[rJ y r k ho.2 (by omega)]
def lZ(l:List Nod):Option Tr:=match bG l.length l with
 |some (t,[])=>some t
 |_=>none
theorem Eb{l:List Nod}{t:Tr}:lZ l=some t↔l=t.flat∧t.ok:=by
 unfold lZ;constructor
 ·intro h;split at h
  ·rename_i t' h1;injection h with h
   subst h;obtain⟨e,o⟩:=iH h1;exact⟨by rw[e];simp,o⟩
  ·cases h
 ·rintro⟨rfl,ho⟩;have:=rJ t [] t.flat.length ho (Nat.le_refl _);rw[List.append_nil]at this;rw[this]
def yD(H:List Txn)(level:Int)(l:List Cho)(tree:List Nod):Bool:=Kj H level&&match lZ tree with
 |some t=>t.held H level l
 |none=>false
structure Mk where
 c:Cho
 right:Bool
 done:List Nod
deriving DecidableEq
end Go.Inq
namespace Go.Proofs.YtfhnamomiaekdaaGreatDoor
open Go.RowKit Go.Inq
set_option maxHeartbeats 1000000
def MkR(w:World)(K:Nat→Prop)(cs:List Value)(m:Mk):Prop:=∃A c,cs=[.int .i64 m.c.key,.int .i64 m.c.a,.int .i64 m.c.b,.bool m.right,.slice A m.done.length c]∧ig w K (.slice A m.done.length c) m.done
theorem MkR.bf:nV MkR:=fun _ _ _ _ _ _ h ha hk=>by
 obtain⟨A,c,h1,h2⟩:=h;exact⟨A,c,h1,ig.keep h2 ha hk⟩
def MkS(w:World)(K:Nat→Prop)(v:Value)(l:List Mk):Prop:=SlR 5 MkR w K v l
section
variable{w w':World}{K K':Nat→Prop}{v:Value}{l:List Mk}
theorem MkS.keep(h:MkS w K v l)(ha:Agree K w w')(hk:∀b,K b→K' b):MkS w' K' v l:=SlR.keep MkR.bf h ha hk
theorem MkS.below(h:MkS w (Old w) v l)(hb:Below w.heap.size w w'):MkS w' (Old w') v l:=SlR.below MkR.bf h hb
theorem MkS.fit(h:MkS w K v l)(hk:∀b,K b→K' b):MkS w K' v l:=SlR.fit MkR.bf h hk
theorem MkS.nil(w:World)(K:Nat→Prop)(A:Option Addr)(c:Nat):MkS w K (.slice A 0 c) []:=SlR.nil _ _ _ _ _ _
theorem MkS.take{A:Option Addr}{n c:Nat}(h:MkS w K (.slice A n c) l){k:Nat}(hk:k≤l.length):MkS w K (.slice A k c) (l.take k):=SlR.take h hk
theorem MkS.cap{A:Option Addr}{n c:Nat}(h:MkS w K (.slice A n c) l):l.length≤c:=by
 obtain⟨_,_,e,h1⟩:=SlR.len h;simp only[Value.slice.injEq]at e;omega
structure Qd(w:World)(K:Nat→Prop)(b o:Nat)(m:Mk)(Ay:Option Addr)(cy:Nat):Prop where
 d0:w.cell? ⟨b,o,none⟩=some (.int .i64 m.c.key)
 d1:w.cell? ⟨b,o+1,none⟩=some (.int .i64 m.c.a)
 d2:w.cell? ⟨b,o+2,none⟩=some (.int .i64 m.c.b)
 d3:w.cell? ⟨b,o+3,none⟩=some (.bool m.right)
 d4:w.cell? ⟨b,o+4,none⟩=some (.slice Ay m.done.length cy)
 done:ig w K (.slice Ay m.done.length cy) m.done
theorem MkS.at_{A:Option Addr}{n c:Nat}(h:MkS w K (.slice A n c) l){i:Nat}(hi:i<l.length):∃b off Ay cy,A=some ⟨b,off,none⟩∧K b∧Qd w K b (off+i*5) l[i] Ay cy:=by
 obtain⟨b,off,cs,hA,hK,-,⟨Ay,cy,rfl,hy⟩,hc⟩:=SlR.at_ h hi;exact⟨b,off,Ay,cy,hA,hK,hc 0 _ rfl,hc 1 _ rfl,hc 2 _ rfl,hc 3 _ rfl,hc 4 _ rfl,hy⟩
end
def sF(p:List Mk):Nat:=(p.map fun m=>1+m.done.length).sum
theorem Kn{p:List Mk}:p.length≤sF p:=by
 unfold sF
 induction p with
 |nil=>simp
 |cons m p ih=>simp only[List.map_cons,List.sum_cons,List.length_cons];omega
theorem HV{p:List Mk}{m:Mk}(h:m∈p):1+m.done.length≤sF p:=by
 unfold sF
 induction p with
 |nil=>simp at h
 |cons x p ih=>
  simp only[List.map_cons,List.sum_cons];rcases List.mem_cons.1 h with rfl|h
  ·omega
  ·have:=ih h;omega
theorem Ec(p:List Mk)(i:Nat):sF (p.take i)≤sF p:=by
 conv=>rhs;rw[←List.take_append_drop i p]
 unfold sF;rw[List.map_append,List.sum_append];omega
def HY(l:List Nod):Prop:=∀n∈l,n.cyc.length≤1000000
def zu(p:List Mk):Prop:=sF p≤50000000∧∀m∈p,HY m.done
theorem zu.len{p:List Mk}(h:zu p):p.length≤50000000:=Nat.le_trans Kn h.1
theorem zu.done{p:List Mk}(h:zu p){m:Mk}(hm:m∈p):Ox m.done:=⟨by have:=HV hm;have:=h.1;omega,h.2 m hm⟩
theorem zu.at_{p:List Mk}(h:zu p){i:Nat}(hi:i<p.length):Ox p[i].done:=h.done (List.getElem_mem hi)
theorem zu.take{p:List Mk}(h:zu p)(i:Nat):zu (p.take i):=⟨Nat.le_trans (Ec p i) h.1,fun m hm=>h.2 m (List.mem_of_mem_take hm)⟩
end Go.Proofs.YtfhnamomiaekdaaGreatDoor
