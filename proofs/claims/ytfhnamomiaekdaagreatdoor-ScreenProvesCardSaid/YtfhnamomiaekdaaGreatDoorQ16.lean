/-
  Plain: Screen proves itself: a yes by its order, a no by its cycle, facts by replay.
-/
import Derived.Test.YtfhnamomiaekdaaGreatDoorQ15
import Derived.Test.YtfhnamomiaekdaaGreatDoorQ05
import Derived.Test.YtfhnamomiaekdaaGreatDoorQ08
import Derived.Test.YtfhnamomiaekdaaGreatDoorQ01
set_option linter.unusedVariables false
set_option linter.unusedSimpArgs false
namespace Go.Proofs.YtfhnamomiaekdaaGreatDoor
open Go.RowKit Go.Inq
theorem EB{H:List Txn}{level:Int}{L:List Fct}{f:Fct}(hk:f.kind=1∨f.kind=3):bP H level L f=bP H level [] f:=by
 unfold bP nY;rcases hk with h|h
 ·rw[if_pos h,if_pos h]
 ·rw[if_neg (by omega),if_neg (by omega),if_pos h,if_neg (by omega),if_neg (by omega),if_pos h]
theorem Im(c:Cho)(x:Option Nat):(mkF c x).kind=1∨(mkF c x).kind=3:=by
 cases x
 ·exact .inl rfl
 ·exact .inr rfl
theorem wT{H:List Txn}{level:Int}{c:Cho}{x:Cho×Option Nat}(h:x∈kI H level c):bP H level [] (mkF x.1 x.2)=true:=by
 unfold kI at h;cases hf:Gq H level c with
 |none=>rw[hf]at h;simp at h
 |some y=>
  rw[hf]at h;simp at h;subst h;unfold Gq at hf;exact List.find?_some (p:=fun x=>bP H level [] (mkF c x)) hf
theorem Ag{H:List Txn}{level:Int}{l:List Cho}{x:Cho×Option Nat}(h:x∈bT H level l):bP H level [] (mkF x.1 x.2)=true:=by
 unfold bT at h;rw[List.mem_flatten]at h;obtain⟨m,hm,hx⟩:=h;obtain⟨p,_,rfl⟩:=List.mem_map.1 hm;unfold JA at hx;rw[List.mem_append]at hx;exact hx.elim wT wT
theorem Io{H:List Txn}{level:Int}{L:List Fct}(hm:l9 H level=true)(h:∀f∈L,(f.kind=1∨f.kind=3)∧bP H level [] f=true):l6 H level L=true:=by
 unfold l6;rw[hm,Bool.and_true];unfold jr;rw[List.all_eq_true];intro i hi;have hi:=List.mem_range.1 hi;rw[Ae hi];obtain⟨h1,h2⟩:=h _ (List.getElem_mem hi);rw[EB h1,h2]
def sP(l:List (Cho×Option Nat)):List Fct:=l.map fun x=>mkF x.1 x.2
theorem KV{H:List Txn}{level:Int}(h:(bq H level).facts≠[]):l6 H level (sP (bq H level).facts)=true:=by
 unfold bq at h⊢;split at h
 ·rename_i h0;rw[if_pos h0];split at h
  ·rename_i h1;rw[if_pos h1];split at h
   ·exact absurd rfl h
   ·rename_i h2;rw[if_neg h2];refine Io ?_ fun f hf=> ?_
    ·rw[Bool.and_eq_true]at h0;unfold l9;rw[bJ h0.1,h0.2];rfl
    ·unfold sP at hf;obtain⟨x,hx,rfl⟩:=List.mem_map.1 hf;exact⟨Im _ _,Ag hx⟩
  ·exact absurd rfl h
 ·exact absurd rfl h
theorem KW{H:List Txn}{level:Int}:
 ((bq H level).said=1∧Ik H level (eZ (bq H level).order)=true∧(bq H level).tree=none∧(bq H level).facts=[])∨
 ((bq H level).said=2∧(bq H level).order=[]∧(∃l,(bq H level).tree=some l∧oI H level [] [⟨⟨0,0,0⟩,eZ l⟩]=true)∧(bq H level).facts=[])∨
 ((bq H level).said=3∧(bq H level).order=[]∧(bq H level).tree=none):=by
 unfold bq;split
 ·rename_i h0;rw[Bool.and_eq_true,Bool.or_eq_true,decide_eq_true_eq,decide_eq_true_eq]at h0;have hr:=bJ h0.1;split
  ·rename_i h1;split
   ·rename_i h2;left;refine⟨rfl,?_,rfl,rfl⟩;have hc:iA H.length (bH H level [])=false:=yQ.1 h1;have ho:=pz H.length (bH H level []);rw[hc]at ho;obtain⟨o,ho⟩:=Option.isSome_iff_exists.1 ho;rw[ho];exact NU (m:=[]) hr h0.2 (by rw[h2];trivial) ho
   ·exact .inr (.inr ⟨rfl,rfl,rfl⟩)
  ·rename_i h1;refine .inr (.inl ⟨rfl,rfl,⟨_,rfl,?_⟩,rfl⟩);have hne:zi H level []≠[]:=(by unfold zi;rw[ne_eq,List.map_eq_nil_iff];exact h1);have hring:=Ez (l:=[]) hr h0.2 (fun c hc=>by cases hc) hne;rw[Il];refine⟨by unfold l9;rw[hr];simpa using h0.2,.leaf ⟨⟨0,0,0⟩,eZ _⟩,rfl,fun e=>hne e,?_⟩;show(decide _&&ig H level [] (eZ _))=true;rw[Bool.and_eq_true];exact⟨by rfl,hring⟩
 ·exact .inr (.inr ⟨rfl,rfl,rfl⟩)
set_option maxHeartbeats 1000000
def Ip(w:World)(K:Nat→Prop)(cs:List Value)(f:Fct):Prop:=∃A c,cs=[.int .i64 f.c.key,.int .i64 f.c.a,.int .i64 f.c.b,.int .i64 f.kind,.int .i64 f.i,.int .i64 f.j,.slice A f.cyc.length c]∧aN w K (.slice A f.cyc.length c) f.cyc
theorem Ip.aZ:mG Ip:=fun _ _ _ _ _ _ h ha hk=>by
 obtain⟨A,c,h1,h2⟩:=h;exact⟨A,c,h1,aN.keep h2 ha hk⟩
def iG(w:World)(K:Nat→Prop)(v:Value)(l:List Fct):Prop:=SlR 7 Ip w K v l
section
variable{w w':World}{K K':Nat→Prop}{v:Value}{l:List Fct}
theorem iG.keep(h:iG w K v l)(ha:Agree K w w')(hk:∀b,K b→K' b):iG w' K' v l:=SlR.keep Ip.aZ h ha hk
theorem iG.below(h:iG w (Old w) v l)(hb:Below w.heap.size w w'):iG w' (Old w') v l:=SlR.below Ip.aZ h hb
theorem iG.fit(h:iG w K v l)(hk:∀b,K b→K' b):iG w K' v l:=SlR.fit Ip.aZ h hk
theorem iG.nil(w:World)(K:Nat→Prop)(A:Option Addr)(c:Nat):iG w K (.slice A 0 c) []:=SlR.nil _ _ _ _ _ _
theorem iG.take{A:Option Addr}{n c:Nat}(h:iG w K (.slice A n c) l){k:Nat}(hk:k≤l.length):iG w K (.slice A k c) (l.take k):=SlR.take h hk
theorem iG.cap{A:Option Addr}{n c:Nat}(h:iG w K (.slice A n c) l):l.length≤c:=by
 obtain⟨_,_,e,h1⟩:=SlR.len h;simp only[Value.slice.injEq]at e;omega
structure Pb(w:World)(K:Nat→Prop)(b o:Nat)(f:Fct)(Ay:Option Addr)(cy:Nat):Prop where
 d0:w.cell? ⟨b,o,none⟩=some (.int .i64 f.c.key)
 d1:w.cell? ⟨b,o+1,none⟩=some (.int .i64 f.c.a)
 d2:w.cell? ⟨b,o+2,none⟩=some (.int .i64 f.c.b)
 d3:w.cell? ⟨b,o+3,none⟩=some (.int .i64 f.kind)
 d4:w.cell? ⟨b,o+4,none⟩=some (.int .i64 f.i)
 d5:w.cell? ⟨b,o+5,none⟩=some (.int .i64 f.j)
 d6:w.cell? ⟨b,o+6,none⟩=some (.slice Ay f.cyc.length cy)
 cyc:aN w K (.slice Ay f.cyc.length cy) f.cyc
theorem iG.at_{A:Option Addr}{n c:Nat}(h:iG w K (.slice A n c) l){i:Nat}(hi:i<l.length):∃b off Ay cy,A=some ⟨b,off,none⟩∧K b∧Pb w K b (off+i*7) l[i] Ay cy:=by
 obtain⟨b,off,cs,hA,hK,-,⟨Ay,cy,rfl,hy⟩,hc⟩:=SlR.at_ h hi;exact⟨b,off,Ay,cy,hA,hK,hc 0 _ rfl,hc 1 _ rfl,hc 2 _ rfl,hc 3 _ rfl,hc 4 _ rfl,hc 5 _ rfl,hc 6 _ rfl,hy⟩
end
def nK(w:World)(K:Nat→Prop)(cs:List Value)(n:Nod):Prop:=∃A c,cs=[.int .i64 n.c.key,.int .i64 n.c.a,.int .i64 n.c.b,.slice A n.cyc.length c]∧aN w K (.slice A n.cyc.length c) n.cyc
theorem nK.aZ:mG nK:=fun _ _ _ _ _ _ h ha hk=>by
 obtain⟨A,c,h1,h2⟩:=h;exact⟨A,c,h1,aN.keep h2 ha hk⟩
def eH(w:World)(K:Nat→Prop)(v:Value)(l:List Nod):Prop:=SlR 4 nK w K v l
section
variable{w w':World}{K K':Nat→Prop}{v:Value}{l:List Nod}
theorem eH.keep(h:eH w K v l)(ha:Agree K w w')(hk:∀b,K b→K' b):eH w' K' v l:=SlR.keep nK.aZ h ha hk
theorem eH.below(h:eH w (Old w) v l)(hb:Below w.heap.size w w'):eH w' (Old w') v l:=SlR.below nK.aZ h hb
theorem eH.fit(h:eH w K v l)(hk:∀b,K b→K' b):eH w K' v l:=SlR.fit nK.aZ h hk
theorem eH.nil(w:World)(K:Nat→Prop)(A:Option Addr)(c:Nat):eH w K (.slice A 0 c) []:=SlR.nil _ _ _ _ _ _
theorem eH.cap{A:Option Addr}{n c:Nat}(h:eH w K (.slice A n c) l):l.length≤c:=by
 obtain⟨_,_,e,h1⟩:=SlR.len h;simp only[Value.slice.injEq]at e;omega
structure Pf(w:World)(K:Nat→Prop)(b o:Nat)(n:Nod)(Ay:Option Addr)(cy:Nat):Prop where
 d0:w.cell? ⟨b,o,none⟩=some (.int .i64 n.c.key)
 d1:w.cell? ⟨b,o+1,none⟩=some (.int .i64 n.c.a)
 d2:w.cell? ⟨b,o+2,none⟩=some (.int .i64 n.c.b)
 d3:w.cell? ⟨b,o+3,none⟩=some (.slice Ay n.cyc.length cy)
 cyc:aN w K (.slice Ay n.cyc.length cy) n.cyc
theorem eH.at_{A:Option Addr}{n c:Nat}(h:eH w K (.slice A n c) l){i:Nat}(hi:i<l.length):∃b off Ay cy,A=some ⟨b,off,none⟩∧K b∧Pf w K b (off+i*4) l[i] Ay cy:=by
 obtain⟨b,off,cs,hA,hK,-,⟨Ay,cy,rfl,hy⟩,hc⟩:=SlR.at_ h hi;exact⟨b,off,Ay,cy,hA,hK,hc 0 _ rfl,hc 1 _ rfl,hc 2 _ rfl,hc 3 _ rfl,hy⟩
end
def NV(L:List Fct):Prop:=L.length≤1000000∧∀f∈L,f.cyc.length≤1000000
def Mq(l:List Nod):Prop:=l.length≤100000000∧∀n∈l,n.cyc.length≤1000000
def l8:Option (List Nat)→List Nod
 |none=>[]
 |some l=>[⟨⟨0,0,0⟩,eZ l⟩]
theorem Iq(o:Option (List Nat)):(l8 o).length=yY o:=by cases o<;>rfl
theorem kU.QA{w:World}{base:Nat}{v:Value}{o:Option (List Nat)}(h:kU w base v o):eH w (Old w) v (l8 o):=by
 cases o with
 |none=>
  have h:v= .slice none 0 0:=h;subst h;exact SlR.nil _ _ _ _ _ _
 |some l=>
  obtain⟨g,vc,h1,rfl,h3,h4⟩:=h;obtain⟨A,c,rfl⟩:=aV.form h4;have hl:(aB l).length=(eZ l).length:=(by simp[aB,eZ]);exact SlR.one h3 rfl ⟨A,c,by rw[hl],by rw[←hl];exact aV.sl h4 fun g _ hg=>hg⟩ h3.lt
theorem rJ(l:List (Cho×Option Nat)):(sP l).length=l.length:=List.length_map _
theorem mo.QB{w:World}{base:Nat}{v:Value}{l:List (Cho×Option Nat)}(h:mo w base v l):iG w (Old w) v (sP l):=by
 refine SlR.uS (ys:=l.map JC) h (by rw[rJ]) rfl (by rw[rJ,List.length_map]) (fun i cs x h1 h2=> ?_) (fun g hg=>(h.lt g hg).2);rw[List.getElem?_map]at h1;unfold sP at h2;rw[List.getElem?_map]at h2;cases hx:l[i]? with
 |none=>rw[hx]at h1;cases h1
 |some y=>
  rw[hx]at h1 h2;injection h1 with h1
  injection h2 with h2
  subst h1 h2;obtain⟨c,k⟩:=y;refine⟨rfl,none,0,?_,?_⟩
  ·cases k<;>rfl
  ·cases k<;>exact aN.nil _ _ _ _
theorem KX{l:List (Cho×Option Nat)}(h:l.length≤1000000):NV (sP l):=by
 refine⟨by rw[rJ];exact h,fun f hf=> ?_⟩;unfold sP at hf;obtain⟨x,_,rfl⟩:=List.mem_map.1 hf;obtain⟨c,k⟩:=x;cases k<;>exact Nat.zero_le _
def MkR(w:World)(K:Nat→Prop)(cs:List Value)(m:Mk):Prop:=∃A c,cs=[.int .i64 m.c.key,.int .i64 m.c.a,.int .i64 m.c.b,.bool m.right,.slice A m.done.length c]∧eH w K (.slice A m.done.length c) m.done
theorem MkR.aZ:mG MkR:=fun _ _ _ _ _ _ h ha hk=>by
 obtain⟨A,c,h1,h2⟩:=h;exact⟨A,c,h1,eH.keep h2 ha hk⟩
def MkS(w:World)(K:Nat→Prop)(v:Value)(l:List Mk):Prop:=SlR 5 MkR w K v l
section
variable{w w':World}{K K':Nat→Prop}{v:Value}{l:List Mk}
theorem MkS.keep(h:MkS w K v l)(ha:Agree K w w')(hk:∀b,K b→K' b):MkS w' K' v l:=SlR.keep MkR.aZ h ha hk
theorem MkS.below(h:MkS w (Old w) v l)(hb:Below w.heap.size w w'):MkS w' (Old w') v l:=SlR.below MkR.aZ h hb
theorem MkS.fit(h:MkS w K v l)(hk:∀b,K b→K' b):MkS w K' v l:=SlR.fit MkR.aZ h hk
theorem MkS.nil(w:World)(K:Nat→Prop)(A:Option Addr)(c:Nat):MkS w K (.slice A 0 c) []:=SlR.nil _ _ _ _ _ _
theorem MkS.take{A:Option Addr}{n c:Nat}(h:MkS w K (.slice A n c) l){k:Nat}(hk:k≤l.length):MkS w K (.slice A k c) (l.take k):=SlR.take h hk
theorem MkS.cap{A:Option Addr}{n c:Nat}(h:MkS w K (.slice A n c) l):l.length≤c:=by
 obtain⟨_,_,e,h1⟩:=SlR.len h;simp only[Value.slice.injEq]at e;omega
structure QC(w:World)(K:Nat→Prop)(b o:Nat)(m:Mk)(Ay:Option Addr)(cy:Nat):Prop where
 d0:w.cell? ⟨b,o,none⟩=some (.int .i64 m.c.key)
 d1:w.cell? ⟨b,o+1,none⟩=some (.int .i64 m.c.a)
 d2:w.cell? ⟨b,o+2,none⟩=some (.int .i64 m.c.b)
 d3:w.cell? ⟨b,o+3,none⟩=some (.bool m.right)
 d4:w.cell? ⟨b,o+4,none⟩=some (.slice Ay m.done.length cy)
 done:eH w K (.slice Ay m.done.length cy) m.done
theorem MkS.at_{A:Option Addr}{n c:Nat}(h:MkS w K (.slice A n c) l){i:Nat}(hi:i<l.length):∃b off Ay cy,A=some ⟨b,off,none⟩∧K b∧QC w K b (off+i*5) l[i] Ay cy:=by
 obtain⟨b,off,cs,hA,hK,-,⟨Ay,cy,rfl,hy⟩,hc⟩:=SlR.at_ h hi;exact⟨b,off,Ay,cy,hA,hK,hc 0 _ rfl,hc 1 _ rfl,hc 2 _ rfl,hc 3 _ rfl,hc 4 _ rfl,hy⟩
end
def uf(p:List Mk):Nat:=(p.map fun m=>1+m.done.length).sum
theorem KY{p:List Mk}:p.length≤uf p:=by
 unfold uf
 induction p with
 |nil=>simp
 |cons m p ih=>simp only[List.map_cons,List.sum_cons,List.length_cons];omega
theorem Ir{p:List Mk}{m:Mk}(h:m∈p):1+m.done.length≤uf p:=by
 unfold uf
 induction p with
 |nil=>simp at h
 |cons x p ih=>
  simp only[List.map_cons,List.sum_cons];rcases List.mem_cons.1 h with rfl|h
  ·omega
  ·have:=ih h;omega
theorem EC(p:List Mk)(i:Nat):uf (p.take i)≤uf p:=by
 conv=>rhs;rw[←List.take_append_drop i p]
 unfold uf;rw[List.map_append,List.sum_append];omega
def Iu(l:List Nod):Prop:=∀n∈l,n.cyc.length≤1000000
def Ah(p:List Mk):Prop:=uf p≤50000000∧∀m∈p,Iu m.done
theorem Ah.len{p:List Mk}(h:Ah p):p.length≤50000000:=Nat.le_trans KY h.1
theorem Ah.done{p:List Mk}(h:Ah p){m:Mk}(hm:m∈p):Mq m.done:=⟨by have:=Ir hm;have:=h.1;omega,h.2 m hm⟩
theorem Ah.at_{p:List Mk}(h:Ah p){i:Nat}(hi:i<p.length):Mq p[i].done:=h.done (List.getElem_mem hi)
theorem Ah.take{p:List Mk}(h:Ah p)(i:Nat):Ah (p.take i):=⟨Nat.le_trans (EC p i) h.1,fun m hm=>h.2 m (List.mem_of_mem_take hm)⟩
end Go.Proofs.YtfhnamomiaekdaaGreatDoor
namespace Go.Inq
open Go
section
variable{P:Program}{ops:Array Oper}{Q:Exit→Act→World→Prop}{a b a0:Act}
theorem Iw {Inv:(Nat→Bool)→(Nat→Value)→World→Prop} (hB:dM ops=true)
 (hstep:∀i o,ops[i]?=some o→∀(L:Nat→Bool) (vs:Nat→Value) w,L i=false→(∀j,aR .any ops ops.size i j=true→L j=true)→(∀k,aR .any ops ops.size k i=true→L k=false)→Inv L vs w→wpList P ops (fun e a' w'=>e= .normal∧∃v,a'=(acV ops a0 vs i).put o.dst v∧Inv (fun j=>L j||decide (j=i)) (dI vs i v) w') [o] (acV ops a0 vs i) w)
 (hend:∀(L:Nat→Bool) (vs:Nat→Value) w,(∀j,j<ops.size→L j=true)→Inv L vs w→Q .normal (acV ops a0 vs ops.size) w):
 ∀(fuel:Nat) (listed:Array Bool) (a:Act) (w:World) (vs:Nat→Value),Closed .any ops listed→listed.size=ops.size→lacks ops.size (fun j=>listed.getD j false)=fuel→Flo ops a0 vs (fun j=>listed.getD j false) a→
  Inv (fun j=>listed.getD j false) vs w→wpAny P .any ops Q fuel listed a w:=by
 have hnone:∀(listed:Array Bool),listed.size=ops.size→Region.ready .any ops listed=[]→∀i,i<ops.size→listed.getD i false=true:=by
  intro listed hsz hr i
  induction i using Nat.strongRecOn with
  |_ i ih=>
   intro hi;cases hl:listed.getD i false with
   |true=>rfl
   |false=>
    exfalso;have ho:ops[i]?=some ops[i]:=Array.getElem?_eq_getElem hi;have hm:i∈Region.ready .any ops listed:=by
     rw[mem_ready];refine⟨?_,ops[i],ho,fun e he hb=> ?_⟩
     ·have hi2:i<listed.size:=(by omega);simp only[Array.getD_eq_getD_getElem?,Array.getElem?_eq_getElem hi2,Option.getD_some]at hl⊢;exact hl
     ·have h1:=lJ hB ho e he hb;exact ih e.on h1 (by omega)
    rw[hr]at hm;cases hm
 have hfin:∀(listed:Array Bool) (a:Act) (w:World) (vs:Nat→Value),listed.size=ops.size→(∀i,i<ops.size→listed.getD i false=true)→Flo ops a0 vs (fun j=>listed.getD j false) a→Inv (fun j=>listed.getD j false) vs w→Q .normal a w:=by
  intro listed a w vs Qe hall hf hI;have hac:=qP (a0:=a0) hB vs ops.size;have:a=acV ops a0 vs ops.size:=by
   have h1:a.tmps=(acV ops a0 vs ops.size).tmps:=by
    refine Array.ext_getElem? fun t=> ?_;refine hf.agree hac fun j o hj _=> ?_;have hjs:=(Array.getElem?_eq_some_iff.1 hj).1;rw[hall j hjs];simp[hjs]
   have h2:a.defers=(acV ops a0 vs ops.size).defers:=(by rw[hf.defers,hac.defers]);cases a;cases hx:acV ops a0 vs ops.size;rw[hx]at h1 h2;simp only at h1 h2;rw[h1,h2]
  rw[this];exact hend _ vs w hall hI
 intro fuel
 induction fuel with
 |zero=>
  intro listed a w vs hcl hsz hlk hf hI;have hall:=nR _ _ hlk;refine⟨?_,hfin listed a w vs hsz hall hf hI⟩;rw[List.eq_nil_iff_forall_not_mem];intro i hi;obtain⟨h1,o,ho,_⟩:=mem_ready.1 hi;have his:=(Array.getElem?_eq_some_iff.1 ho).1;have h2:=hall i his;have hi2:i<listed.size:=(by omega);simp only[Array.getD_eq_getD_getElem?,Array.getElem?_eq_getElem hi2,Option.getD_some]at h1 h2;rw[h1]at h2;cases h2
 |succ fuel ih=>
  intro listed a w vs hcl hsz hlk hf hI;refine⟨fun hr=>hfin listed a w vs hsz (hnone listed hsz hr) hf hI,fun i hi=> ?_⟩;obtain⟨h1,o,ho,hall⟩:=mem_ready.1 hi;have his:=(Array.getElem?_eq_some_iff.1 ho).1;have hi2:i<listed.size:=(by omega);have hun:listed.getD i false=false:=by
   simp only[Array.getD_eq_getD_getElem?,Array.getElem?_eq_getElem hi2,Option.getD_some]at h1⊢;exact h1
  have hset:∀j,(listed.setIfInBounds i true).getD j false=(listed.getD j false||decide (j=i)):=fun j=>by
   by_cases hji:j=i
   ·subst hji;simp[Array.getD_eq_getD_getElem?,hi2]
   ·rw[getD_set_ne false (Ne.symm hji)];simp[hji]
  have hsel:=fun cs b=>Region.noSelect_spec (ops:=ops) (by unfold dM at hB;rw[Bool.and_eq_true]at hB;exact hB.1) i o cs b ho;have hac:=qP (a0:=a0) hB vs i;refine BQ (b:=acV ops a0 vs i) (R:=fun v w'=>Inv (fun j=>listed.getD j false||decide (j=i)) (dI vs i v) w') ho hsel (fun t ht=> ?_) (by rw[hf.size,hac.size]) (fun v w' hS'=> ?_) (hstep i o ho (fun j=>listed.getD j false) vs w hun (fun j hj=>hcl.ready hj hi) (fun k hk=>by
   cases hlk:listed.getD k false with
   |false=>rfl
   |true=>
    have:=hcl.waits _ _ _ hk hlk;rw[hun]at this;cases this) hI)
  ·refine hf.agree hac fun j oj hj hd=> ?_;rcases(jO hB ho hj hd).2 ht with⟨h2,h3⟩|⟨h2,h3⟩|h2
   ·rw[hcl.ready h3 hi];simp[h2]
   ·have h4:decide (j<i)=false:=(by simp;omega);rw[h4];cases hlj:listed.getD j false with
    |false=>rfl
    |true=>
     have:=hcl.waits _ _ _ h3 hlj;rw[hun]at this;cases this
   ·subst h2;rw[hun];simp
  ·have hf2:Flo ops a0 (dI vs i v) (fun j=>listed.getD j false) a:=hf.congr fun j hj=>by
    unfold dI;rw[if_neg];rintro rfl;rw[hun]at hj;cases hj
   have hput:=hf2.put hB ho hset;have hvi:dI vs i v i=v:=(by simp[dI]);rw[hvi]at hput;refine ih (listed.setIfInBounds i true) _ w' (dI vs i v) (hcl.aJ hi) (by rw[Array.size_setIfInBounds];exact hsz) ?_ hput ?_
   ·have:=nS (f:=fun j=>listed.getD j false) (g:=fun j=>(listed.setIfInBounds i true).getD j false) hun hset ops.size his;omega
   ·have:(fun j=>(listed.setIfInBounds i true).getD j false)=fun j=>listed.getD j false||decide (j=i):=funext hset;rw[this];exact hS'
theorem oJ {id:Nat} {w:World} {l:List Oper} (Inv:(Nat→Bool)→(Nat→Value)→World→Prop) (dp nd:Nat→List Nat) (hm:P.follows .mixedOrders=true) (hB:dM l.toArray=true)
 (hdp:((List.range l.length).all fun i=>(dp i).all fun j=>aR .any l.toArray l.length i j)=true) (hnd:((List.range l.length).all fun i=>(nd i).all fun k=>aR .any l.toArray l.length k i)=true)
 (h0:Inv (fun _=>false) (fun _=>undef) w.drew)
 (hstep:∀i o,l[i]?=some o→∀(L:Nat→Bool) (vs:Nat→Value) w,L i=false→(∀j∈dp i,L j=true)→(∀k∈nd i,L k=false)→Inv L vs w→wpList P l.toArray (pO (fun v w'=>Inv (fun j=>L j||decide (j=i)) (dI vs i v) w') (acV l.toArray a vs i) o.dst) [o] (acV l.toArray a vs i) w)
 (hend:∀(L:Nat→Bool) (vs:Nat→Value) w,(∀j,j<l.length→L j=true)→Inv L vs w→Q .normal (acV l.toArray a vs l.length) w):(Code.region id l.toArray true).wp P Q a w:=by
 have hsz:l.toArray.size=l.length:=(by simp);have hget:∀i:Nat,l.toArray[i]?=l[i]?:=fun i=>List.getElem?_toArray ..;refine wp_region_any hm ?_;refine Iw (Inv:=Inv) hB (fun i o ho L vs w h1 h2 h3 hI=> ?_) (fun L vs w h1 h2=>by rw[hsz];exact hend L vs w (by rw[←hsz];exact h1) h2) _ _ a _ (fun _=>undef) (Closed.start _ _ _) (by simp) ?_ (Flo.start fun j=>getD_replicate_false _ _) ?_
 ·have ho':l[i]?=some o:=(by rw[←hget];exact ho);have hil:i<l.length:=(List.getElem?_eq_some_iff.1 ho').1;refine hstep i o ho' L vs w h1 (fun j hj=>h2 j ?_) (fun k hk=>h3 k ?_) hI
  ·rw[hsz];exact List.all_eq_true.1 (List.all_eq_true.1 hdp i (List.mem_range.2 hil)) j hj
  ·rw[hsz];exact List.all_eq_true.1 (List.all_eq_true.1 hnd i (List.mem_range.2 hil)) k hk
 ·have:(fun j=>(Array.replicate l.toArray.size false).getD j false)=fun _=>false:=funext fun j=>getD_replicate_false _ _;rw[this,lK]
 ·have:(fun j=>(Array.replicate l.toArray.size false).getD j false)=fun _=>false:=funext fun j=>getD_replicate_false _ _;rw[this];exact h0
end
end Go.Inq
