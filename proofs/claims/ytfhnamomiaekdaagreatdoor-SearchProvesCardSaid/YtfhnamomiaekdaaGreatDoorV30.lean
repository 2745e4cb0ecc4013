/-
  Plain words of layer 21: an order's rows may be, and their choices are the order's; a serial order's rows show snapshots; no program in sight.
-/
import Derived.BigQuiet
import Derived.Test.YtfhnamomiaekdaaGreatDoorV29
import Derived.Test.YtfhnamomiaekdaaGreatDoorV01
import Derived.Test.YtfhnamomiaekdaaGreatDoorV05
import Derived.Test.YtfhnamomiaekdaaGreatDoorV02
import Derived.Test.YtfhnamomiaekdaaGreatDoorV09
import Derived.Test.YtfhnamomiaekdaaGreatDoorV07
import Derived.Test.YtfhnamomiaekdaaGreatDoorV03
set_option linter.unusedVariables false
set_option linter.unusedSimpArgs false
namespace Go.Proofs.YtfhnamomiaekdaaGreatDoor
open Go.RowKit Go.Inq
theorem idxOf_hit(a:Int)(t:List Int):(a::t).idxOf a=0:=by simp[List.idxOf_cons]
theorem iE{a x:Int}(h:a≠x)(t:List Int):(a::t).idxOf x=t.idxOf x+1:=by
 rw[List.idxOf_cons,show(a==x)=false by simpa using h];rfl
theorem sP{p:Int→Bool}{x y:Int}(hx:p x=true)(hy:p y=true):∀{l:List Int},x∈l→y∈l→((l.filter p).idxOf x<(l.filter p).idxOf y↔l.idxOf x<l.idxOf y)
 |[],h,_=>by cases h
 |a::t,h1,h2=>by
  by_cases hpa:p a=true
  ·rw[List.filter_cons_of_pos hpa];by_cases hax:a=x
   ·subst hax;by_cases hay:a=y
    ·subst hay;exact⟨fun h=>absurd h (Nat.lt_irrefl _),fun h=>absurd h (Nat.lt_irrefl _)⟩
    ·rw[idxOf_hit,idxOf_hit,iE hay,iE hay];exact⟨fun _=>by omega,fun _=>by omega⟩
   ·by_cases hay:a=y
    ·subst hay;rw[idxOf_hit,idxOf_hit];exact⟨fun h=>absurd h (Nat.not_lt_zero _),fun h=>absurd h (Nat.not_lt_zero _)⟩
    ·rw[List.mem_cons]at h1 h2;have g1:x∈t:=h1.resolve_left fun e=>hax e.symm;have g2:y∈t:=h2.resolve_left fun e=>hay e.symm;have:=sP hx hy g1 g2;rw[iE hax,iE hay,iE hax,iE hay];omega
  ·rw[List.filter_cons_of_neg hpa];have hax:a≠x:=fun e=>hpa (e▸hx);have hay:a≠y:=fun e=>hpa (e▸hy);rw[List.mem_cons]at h1 h2;have g1:x∈t:=h1.resolve_left fun e=>hax e.symm;have g2:y∈t:=h2.resolve_left fun e=>hay e.symm;have:=sP hx hy g1 g2;rw[iE hax,iE hay];omega
theorem uR{H:List Txn}{π:List Int}(hp:bg π H.length=true){k:Int}{n:Nat}:((n:Nat):Int)∈(zL H π k).l↔n∈bG H k:=by
 unfold zL;rw[List.mem_filter,bM,Int.toNat_natCast,List.contains_iff_mem];constructor
 ·rintro⟨h1,h2⟩;obtain⟨i,hi,e⟩:=List.getElem_of_mem h1;have:=jU hp hi;exact⟨by omega,h2⟩
 ·rintro⟨h1,h2⟩;exact⟨mQ hp h1,h2⟩
theorem Ct{H:List Txn}{π:List Int}(hp:bg π H.length=true)(k:Int):(zL H π k).l.Perm (jC (bG H k)):=by
 refine(List.perm_ext_iff_of_nodup ((zI hp).sublist List.filter_sublist) (sO (gY H k))).2 fun x=> ?_;constructor
 ·intro hx;have h1:=(List.mem_filter.1 hx).1;obtain⟨i,hi,e⟩:=List.getElem_of_mem h1;have:=jU hp hi;have hn:x=((x.toNat:Nat):Int):=(by omega);rw[hn]at hx;exact qg.2 ⟨_,(uR hp).1 hx,hn⟩
 ·intro hx;obtain⟨n,hn,rfl⟩:=qg.1 hx;exact(uR hp).2 hn
theorem Pg{H:List Txn}{π:List Int}(hr:ay H=true)(hp:bg π H.length=true):OkS H (gJ H π):=by
 unfold gJ;rw[if_pos ⟨hr,hp⟩];refine⟨hr,?_,fun r hm=> ?_⟩
 ·rw[List.map_map];exact(List.map_congr_left (g:=id) fun k _=>rfl).trans (List.map_id _)
 ·obtain⟨k,hk,rfl⟩:=List.mem_map.1 hm;exact Ct hp k
theorem xg{H:List Txn}{π:List Int}(hr:ay H=true)(hp:bg π H.length=true):fO H (gJ H π)=true:=(qL _ _).2 (Pg hr hp)
theorem L9{H:List Txn}{π:List Int}(hr:ay H=true)(hp:bg π H.length=true):uM H (gJ H π)=ofL H π:=by
 unfold uM;rw[if_pos (xg hr hp)];unfold gJ ofL bB;rw[if_pos ⟨hr,hp⟩,List.map_flatten,List.map_map,List.map_map];congr 1;refine List.map_congr_left fun k _=> ?_;show(dS k (bG H k)).map (ofC (zL H π k).l)=(dS k (bG H k)).map (ofC π);refine List.map_congr_left fun p hpm=> ?_;obtain⟨hpk,a,b,ha,hb,ham,hbm⟩:=jZ hpm;have h1:=(uR (k:=k) hp).2 ham;have h2:=(uR (k:=k) hp).2 hbm;have g1:=(List.mem_filter.1 h1).1;have g2:=(List.mem_filter.1 h2).1;have hf:=sP (p:=fun t=>(aI H t.toNat).writes.contains k) (List.mem_filter.1 h2).2 (List.mem_filter.1 h1).2 g2 g1;have hf:(zL H π k).l.idxOf (b:Int)<(zL H π k).l.idxOf (a:Int)↔π.idxOf (b:Int)<π.idxOf (a:Int):=hf;unfold ofC;rw[ha,hb,eU h1,eU h2,eU g1,eU g2];by_cases hlt:π.idxOf (b:Int)<π.idxOf (a:Int)
 ·rw[if_pos (by have:=hf.2 hlt;omega),if_pos (by omega)]
 ·rw[if_neg (by intro h;exact hlt (hf.1 (by omega))),if_neg (by omega)]
end Go.Proofs.YtfhnamomiaekdaaGreatDoor
namespace Go.Inq
end Go.Inq
namespace Go.Proofs.YtfhnamomiaekdaaGreatDoor
open Go.RowKit Go.Inq
def Ph(H:List Txn)(level:Int)(π:List Int):Bool:=if level=0 then zK H π else if level=1 then iZ H (gJ H π)else false
theorem QB{H:List Txn}{m:List Cho}{o:List Nat}(hr:ay H=true)(hm:Gz (bB H) m)(hg:tY H 1 m=true)(ht:kS H.length (bI H 1 m) o):iZ H (gJ H (jC o))=true:=by
 have hp:bg (jC o) H.length=true:=ht.perm;rw[FJ,xg hr hp,Bool.true_and,L9 hr hp,JF hp];refine BJ (Qz hm ht fun a b h=> ?_) hg;unfold bI orE;rw[h];simp
theorem kS.sub{n:Nat}{E E':aj}{o:List Nat}(h:kS n E o)(hs:∀x y,E' x y=true→E x y=true):kS n E' o:=⟨⟨h.t.nd,h.t.lt,fun y hy x hx e=>h.t.up y hy x hx (hs x y e)⟩,h.len,h.all⟩
theorem Pj{H:List Txn}{level:Int}{l:List Cho}{o:List Nat}(hr:ay H=true)(hl:level=0∨level=1)(hop:j6 H l=none)(ho:fH H.length (bI H level l)=some o):Ph H level (jC o)=true:=by
 have hsub:∀c∈((bB H).map fun p=>if p∈l then p else aQ p),c∈l:=fun c hc=>by
  obtain⟨p,hp,rfl⟩:=List.mem_map.1 hc;split
  ·assumption
  ·rename_i hno;exact(Gi hop hp).resolve_left hno
 have hm:Gz (bB H) ((bB H).map fun p=>if p∈l then p else aQ p):=Ew fun p _=>by
  split
  ·exact .inl rfl
  ·exact .inr rfl
 generalize((bB H).map fun p=>if p∈l then p else aQ p)=m at*;have ht:=(FE ho).sub (E':=bI H level m) fun x y h=>su hsub h;have hg:tY H level m=true:=BJ hsub (by rw[←Gy,ho];rfl);unfold Ph;rcases hl with rfl|rfl
 ·rw[if_pos rfl];exact O9 hr hm ht
 ·rw[if_neg (by decide),if_pos rfl];exact QB hr hm hg ht
theorem Pk{H:List Txn}{level:Int}{L:List Fct}{f:Fct}(hL:∀c∈av L,dn H c=true)(h:dU H level L f=true):dI H level (av L++[aQ f.c])≠[]:=by
 intro he;rw[Bz,PW (m:=av L++[aQ f.c]) (fun c hc=>⟨hL c hc,List.mem_append_left _ hc⟩) (by simp) h]at he;cases he
theorem Cu{H:List Txn}{level:Int}{l:List Cho}(hm:oq H level=true)(ho:∀c∈l,dn H c=true)(h:dI H level l≠[]):(Tr.leaf ⟨dw,dI H level l⟩).held H level l=true:=by
 obtain⟨h1,h2⟩:=fT.1 hm;show(decide (dw=dw)&&iI H level l (dI H level l))=true;rw[Gd h1 h2 ho h];simp
theorem FK{H:List Txn}{level:Int}{L:List Fct}{f:Fct}{tree:List Nod}:fI H level (L++[f]) tree=fI H level L (⟨f.c,[]⟩::(tree++[⟨dw,dI H level (av L++[aQ f.c])⟩])):=by
 unfold fI;have e:(List.range (L++[f]).length).map (fun k=>qY H level (L++[f]) ((L++[f]).length-1-k))=⟨dw,dI H level (av L++[aQ f.c])⟩::(List.range L.length).map fun k=>qY H level L (L.length-1-k):=by
  rw[List.length_append,List.length_singleton,List.range_succ_eq_map,List.map_cons,List.map_map];congr 1
  ·unfold qY;rw[show L.length+1-1-0=L.length by omega,List.take_left,List.getD_eq_getElem?_getD];simp
  ·refine List.map_congr_left fun k hk=> ?_;have hk:=List.mem_range.1 hk;show qY H level (L++[f]) (L.length+1-1-(k+1))=_;unfold qY;rw[show L.length+1-1-(k+1)=L.length-1-k by omega,List.take_append_of_le_length (by omega),List.getD_eq_getElem?_getD,List.getD_eq_getElem?_getD,List.getElem?_append_left (by omega)]
 rw[e,List.map_append];simp
theorem IL{H:List Txn}{level:Int}{L:List Fct}(hr:d9 H level L=true):∀{t:Tr},t.ok→t.held H level (av L)=true→lJ H level [] (fI H level L t.flat)=true:=by
 have hm:=dF hr;have key:∀n,n≤L.length→∀{t:Tr},t.ok→t.held H level (av (L.take n))=true→lJ H level [] (fI H level (L.take n) t.flat)=true:=by
  intro n
  induction n with
  |zero=>
   intro _ t ho h;rw[List.take_zero]at h⊢;rw[qG];exact⟨hm,t,by simp[fI],ho,h⟩
  |succ n ih=>
   intro hn t ho h;have hf:=yK hr (show n<L.length by omega);have ho1:=yL (Gg hr n);rw[List.take_succ_eq_append_getElem (by omega)]at h⊢;rw[FK];rw[yJ]at h;have hc:=Pk ho1 hf;have:=ih (by omega) (t:= .fork (L[n]'(by omega)).c t (.leaf ⟨dw,dI H level (av (L.take n)++[aQ (L[n]'(by omega)).c])⟩)) ⟨ho,hc⟩ (by
    show(t.held H level _&&Tr.held H level _ _&&dn H _)=true;rw[h,Cu hm (fun d hd=>by
     rw[List.mem_append,List.mem_singleton]at hd;rcases hd with hd|rfl
     ·exact ho1 d hd
     ·exact tF (Go.Inq.holds_one hf)) hc,Go.Inq.holds_one hf]
    rfl)
   exact this
 intro t ho h;have:=key L.length (Nat.le_refl _) (t:=t) ho;rw[List.take_length]at this;exact this h
structure TV(H:List Txn)(level:Int)(L:List Fct)(r:List Mk×Say):Prop where
 ok:RiP H level L r.1
 facts:r.2.facts=[]
 said:(r.2.said=0∧r.2.order=[]∧r.2.tree=[])∨(r.2.said=1∧r.2.tree=[]∧Ph H level (jC r.2.order)=true)∨(r.2.said=2∧r.2.order=[]∧r.1=[]∧lJ H level [] r.2.tree=true)
theorem JJ{H:List Txn}{level:Int}{L:List Fct}(hr:d9 H level L=true):∀(r:List Mk) (tree:List Nod),RiP H level L r.reverse→lJ H level (av L++aW r.reverse) tree=true→TV H level L (eD H level L r tree)
 |[],tree,h,ht=>by
  refine⟨h,rfl,.inr (.inr ⟨rfl,rfl,rfl,?_⟩)⟩;rw[qG]at ht;obtain⟨_,t,rfl,ho,hh⟩:=ht;rw[show av L++aW ([]:List Mk).reverse=av L by simp[aW]]at hh;exact IL hr ho hh
 |m::r,tree,h,ht=>by
  rw[List.reverse_cons]at h ht;rw[yX,←List.append_assoc]at ht;have hm:=h.marks;rw[yY,Bool.and_eq_true]at hm;have hlen:=h.len;rw[List.length_append,List.length_singleton]at hlen;have hR:RiP H level L r.reverse:=⟨by omega,hr,hm.1⟩;have hmk:=hm.2;unfold iA at hmk;simp only[Bool.and_eq_true]at hmk;obtain⟨⟨hk,hone⟩,hd⟩:=hmk;unfold eD;cases hmr:m.right with
  |true=>
   rw[if_pos rfl];rw[hmr,if_pos rfl]at hd;have hch:m.chosen=aQ m.c:=(by unfold Mk.chosen;rw[hmr];rfl);rw[hch]at ht;refine JJ hr r _ hR ?_;rw[qG]at hd ht⊢;obtain⟨h0,t1,e1,o1,q1⟩:=hd;obtain⟨_,t2,e2,o2,q2⟩:=ht;refine⟨h0,.fork m.c t1 t2,by rw[e1,e2];rfl,⟨o1,o2⟩,?_⟩;show(t1.held H level _&&t2.held H level _&&dn H m.c)=true;rw[q1,q2,hone];rfl
  |false=>
   rw[if_neg (by decide)];have hch:m.chosen=m.c:=(by unfold Mk.chosen;rw[hmr];rfl);rw[hch]at ht;refine⟨?_,rfl,.inl ⟨rfl,rfl,rfl⟩⟩;show RiP H level L (⟨m.c,true,tree⟩::r).reverse;rw[List.reverse_cons];refine hR.snoc (by omega) ?_;unfold iA;rw[hk,hone];exact ht
theorem DF{H:List Txn}{level:Int}{L:List Fct}{path:List Mk}(h:RiP H level L path)(hl:L.length+path.length+1<20000):TV H level L (dJ H level L path):=by
 have hr:=h.xQ;have hm:=dF hr;obtain⟨h1,h2⟩:=fT.1 hm;unfold dJ;rw[if_pos (eP.2 h)];dsimp only;split
 ·rename_i hne;refine JJ hr path.reverse _ (by rw[List.reverse_reverse];exact h) ?_;rw[List.reverse_reverse,qG];exact⟨hm,.leaf ⟨dw,dI H level (av L++aW path)⟩,rfl,hne,Cu hm h.one hne⟩
 ·rename_i hne;have hn:dI H level (av L++aW path)=[]:=Classical.byContradiction hne;split
  ·rename_i hop;refine⟨h,rfl,.inr (.inl ⟨rfl,rfl,?_⟩)⟩;have hc:=Bz.1 hn;have ho:=yI H.length (bI H level (av L++aW path));rw[hc]at ho;obtain⟨o,ho⟩:=Option.isSome_iff_exists.1 ho;dsimp only;rw[ho];exact Pj h1 h2 hop ho
  ·rename_i p hop;obtain⟨g1,g2,g3⟩:=Gj hop;refine⟨h.snoc hl ?_,rfl,.inl ⟨rfl,rfl,rfl⟩⟩;unfold iA;rw[GH g2 g3,JV g1];rfl
def gF(H:List Txn)(k:Nat):List Int:=((List.range k).filter fun(x:Nat)=>decide (bG H (x:Int)≠[])).map fun(x:Nat)=>(x:Int)
theorem xu{H:List Txn}{k:Nat}(h:bG H (k:Int)=[]):gF H (k+1)=gF H k:=by
 unfold gF;rw[List.range_succ,List.filter_append,List.map_append];simp[h]
theorem qh{H:List Txn}{k:Nat}(h:bG H (k:Int)≠[]):gF H (k+1)=gF H k++[(k:Int)]:=by
 unfold gF;rw[List.range_succ,List.filter_append,List.map_append];simp[h]
theorem IQ(H:List Txn)(k:Nat):(gF H k).length≤k:=by
 unfold gF;rw[List.length_map];exact Nat.le_trans (List.length_filter_le _ _) (by simp)
theorem nU{H:List Txn}(hr:ay H=true):gF H 16=cZ H:=by
 rw[yC fun t ht k hk=> ?_]
 ·rfl
 ·obtain⟨i,hi,rfl⟩:=List.getElem_of_mem ht;exact(((aB H).1 hr).2 i hi).MJ k hk
theorem IU{H:List Txn}{k m:Nat}(h:k≤m):gF H k<+:gF H m:=by
 obtain⟨d,rfl⟩:=Nat.le.dest h;unfold gF;rw[List.range_add,List.filter_append,List.map_append];exact List.prefix_append _ _
def rowOk(H:List Txn)(r:aT):Bool:=decide (qd r.l=jC (bG H r.key))
structure RtI(H:List Txn)(R:List aT)(k n:Nat):Prop where
 le:n≤R.length
 n16:n≤k
 keys:(R.take n).map (·.key)=gF H k
 ok:∀r∈R.take n,rowOk H r=true
theorem RtI.start(H:List Txn)(R:List aT):RtI H R 0 0:=⟨Nat.zero_le _,Nat.le_refl _,rfl,fun r h=>by simp at h⟩
theorem RtI.len{H:List Txn}{R:List aT}{k n:Nat}(h:RtI H R k n):(gF H k).length=n:=by rw[←h.keys,List.length_map,List.length_take];have:=h.le;omega
theorem RtI.skip{H:List Txn}{R:List aT}{k n:Nat}(h:RtI H R k n)(hw:bG H (k:Int)=[]):RtI H R (k+1) n:=⟨h.le,by have:=h.n16;omega,by rw[xu hw];exact h.keys,h.ok⟩
theorem RtI.next{H:List Txn}{R:List aT}{k n:Nat}(h:RtI H R k n)(hw:bG H (k:Int)≠[])(hn:n<R.length)(hk:R[n].key=(k:Int))(ho:qd R[n].l=aC (bG H (k:Int))):RtI H R (k+1) (n+1):=by
 refine⟨hn,by have:=h.n16;omega,?_,fun r hr=> ?_⟩
 ·rw[List.take_succ_eq_append_getElem hn,List.map_append,h.keys,qh hw,List.map_cons,hk];rfl
 ·rw[List.take_succ_eq_append_getElem hn,List.mem_append,List.mem_singleton]at hr;rcases hr with hr|rfl
  ·exact h.ok r hr
  ·unfold rowOk;rw[hk];exact decide_eq_true ho
theorem nV{H:List Txn}{R:List aT}(h:OkS H R→False):fO H R=false:=by
 rw[Bool.eq_false_iff];intro h2;exact h ((qL H R).1 h2)
theorem RtI.at_{H:List Txn}{R:List aT}{k n:Nat}(h:RtI H R k n)(hk:k<16)(hw:bG H (k:Int)≠[])(ho:OkS H R):∃hn:n<R.length,R[n].key=(k:Int):=by
 have hp:gF H k++[(k:Int)]<+:cZ H:=(by rw[←qh hw,←nU ho.right];exact IU (by omega));rw[←ho.keys]at hp;have hl:=hp.length_le;simp only[List.length_append,h.len,List.length_map,List.length_singleton]at hl;refine⟨by omega,?_⟩;have he:=hp.getElem (i:=n) (by simp[h.len]);rw[List.getElem_map,List.getElem_append_right (by rw[h.len];exact Nat.le_refl _)]at he;simp only[h.len,Nat.sub_self,List.getElem_cons_zero]at he;exact he.symm
theorem RtI.few{H:List Txn}{R:List aT}{k n:Nat}(h:RtI H R k n)(hk:k<16)(hw:bG H (k:Int)≠[])(hn:n=R.length):fO H R=false:=
 nV fun ho=>by obtain⟨h1,_⟩:=h.at_ hk hw ho;omega
theorem RtI.key{H:List Txn}{R:List aT}{k n:Nat}(h:RtI H R k n)(hk:k<16)(hw:bG H (k:Int)≠[])(hn:n<R.length)(he:R[n].key≠(k:Int)):fO H R=false:=
 nV fun ho=>by obtain⟨_,h1⟩:=h.at_ hk hw ho;exact he h1
theorem RtI.row{H:List Txn}{R:List aT}{k n:Nat}(h:RtI H R k n)(hk:k<16)(hw:bG H (k:Int)≠[])(hn:n<R.length)(he:qd R[n].l≠aC (bG H (k:Int))):fO H R=false:=
 nV fun ho=>by
  obtain⟨_,h1⟩:=h.at_ hk hw ho;have h2:=uN.2 (ho.perm R[n] (List.getElem_mem hn));rw[h1]at h2;exact he h2
theorem RtI.done{H:List Txn}{R:List aT}{n:Nat}(h:RtI H R 16 n)(hr:ay H=true):fO H R=decide (n=R.length):=by
 rw[Bool.eq_iff_iff,decide_eq_true_eq,qL];constructor
 ·intro ho;have h1:=h.len;rw[nU hr,←ho.keys,List.length_map]at h1;exact h1.symm
 ·intro hn;have hk:=h.keys;have ho:=h.ok;rw[hn,List.take_length]at hk ho;rw[nU hr]at hk;exact⟨hr,hk,fun r hm=>uN.1 (of_decide_eq_true (ho r hm))⟩
theorem Ma{H:List Txn}{R:List aT}(hr:ay H=false):fO H R=false:=nV fun ho=>by rw[ho.right]at hr;cases hr
end Go.Proofs.YtfhnamomiaekdaaGreatDoor
namespace Go.Proofs.YtfhnamomiaekdaaGreatDoor
open Go.RowKit Go.Inq
set_option maxHeartbeats 2000000
attribute [local go_sem↓] Go.wp_at_zero Go.wp_at_succ
set_option maxRecDepth 100000 in
theorem FM (f:Nat) (hf:∀args w,(callFunc f args).run Tryz.prog w= .ok (.enter f args) w) (lb:Array Value) (p:Int→Bool) (A:Option Addr) (c:Nat) (l:List (Int)) (w:World) (h:aP w (Old w) (.slice A l.length c) l) (hl:l.length≤1000000000)
 (hp:∀W,Below w.heap.size w W→∀x∈l,Calls Tryz.prog f (#[.int .i64 x]++lb) W fun e W'=>e= .returned (.bool (p x))∧Below W.heap.size W W'):
 Calls Tryz.prog 228 #[.slice A l.length c,.func (.func f) #[] lb] w fun e w'=>e= .returned (.int .i64 (ug p l))∧Below w.heap.size w w':=by
 have hhit:=hide (fun k=>jo (p:=p) (l:=l) (k:=k));have hnone:=hide (iD (p:=p) (l:=l));replace h:=hide h;replace hp:=hide hp;go_enter Tryz.func228,Tryz.ntmps228;go_wp2_with fail;go_loopw [8] (fun s8 wr=>∃k:Nat,k≤l.length∧s8= .int .i64 k∧Hid (∀j (hj:j<l.length),j<k→p l[j]=false)∧Below w.heap.size w wr) (fun s8 _=>l.length-(intOf s8).toNat);case atStart=>exact⟨0,Nat.zero_le _,by go_num,fun j hj h=>absurd h (by omega),Below.refl _ _⟩
 case round=>
  obtain⟨k,hk,rfl,hall,hb⟩:=hrel;have hk1:(0:Int)≤(k:Int):=Int.natCast_nonneg _;by_cases hlt:k<l.length
  ·have hi2:(k:Int)<(l.length:Int):=(by omega);obtain⟨b,off,rfl,_,d0⟩:=(h.out.below hb).at_ hlt;have hcall:=hide (hp.out _ hb _ (List.getElem_mem hlt));have hh:=hide (fun g=>hhit.out k hlt g hall.out);have hst:Hid (p l[k]=false→∀j (hj:j<l.length),j<k+1→p l[j]=false):=fun g j hj hjk=>by
    by_cases e:j=k
    ·subst e;exact g
    ·exact hall.out j hj (by omega)
   clear hall;generalize l[k]=x at*;go_wp2_with fail;refine hcall.out.mono ?_;rintro e W2 ⟨rfl,hb2⟩;have hb3:=hb.trans (hb2.mono hb.size);cases hpx:p x with
   |true=>
    have hr:=hide (hh.out hpx);clear hpx hh hst hcall;go_wp2;go_ret;exact⟨dA hr.out.symm,hb3⟩
   |false=>
    have hr:=hide (hst.out hpx);clear hpx hh hst hcall;go_wp2;go_roundw;case rel=>exact⟨k+1,by omega,by go_num,hr,hb3⟩
    case measure=>simp[intOf];omega
  ·have hr:=hide (hnone.out fun j hj=>hall.out j hj (by omega));go_wp2;go_ret;exact⟨dA hr.out.symm,hb⟩
theorem zO (f:Nat) (hf:∀args w,(callFunc f args).run Tryz.prog w= .ok (.enter f args) w) (lb:Array Value) (p:Int→Bool) (A:Option Addr) (c:Nat) (l:List (Int)) (w:World) (h:aP w (Old w) (.slice A l.length c) l) (hl:l.length≤1000000000)
 (hp:∀W,Below w.heap.size w W→∀x∈l,Calls Tryz.prog f (#[.int .i64 x]++lb) W fun e W'=>e= .returned (.bool (p x))∧Below W.heap.size W W'):
 Calls Tryz.prog 176 #[.slice A l.length c,.func (.func f) #[] lb] w fun e w'=>e= .returned (.bool (l.any p))∧Below w.heap.size w w':=by
 have hd:=hide (jq p l);have hcall:=hide (FM f hf lb p A c l w h hl hp);clear hp hf h;go_enter Tryz.func176,Tryz.ntmps176;go_wp2_with fail;refine hcall.out.mono ?_;rintro e w1 ⟨rfl,hb⟩;clear hcall;go_wp2;go_ret;exact⟨by rw[←hd.out];rfl,hb⟩
set_option maxHeartbeats 4000000
structure mU(W:World)(Bm:Nat)(A:Option Addr)(c n:Nat)(R:List aT):Prop where
 hd:W.cell? ⟨Bm,0,none⟩=some (.slice A n c)
 pl:∀k t:Nat,k<16→t<32→W.cell? ⟨Bm,1+k*32+t,none⟩=some (.int .i64 (dx R (k:Int) (t:Int)))
theorem mU.lt{W:World}{Bm:Nat}{A:Option Addr}{c n:Nat}{R:List aT}(h:mU W Bm A c n R):Bm<W.heap.size:=block_lt_of_cell h.hd
theorem mU.below{W W':World}{Bm B:Nat}{A:Option Addr}{c n:Nat}{R:List aT}(h:mU W Bm A c n R)(hb:Below B W W')(hB:Bm<B):mU W' Bm A c n R:=
 ⟨(hb.cell (p:=⟨Bm,0,none⟩) hB).trans h.hd,fun k t h1 h2=>(hb.cell (p:=⟨Bm,1+k*32+t,none⟩) hB).trans (h.pl k t h1 h2)⟩
theorem xA(Bm:Nat)(A:Option Addr)(c n:Nat)(R:List aT)(k b:Nat)(a:Int)(w:World)(hm:mU w Bm A c n R)(hk:k<16)(hb:b<32)(ha:a<32):
 Calls Tryz.prog 220 #[.pointer (some ⟨Bm,0,none⟩),.int .i64 k,.int .i64 a,.int .i64 b] w fun e w'=>e= .returned (.bool (eG R k a b))∧w'=w:=by
 have hdef:eG R (k:Int) a (b:Int)=(decide (0<dx R k b)&&(decide (a<0)||(decide (0<dx R k a)&&decide (dx R k a<dx R k b)))):=rfl;rw[hdef];clear hdef;have cb:=hm.pl k b hk hb;have hk0:(0:Int)≤(k:Int):=Int.natCast_nonneg _;have hk1:(k:Int)<16:=(by omega);have hb0:(0:Int)≤(b:Int):=Int.natCast_nonneg _;have hb1:(b:Int)<32:=(by omega);generalize dx R (k:Int) (b:Int)=pb at*;by_cases q1:0<pb
 ·have q1b:decide (pb>0)=true:=decide_eq_true q1;rw[show decide (0<pb)=true from q1b];by_cases q2:a<0
  ·have q2b:decide (a<0)=true:=decide_eq_true q2;rw[q2b];clear q1 q2;go_enter Tryz.func220,Tryz.ntmps220;go_wp2;go_ret;exact⟨rfl,rfl⟩
  ·have q2b:decide (a<0)=false:=decide_eq_false q2;rw[q2b];obtain⟨x,rfl⟩:∃x:Nat,a=x:=⟨a.toNat,by omega⟩;have ca:=hm.pl k x hk (by omega);have hx0:(0:Int)≤(x:Int):=Int.natCast_nonneg _;have hx1:x<32:=(by omega);generalize dx R (k:Int) (x:Int)=pa at*;by_cases q3:0<pa
   ·have q3b:decide (pa>0)=true:=decide_eq_true q3;rw[show decide (0<pa)=true from q3b];obtain⟨q,hq⟩:∃q,decide (pa<pb)=q:=⟨_,rfl⟩;rw[hq];clear q1 q3;go_enter Tryz.func220,Tryz.ntmps220;go_wp2;go_ret;exact⟨by simp[hq],rfl⟩
   ·have q3b:decide (pa>0)=false:=decide_eq_false q3;rw[show decide (0<pa)=false from q3b];clear q1 q3;go_enter Tryz.func220,Tryz.ntmps220;go_wp2;go_ret;exact⟨rfl,rfl⟩
 ·have q1b:decide (pb>0)=false:=decide_eq_false q1;rw[show decide (0<pb)=false from q1b];clear q1;go_enter Tryz.func220,Tryz.ntmps220;go_wp2;go_ret;exact⟨rfl,rfl⟩
theorem FN(ra rb:Int)(x:Nat)(Bx:Nat)(w:World)(hx:w.cell? ⟨Bx,0,none⟩=some (.int .i64 x)):
 Calls Tryz.prog 218 #[.agg #[.int .i64 ra,.int .i64 rb],.pointer (some ⟨Bx,0,none⟩)] w fun e w'=>e= .returned (.bool (decide (rb=(x:Int))))∧Below w.heap.size w w':=by
 have hB:=(Below.refl w.heap.size w).alloc (Nat.le_refl _) (.cells #[.int .i64 ra,.int .i64 rb] 106);have hxl:=block_lt_of_cell hx;have hx2:=(hB.cell (p:=⟨Bx,0,none⟩) hxl).trans hx;have hq:(rb==(x:Int))=decide (rb=(x:Int)):=by
  by_cases e:rb=(x:Int)
  ·rw[e];simp
  ·rw[decide_eq_false e,beq_eq_false_iff_ne];exact e
 generalize decide (rb=(x:Int))=q at*;go_enter Tryz.func218,Tryz.ntmps218;go_wp2;go_ret;exact⟨by first|rfl|exact aV hq,hB⟩
theorem FP(k x y Bb Bx By Bm:Nat)(A:Option Addr)(c n:Nat)(R:List aT)(w:World)(hm:mU w Bm A c n R)(hk:k<16)(hx:x<32)(hy:y<32)(cb:w.cell? ⟨Bb,0,none⟩=some (.pointer (some ⟨Bm,0,none⟩)))(cx:w.cell? ⟨Bx,0,none⟩=some (.int .i64 x))(cy:w.cell? ⟨By,0,none⟩=some (.int .i64 y)):
 Calls Tryz.prog 219 #[.int .i64 k,.pointer (some ⟨Bb,0,none⟩),.pointer (some ⟨Bx,0,none⟩),.pointer (some ⟨By,0,none⟩)] w fun e w'=>e= .returned (.bool (eG R k x y))∧Below w.heap.size w w':=by
 have hca:=hide (fun W (hb:Below w.heap.size w W)=>xA Bm A c n R k y (x:Int) W (hm.below hb hm.lt) hk hy (by omega));clear hm;go_enter Tryz.func219,Tryz.ntmps219;go_wp2_with fail;refine(hca.out _ (Below.refl _ _)).mono ?_;rintro e w1 ⟨rfl,rfl⟩;go_wp2;go_ret;exact⟨rfl,Below.refl _ _⟩
theorem Mc(ra:Nat)(rb:Int)(y Bb By Bm:Nat)(A:Option Addr)(c n:Nat)(R:List aT)(w:World)(hm:mU w Bm A c n R)(hk:ra<16)(hx:rb<32)(hy:y<32)(cb:w.cell? ⟨Bb,0,none⟩=some (.pointer (some ⟨Bm,0,none⟩)))(cy:w.cell? ⟨By,0,none⟩=some (.int .i64 y)):
 Calls Tryz.prog 221 #[.agg #[.int .i64 ra,.int .i64 rb],.pointer (some ⟨Bb,0,none⟩),.pointer (some ⟨By,0,none⟩)] w fun e w'=>e= .returned (.bool (eG R ra rb y))∧Below w.heap.size w w':=by
 have hca:=hide (fun W (hb:Below w.heap.size w W)=>xA Bm A c n R ra y rb W (hm.below hb hm.lt) hk hy hx);have hB:=(Below.refl w.heap.size w).alloc (Nat.le_refl _) (.cells #[.int .i64 ra,.int .i64 rb] 106);have cb2:=(hB.cell (p:=⟨Bb,0,none⟩) (block_lt_of_cell cb)).trans cb;have cy2:=(hB.cell (p:=⟨By,0,none⟩) (block_lt_of_cell cy)).trans cy;clear hm cb cy;go_enter Tryz.func221,Tryz.ntmps221;go_wp2_with fail;refine(hca.out _ hB).mono ?_;rintro e w1 ⟨rfl,rfl⟩;go_wp2;go_ret;exact⟨rfl,hB⟩
set_option maxRecDepth 100000 in
theorem DI(x y Bm:Nat)(A:Option Addr)(c:Nat)(H:List Txn)(R:List aT)(w:World)(h:aD w (Old w) (.slice A H.length c) H)(hn:aH H)(ho:OkS H R)(hm:mU w Bm A c H.length R)(hx:x<H.length)(hy:y<H.length):
 Calls Tryz.prog 161 #[.pointer (some ⟨Bm,0,none⟩),.int .i64 x,.int .i64 y] w fun e w'=>e= .returned (.bool (Ba H R x y))∧Below w.heap.size w w':=by
 have hr:=(aB H).1 ho.right;have h32:=hr.1;obtain⟨W3,hW3⟩:∃W3,((w.alloc (.cells #[.pointer (some ⟨Bm,0,none⟩)] 160)).alloc (.cells #[.int .i64 x] 3)).alloc (.cells #[.int .i64 y] 3)=W3:=⟨_,rfl⟩;have hB:Below w.heap.size w W3:=(by rw[←hW3];exact(((Below.refl _ w).alloc (Nat.le_refl _) _).alloc (by simp) _).alloc (by simp;omega) _);have kb:Blk W3 w.heap.size 160 #[.pointer (some ⟨Bm,0,none⟩)]:=(by rw[←hW3];exact((Blk.new _ _ _).alloc _).alloc _);have kx:Blk W3 (w.heap.size+1) 3 #[.int .i64 x]:=by
  rw[←hW3];have:=Blk.new (w.alloc (.cells #[.pointer (some ⟨Bm,0,none⟩)] 160)) 3 #[.int .i64 x];simp only[World.size_alloc]at this;exact this.alloc _
 have ky:Blk W3 (w.heap.size+2) 3 #[.int .i64 y]:=by
  rw[←hW3];have:=Blk.new ((w.alloc (.cells #[.pointer (some ⟨Bm,0,none⟩)] 160)).alloc (.cells #[.int .i64 x] 3)) 3 #[.int .i64 y];simpa using this
 have cb:=Blk.n0 kb;have cx:=Blk.n0 kx;have cy:=Blk.n0 ky;have hm3:=hm.below hB hm.lt;have ch:=hm3.hd;have hT3:=h.below hB;obtain⟨b,off,Ax,cx1,Arx,crx,hA,_,d0,d1,d2,hws,hrs⟩:=aD.at_ hT3 hx;subst hA;obtain⟨b',off',Ay,cy1,Ary,cry,hA,_,e0,e1,e2,Kw,FQ⟩:=aD.at_ hT3 hy;injection hA with hA
 injection hA with hA1 hA2
 subst hA1 hA2;have hdef:Ba H R x y=(soE H x y||rQ H x y||(aI H x).writes.any fun k=>eG R k (x:Int) (y:Int)):=rfl;have hso:soE H x y=(decide (x<y)&&decide ((aI H x).dM=(aI H y).dM)):=rfl;have hre:rQ H x y=(aI H y).reads.any fun r=>decide (r.b=(x:Int)):=rfl;rw[hso,hre]at hdef;clear hso hre;have hkey:=hide ((hr.2 x hx).MJ);have hwl:=(hn.2 _ (List.getElem_mem hx)).1;have hrl:=(hn.2 _ (List.getElem_mem hy)).2;rw[aJ hx,aJ hy]at hdef;have hx0:(0:Int)≤(x:Int):=Int.natCast_nonneg _;have hy0:(0:Int)≤(y:Int):=Int.natCast_nonneg _;have hx1:(x:Int)<(H.length:Int):=(by omega);have hy1:(y:Int)<(H.length:Int):=(by omega);clear Kw hrs hr;generalize H[x]=tx at*;generalize H[y]=ty at*;obtain⟨sx,wx,rx⟩:=tx;obtain⟨sy,wy,ry⟩:=ty;dsimp only at*;generalize Ba H R x y=D at*;have hnx:Hid (H.length=H.length):=hide rfl;replace hn:=hide hn;replace ho:=hide ho;replace h:=hide h;replace hT3:=hide hT3;replace hm:=hide hm;have hF:Hid (∀W,Below W3.heap.size W3 W→W.cell? ⟨w.heap.size,0,none⟩=some (.pointer (some ⟨Bm,0,none⟩))∧W.cell? ⟨w.heap.size+1,0,none⟩=some (.int .i64 x)∧W.cell? ⟨w.heap.size+2,0,none⟩=some (.int .i64 y)∧W.cell? ⟨Bm,0,none⟩=some (.slice (some ⟨b,off,none⟩) H.length c)):=hide fun W hb=>
  ⟨(hb.cell (p:=⟨w.heap.size,0,none⟩) kb.lt).trans cb,(hb.cell (p:=⟨w.heap.size+1,0,none⟩) kx.lt).trans cx,(hb.cell (p:=⟨w.heap.size+2,0,none⟩) ky.lt).trans cy,(hb.cell (p:=⟨Bm,0,none⟩) (block_lt_of_cell ch)).trans ch⟩
 have hE2:=hide (fun W (hb:Below W3.heap.size W3 W)=>(hb.cell (p:=⟨b,off+y*3+2,none⟩) (block_lt_of_cell e2)).trans e2);have hD1:=hide (fun W (hb:Below W3.heap.size W3 W)=>(hb.cell (p:=⟨b,off+x*3+1,none⟩) (block_lt_of_cell d1)).trans d1);obtain⟨q1,hq1⟩:∃q1,decide (x<y)=q1:=⟨_,rfl⟩;obtain⟨ss,hss⟩:∃ss,(decide (x<y)&&decide (sx=sy))=ss:=⟨_,rfl⟩;rw[hss]at hdef;have IV:(q1&&(sx==sy))=ss:=(by rw[←hq1,←hss];rfl);obtain⟨q2,hq2⟩:∃q2,(sx==sy)=q2:=⟨_,rfl⟩;rw[hq2]at IV;replace hss:=hide hss;replace hdef:=hide hdef;go_enter Tryz.func161,Tryz.ntmps161;go_upto_region 1 with fail;go_cut [31] (fun s31 wz=>s31= .bool ss∧Below W3.heap.size W3 wz);case first=>
  cases q1 with
  |true=>
   have Sk:q2=ss:=IV;subst Sk;clear IV hss hdef hF hE2 hD1 hkey hws FQ;go_wp2_with fail;go_quiet (fail);go_wp2
   go_meet
   exact⟨rfl,⟨rfl,rfl,rfl,Nat.le_refl _,fun _ _=>rfl⟩⟩
  |false=>
   have Sk:false=ss:=IV;subst Sk;clear IV hss hdef hF hE2 hD1 hkey hws FQ;go_wp2_with fail;go_quiet (fail);go_wp2
   go_meet
   exact⟨rfl,⟨rfl,rfl,rfl,Nat.le_refl _,fun _ _=>rfl⟩⟩
 case rest=>
  obtain⟨rfl,hbz⟩:=hcut;cases ss with
  |true=>
   have hD:D=true:=(by rw[hdef.out];rfl);subst hD;clear IV hss hdef hF hE2 hD1 hkey hws FQ;go_wp2;go_ret;exact⟨rfl,hB.trans (hbz.mono hB.size)⟩
  |false=>
   have hD:Hid (D=((ry.any fun r=>decide (r.b=(x:Int)))||wx.any fun k=>eG R k (x:Int) (y:Int))):=hide (by rw[hdef.out];rfl);have hT:Hid (∀W,Below W3.heap.size W3 W→Calls Tryz.prog 217 #[.slice Ary ry.length cry,.func (.func 218) #[] #[.pointer (some ⟨w.heap.size+1,0,none⟩)]] W fun e w'=>e= .returned (.bool (ry.any fun r=>decide (r.b=(x:Int))))∧Below W.heap.size W w'):=hide fun W hb=>
    iN 218 (enters_of Tryz.func218 (by kernel_rfl) rfl) #[.pointer (some ⟨w.heap.size+1,0,none⟩)] (fun r=>decide (r.b=(x:Int))) Ary cry ry W (FQ.below hb) (by omega) fun W' hb' r _=>FN r.a r.b x (w.heap.size+1) W' ((hb'.cell (p:=⟨w.heap.size+1,0,none⟩) (block_lt_of_cell (hF.out W hb).2.1)).trans (hF.out W hb).2.1)
   have hI:Hid (∀W,Below W3.heap.size W3 W→Calls Tryz.prog 176 #[.slice Ax wx.length cx1,.func (.func 219) #[] #[.pointer (some ⟨w.heap.size,0,none⟩),.pointer (some ⟨w.heap.size+1,0,none⟩),.pointer (some ⟨w.heap.size+2,0,none⟩)]] W fun e w'=>e= .returned (.bool (wx.any fun k=>eG R k (x:Int) (y:Int)))∧Below W.heap.size W w'):=hide fun W hb=>
    zO 219 (enters_of Tryz.func219 (by kernel_rfl) rfl) #[.pointer (some ⟨w.heap.size,0,none⟩),.pointer (some ⟨w.heap.size+1,0,none⟩),.pointer (some ⟨w.heap.size+2,0,none⟩)] (fun k=>eG R k (x:Int) (y:Int)) Ax cx1 wx W (hws.below hb) (by omega) fun W' hb' k hk=>by
     obtain⟨k0,k1⟩:=hkey.out k hk;obtain⟨kn,rfl⟩:∃kn:Nat,k=kn:=⟨k.toNat,by omega⟩;have hf:=hF.out W hb;exact FP kn x y w.heap.size (w.heap.size+1) (w.heap.size+2) Bm _ c H.length R W' ((hm3.below hb hm3.lt).below hb' (hm3.below hb hm3.lt).lt) (by omega) (by omega) (by omega) ((hb'.cell (p:=⟨w.heap.size,0,none⟩) (block_lt_of_cell hf.1)).trans hf.1) ((hb'.cell (p:=⟨w.heap.size+1,0,none⟩) (block_lt_of_cell hf.2.1)).trans hf.2.1) ((hb'.cell (p:=⟨w.heap.size+2,0,none⟩) (block_lt_of_cell hf.2.2.1)).trans hf.2.2.1)
   obtain⟨z1,hz1⟩:∃z1,(ry.any fun r=>decide (r.b=(x:Int)))=z1:=⟨_,rfl⟩;obtain⟨z2,hz2⟩:∃z2,(wx.any fun k=>eG R k (x:Int) (y:Int))=z2:=⟨_,rfl⟩;rw[hz1]at hD hT;rw[hz2]at hD hI;clear IV hss hdef hkey hws FQ hz1 hz2 hW3 kb kx ky cb cx cy hm3 ch d0 d1 d2 e0 e1 e2;go_upto_region 3 with fail;refine bD (fun W=>Below W3.heap.size W3 W) (by kernel_rfl) (by kernel_rfl) (hbz.trans ⟨rfl,rfl,rfl,Nat.le_refl _,fun _ _=>rfl⟩) ?_;refine⟨.pointer (some ⟨Bm,0,none⟩),fun W hW=>(by have v0:=(hF.out W hW).1;go_wp2),?_⟩;refine⟨.pointer (some ⟨Bm,0,none⟩),fun W hW=>(by go_wp2),?_⟩;refine⟨.pointer (some ⟨Bm,0,none⟩),fun W hW=>(by go_wp2),?_⟩;refine⟨.pointer (some ⟨Bm,0,none⟩),fun W hW=>(by go_wp2),?_⟩;refine⟨.slice (some ⟨b,off,none⟩) H.length c,fun W hW=>(by have v0:=(hF.out W hW).2.2.2;go_wp2),?_⟩;refine⟨.int .i64 y,fun W hW=>(by have v0:=(hF.out W hW).2.2.1;go_wp2),?_⟩;refine⟨.pointer (some ⟨b,off+y*3,none⟩),fun W hW=>(by go_wp2),?_⟩;refine⟨.pointer (some ⟨b,off+y*3+2,none⟩),fun W hW=>(by go_wp2),?_⟩;refine⟨.slice Ary ry.length cry,fun W hW=>(by have v0:=hE2.out W hW;go_wp2),?_⟩;refine⟨.func (.func 218) #[] #[.pointer (some ⟨w.heap.size+1,0,none⟩)],fun W hW=>(by go_wp2),?_⟩;refine⟨.bool z1,fun W hW=>(by
    go_wp2_with fail;refine(hT.out W hW).mono ?_;rintro e w' ⟨rfl,hb'⟩;have hS:=hW.trans (hb'.mono hW.size);go_wp2),?_⟩
   refine⟨.bool z1,fun W hW=>(by go_wp2),?_⟩;intro W5 hW5;simp only[Act.put,sA,sZ,sS];cases z1 with
   |true=>
    have hD2:D=true:=(by rw[hD.out];rfl);subst hD2;clear hF hE2 hD1 hD hT hI hbz;go_wp2;go_quiet (fail);go_wp2;go_ret;exact⟨rfl,(hB.trans (hW5.mono hB.size)).trans ⟨rfl,rfl,rfl,Nat.le_refl _,fun _ _=>rfl⟩⟩
   |false=>
    have hD2:D=z2:=(by rw[hD.out];rfl);subst hD2;clear hD hT hE2 hbz;go_upto_region 4 with fail;refine bD (fun W=>Below W3.heap.size W3 W) (by kernel_rfl) (by kernel_rfl) (hW5.trans ⟨rfl,rfl,rfl,Nat.le_refl _,fun _ _=>rfl⟩) ?_;refine⟨.bool false,fun W hW=>(by go_wp2),?_⟩;refine⟨.bool false,fun W hW=>(by go_wp2),?_⟩;refine⟨.pointer (some ⟨Bm,0,none⟩),fun W hW=>(by have v0:=(hF.out W hW).1;go_wp2),?_⟩;refine⟨.pointer (some ⟨Bm,0,none⟩),fun W hW=>(by go_wp2),?_⟩;refine⟨.pointer (some ⟨Bm,0,none⟩),fun W hW=>(by go_wp2),?_⟩;refine⟨.pointer (some ⟨Bm,0,none⟩),fun W hW=>(by go_wp2),?_⟩;refine⟨.slice (some ⟨b,off,none⟩) H.length c,fun W hW=>(by have v0:=(hF.out W hW).2.2.2;go_wp2),?_⟩;refine⟨.int .i64 x,fun W hW=>(by have v0:=(hF.out W hW).2.1;go_wp2),?_⟩;refine⟨.pointer (some ⟨b,off+x*3,none⟩),fun W hW=>(by go_wp2),?_⟩;refine⟨.pointer (some ⟨b,off+x*3+1,none⟩),fun W hW=>(by go_wp2),?_⟩;refine⟨.slice Ax wx.length cx1,fun W hW=>(by have v0:=hD1.out W hW;go_wp2),?_⟩;refine⟨.func (.func 219) #[] #[.pointer (some ⟨w.heap.size,0,none⟩),.pointer (some ⟨w.heap.size+1,0,none⟩),.pointer (some ⟨w.heap.size+2,0,none⟩)],fun W hW=>(by go_wp2),?_⟩;refine⟨.bool D,fun W hW=>(by
     go_wp2_with fail;refine(hI.out W hW).mono ?_;rintro e w' ⟨rfl,hb'⟩;have hS:=hW.trans (hb'.mono hW.size);go_wp2),?_⟩
    refine⟨.bool D,fun W hW=>(by go_wp2),?_⟩;refine⟨.bool D,fun W hW=>(by go_wp2),?_⟩;intro W6 hW6;simp only[Act.put,sA,sZ,sS];go_wp2;go_ret;exact⟨rfl,hB.trans (hW6.mono hB.size)⟩
set_option maxRecDepth 100000 in
theorem IW(x y Bm:Nat)(A:Option Addr)(c:Nat)(H:List Txn)(R:List aT)(w:World)(h:aD w (Old w) (.slice A H.length c) H)(hn:aH H)(ho:OkS H R)(hm:mU w Bm A c H.length R)(hx:x<H.length)(hy:y<H.length):
 Calls Tryz.prog 162 #[.pointer (some ⟨Bm,0,none⟩),.int .i64 x,.int .i64 y] w fun e w'=>e= .returned (.bool (jH H R x y))∧Below w.heap.size w w':=by
 have hr:=(aB H).1 ho.right;have h32:=hr.1;obtain⟨W3,hW3⟩:∃W3,(w.alloc (.cells #[.pointer (some ⟨Bm,0,none⟩)] 160)).alloc (.cells #[.int .i64 y] 3)=W3:=⟨_,rfl⟩;have hB:Below w.heap.size w W3:=(by rw[←hW3];exact((Below.refl _ w).alloc (Nat.le_refl _) _).alloc (by simp) _);have kb:Blk W3 w.heap.size 160 #[.pointer (some ⟨Bm,0,none⟩)]:=(by rw[←hW3];exact(Blk.new _ _ _).alloc _);have ky:Blk W3 (w.heap.size+1) 3 #[.int .i64 y]:=by
  rw[←hW3];have:=Blk.new (w.alloc (.cells #[.pointer (some ⟨Bm,0,none⟩)] 160)) 3 #[.int .i64 y];simpa using this
 have cb:=Blk.n0 kb;have cy:=Blk.n0 ky;have hm3:=hm.below hB hm.lt;have ch:=hm3.hd;obtain⟨b,off,Ax,cx1,Arx,crx,rfl,_,d0,d1,d2,hws,hrs⟩:=aD.at_ (h.below hB) hx;have hdef:jH H R x y=(decide (x≠y)&&(aI H x).reads.any fun r=>eG R r.a r.b (y:Int)):=rfl;have hkey:=hide (fun r (hr':r∈H[x].reads)=>(⟨((hr.2 x hx).Rf r hr').1,((hr.2 x hx).Rf r hr').2,(by
  rcases(gQ H x r).1 ((hr.2 x hx).there r hr')with e|⟨k,hk,e,-,-⟩<;>omega:r.b<32)⟩:0≤r.a∧r.a<16∧r.b<32))
 have hrl:=(hn.2 _ (List.getElem_mem hx)).2;rw[aJ hx]at hdef;have hx0:(0:Int)≤(x:Int):=Int.natCast_nonneg _;have hx1:(x:Int)<(H.length:Int):=(by omega);clear hws hr;generalize H[x]=tx at*;obtain⟨sx,wx,rx⟩:=tx;dsimp only at*;generalize jH H R x y=D at*;replace hn:=hide hn;replace ho:=hide ho;replace h:=hide h;replace hm:=hide hm;have hT:Hid (Calls Tryz.prog 217 #[.slice Arx rx.length crx,.func (.func 221) #[] #[.pointer (some ⟨w.heap.size,0,none⟩),.pointer (some ⟨w.heap.size+1,0,none⟩)]] W3 fun e w'=>e= .returned (.bool (rx.any fun r=>eG R r.a r.b (y:Int)))∧Below W3.heap.size W3 w'):=hide (
  iN 221 (enters_of Tryz.func221 (by kernel_rfl) rfl) #[.pointer (some ⟨w.heap.size,0,none⟩),.pointer (some ⟨w.heap.size+1,0,none⟩)] (fun r=>eG R r.a r.b (y:Int)) Arx crx rx W3 hrs (by omega) fun W' hb' r hr'=>by
   obtain⟨k0,k1,k2⟩:=hkey.out r hr';obtain⟨ra,rb⟩:=r;dsimp only at*;obtain⟨kn,rfl⟩:∃kn:Nat,ra=kn:=⟨ra.toNat,by omega⟩;exact Mc kn rb y w.heap.size (w.heap.size+1) Bm _ c H.length R W' (hm3.below hb' hm3.lt) (by omega) k2 (by omega) ((hb'.cell (p:=⟨w.heap.size,0,none⟩) (block_lt_of_cell cb)).trans cb) ((hb'.cell (p:=⟨w.heap.size+1,0,none⟩) (block_lt_of_cell cy)).trans cy))
 by_cases hxy:x=y
 ·have q1:((x:Int) !=(y:Int))=false:=(by rw[hxy];exact bne_self_eq_false _);have hD:D=false:=(by rw[hdef,decide_eq_false (fun h=>h hxy)];rfl);subst hD;clear hxy hdef hkey hT hrs;go_enter Tryz.func162,Tryz.ntmps162;go_wp2;go_ret;exact⟨rfl,hB⟩
 ·have q1:((x:Int) !=(y:Int))=true:=bne_iff_ne.2 (by omega);have hD:D=rx.any fun r=>eG R r.a r.b (y:Int):=(by rw[hdef,decide_eq_true hxy];rfl);rw[←hD]at hT;clear hxy hdef hkey hrs hD;go_enter Tryz.func162,Tryz.ntmps162;go_wp2_with fail;refine hT.out.mono ?_;rintro e w4 ⟨rfl,hb4⟩;go_wp2;go_ret;exact⟨rfl,hB.trans (hb4.mono hB.size)⟩
def fu(H:List Txn)(R:List aT)(x k:Nat):List Nat:=((List.range k).map (uO H R x)).flatten
theorem xB(H:List Txn)(R:List aT)(x k:Nat):fu H R x (k+1)=fu H R x k++uO H R x k:=by
 unfold fu;rw[List.range_succ,List.map_append,List.flatten_append];simp
theorem sQ(H:List Txn)(R:List aT)(x:Nat):∀k,(fu H R x k).length≤k*(H.length+1)
 |0=>by simp[fu]
 |k+1=>by
  rw[xB,List.length_append];have h1:=sQ H R x k;have h2:(uO H R x k).length≤H.length+1:=by
   unfold uO;split
   ·rw[List.length_cons];have:=List.length_filter_le (jH H R k) (List.range H.length);rw[List.length_range]at this;omega
   ·simp
  rw[Nat.add_mul];omega
theorem IX(H:List Txn)(R:List aT)(y j:Nat):(List.range (j+1)).filter (jH H R y)=(List.range j).filter (jH H R y)++(if jH H R y j then[j]else[]):=by
 rw[List.range_succ,List.filter_append];congr 1;cases h:jH H R y j<;>simp[h]
set_option maxRecDepth 100000 in
theorem IY(x Bm:Nat)(A:Option Addr)(c:Nat)(H:List Txn)(R:List aT)(w:World)(h:aD w (Old w) (.slice A H.length c) H)(hn:aH H)(ho:OkS H R)(hm:mU w Bm A c H.length R)(hx:x<H.length):
 Calls Tryz.prog 95 #[.pointer (some ⟨Bm,0,none⟩),.int .i64 x] w (xM w (aC (uP H R x))):=by
 obtain⟨ii,hii,hi1,hi2,hi3⟩:=info_parts gL;have h32:H.length≤32:=((aB H).1 ho.right).1;have ch:=hm.hd;have Vp:=hide (fun W (hb:Below w.heap.size w W) y (hy:y<H.length)=>DI x y Bm A c H R W (h.below hb) hn ho (hm.below hb hm.lt) hx hy);have Vq:=hide (fun W (hb:Below w.heap.size w W) y z (hy:y<H.length) (hz:z<H.length)=>IW y z Bm A c H R W (h.below hb) hn ho (hm.below hb hm.lt) hy hz);have hlen:=hide (fun k (hk:k≤H.length)=>(by
  have h1:=sQ H R x k;have h2:=Nat.mul_le_mul hk (show H.length+1≤33 by omega);omega:(fu H R x k).length≤32*33))
 have hall:Hid (uP H R x=fu H R x H.length):=hide rfl;have h0:Hid (fu H R x 0=[]):=hide rfl;have hml:=hm.lt;replace hn:=hide hn;replace ho:=hide ho;replace h:=hide h;replace hm:=hide hm;go_enter Tryz.func95,Tryz.ntmps95;go_wp2_with fail;go_loopw [5,14] (fun s5 s14 wr=>∃k:Nat,k≤H.length∧s14= .int .i64 k∧aY wr w.heap.size s5 (aC (fu H R x k))∧Below w.heap.size w wr) (fun _ s14 _=>H.length-(intOf s14).toNat);case atStart=>exact⟨0,Nat.zero_le _,by go_num,by rw[h0.out];exact aY.nil _ _,Below.refl _ _⟩
 case round=>
  obtain⟨k,hk,rfl,hown,hb⟩:=hrel;have GL:(0:Int)≤(k:Int):=Int.natCast_nonneg _;by_cases hlt:k<H.length
  ·have GN:(k:Int)<(H.length:Int):=(by omega);have hst:=hide (xB H R x k);have hny:Hid (uO H R x k=if Ba H R x k then k::(List.range H.length).filter (jH H R k)else[]):=hide rfl;have hcd:=hide (Vp.out wr hb k hlt);generalize Ba H R x k=d at*;have hcnt:=hlen.out k hk;obtain⟨Av,cv,rfl⟩:=hown.form;go_wp2_with fail;refine hcd.out.mono ?_;rintro e w1 ⟨rfl,hb1⟩;have hb2:=hb.trans (hb1.mono hb.size);have hown2:aY w1 w.heap.size _ (aC (fu H R x k)):=own_below hown hb1 (Nat.le_refl _);clear hcd hown hb1;have hsz1:=hb2.size;cases d with
   |false=>
    have hs2:Hid (fu H R x (k+1)=fu H R x k):=hide (by rw[hst.out,hny.out];simp);clear hst hny;go_wp2;go_roundw;case rel=>exact⟨k+1,by omega,by go_num,by rw[hs2.out];exact hown2,hb2⟩
    case measure=>simp[intOf];omega
   |true=>
    have hs2:Hid (fu H R x (k+1)=fu H R x k++k::(List.range H.length).filter (jH H R k)):=hide (by rw[hst.out,hny.out];simp);have hlq:=hide (aK (fu H R x k));have hsn:=hide (fK (fu H R x k) k);clear hst hny;replace hown2:=hide hown2;have ch1:=(hb2.cell (p:=⟨Bm,0,none⟩) hml).trans ch;obtain⟨N,hN⟩:∃N,fu H R x k=N:=⟨_,rfl⟩;rw[hN]at hs2 hlq hsn hown2 hcnt;rw[hN];replace hN:=hide hN;go_wp2_with (at_builtin;go_loud (refine bF (enc:=Go.Inq.encI) rfl (.tmp 22) (.tmp 24) 33 rfl w.heap.size 3 ii _ 1 8 Tryz.underlying33 hii hi1 hi2 hi3 rfl (by decide) (.slice Av (aC N).length cv) (aC N) rfl hown2.out (fun _=>rfl) (k:Int) _ rfl rfl Go.Inq.gH (by rw[hlq.out];simp[maxLen];omega) (by rw[hlq.out];omega) hsz1 w w.heap.size (Nat.le_refl _) hb2 ?_);intro v1 w6 hown1 hg1 hb3 nI;have ch6:=(hb3.cell (p:=⟨Bm,0,none⟩) hml).trans ch);have hj0:Hid (aC (N++[k]++(List.range 0).filter (jH H R k))=aC N++[(k:Int)]):=hide (by simp[hsn.out]);clear ch1 ch6 hown2 hb2 hg1 nI;go_loopw [5,32] (fun s5 s32 wq=>∃j:Nat,j≤H.length∧s32= .int .i64 j∧aY wq w.heap.size s5 (aC (N++[k]++(List.range j).filter (jH H R k)))∧Below w.heap.size w wq) (fun _ s32 _=>H.length-(intOf s32).toNat);case atStart=>exact⟨0,Nat.zero_le _,by go_num,by unfold aY;rw[hj0.out];exact hown1,hb3⟩
    case round=>
     clear hown1 hb3;obtain⟨j,hj,rfl,hown,hb⟩:=hrel;have hj1:(0:Int)≤(j:Int):=Int.natCast_nonneg _;by_cases hjl:j<H.length
     ·have hj2:(j:Int)<(H.length:Int):=(by omega);have hst:=hide (IX H R k j);have hco:=hide (Vq.out wr hb k j hlt hjl);generalize jH H R k j=d at*;have hfl:((List.range j).filter (jH H R k)).length≤32:=Nat.le_trans (List.length_filter_le _ _) (by simp;omega);have Vr:(aC (N++[k]++(List.range j).filter (jH H R k))).length≤2000:=(by rw[aK,List.length_append,List.length_append];simp;omega);have hfull:=hide (fun e:j=H.length=>e);obtain⟨M,hM⟩:∃M,aC (N++[k]++(List.range j).filter (jH H R k))=M:=⟨_,rfl⟩;rw[hM]at hown Vr;replace hM:=hide hM;obtain⟨Av2,cv2,rfl⟩:=hown.form;go_wp2_with fail;refine hco.out.mono ?_;rintro e w7 ⟨rfl,hb7⟩;have hb8:=hb.trans (hb7.mono hb.size);have JK:aY w7 w.heap.size _ M:=own_below hown hb7 (Nat.le_refl _);have hs8:=hb8.size;clear hco hown hb7 hfl;cases d with
      |false=>
       have hs3:Hid ((List.range (j+1)).filter (jH H R k)=(List.range j).filter (jH H R k)):=hide (by rw[hst.out];simp);clear hst;go_wp2;go_roundw;case rel=>exact⟨j+1,by omega,by go_num,by rw[hs3.out,hM.out];exact JK,hb8⟩
       case measure=>simp[intOf];omega
      |true=>
       have hs3:Hid (aC (N++[k]++(List.range (j+1)).filter (jH H R k))=aC (N++[k]++(List.range j).filter (jH H R k))++[(j:Int)]):=hide (by rw[hst.out,if_pos rfl,←List.append_assoc,fK]);clear hst;replace JK:=hide JK;go_wp2_with (at_builtin;go_loud (refine bF (enc:=Go.Inq.encI) rfl (.tmp 39) (.tmp 41) 33 rfl w.heap.size 3 ii _ 1 8 Tryz.underlying33 hii hi1 hi2 hi3 rfl (by decide) (.slice Av2 M.length cv2) M rfl JK.out (fun _=>rfl) (j:Int) _ rfl rfl Go.Inq.gH (by simp[maxLen];omega) (by omega) hs8 w w.heap.size (Nat.le_refl _) hb8 ?_);intro v9 w9 FR hg9 hb9 WA);go_roundw;case rel=>exact⟨j+1,by omega,by go_num,by unfold aY;rw[hs3.out,hM.out];exact FR,hb9⟩
       case measure=>simp[intOf];omega
     ·obtain rfl:j=H.length:=(by omega);have hs3:Hid (fu H R x (k+1)=N++[k]++(List.range H.length).filter (jH H R k)):=hide (by rw[hs2.out];simp);rw[←hs3.out]at hown;go_wp2;go_roundw;case rel=>exact⟨k+1,by omega,by go_num,hown,hb⟩
      case measure=>simp[intOf];omega
  ·obtain rfl:k=H.length:=(by omega);go_wp2;go_ret;exact⟨_,rfl,by rw[hall.out];exact hown,hb⟩
end Go.Proofs.YtfhnamomiaekdaaGreatDoor
namespace Go.Proofs.YtfhnamomiaekdaaGreatDoor
open Go.RowKit Go.Inq
set_option maxHeartbeats 4000000
def rE(v:Value):Array Value:=#[v]++Array.replicate 512 (.int .i64 0)
theorem zP(v:Value):(rE v).size=513:=by simp[rE]
theorem FT(v:Value):(rE v)[0]?=some v:=by simp[rE]
theorem Pm(v:Value){i:Nat}(h:i<512):(rE v)[1+i]?=some (.int .i64 0):=by
 unfold rE;rw[Array.getElem?_append_right (by simp)];simp[h]
theorem Md:Go.Proofs.Tryz.zeroCells164=rE (.slice none 0 0):=by kernel_rfl
theorem Pn(v:Value):Go.Proofs.Tryz.zeroCells164.setIfInBounds 0 v=rE v:=by
 rw[Md];refine Array.ext_getElem? fun i=> ?_;rw[Array.getElem?_setIfInBounds];by_cases e:0=i
 ·subst e;rw[if_pos rfl,if_pos (by rw[zP];decide),FT]
 ·rw[if_neg e];unfold rE;rw[Array.getElem?_append_right (by simp;omega),Array.getElem?_append_right (by simp;omega)];simp
def jI(P:Int→Int→Int)(key:Int)(l:List Int):Nat→Int→Int→Int
 |0=>P
 |i+1=>fun κ t=>if κ=key∧t=l.getD i 0 then(i:Int)+1 else jI P key l i κ t
def gP(R:List aT):Nat→Int→Int→Int
 |0=>fun _ _=>0
 |k+1=>jI (gP R k) (R.getD k ⟨0,[]⟩).key (R.getD k ⟨0,[]⟩).l (R.getD k ⟨0,[]⟩).l.length
theorem zQ{R:List aT}{k:Nat}(h:k<R.length):gP R (k+1)=jI (gP R k) R[k].key R[k].l R[k].l.length:=by
 have:R.getD k ⟨0,[]⟩=R[k]:=(by rw[List.getD_eq_getElem?_getD,List.getElem?_eq_getElem h,Option.getD_some]);show jI (gP R k) (R.getD k ⟨0,[]⟩).key (R.getD k ⟨0,[]⟩).l (R.getD k ⟨0,[]⟩).l.length=_;rw[this]
theorem Cv(P:Int→Int→Int)(key:Int){l:List Int}{i:Nat}(h:i<l.length):jI P key l (i+1)=fun κ t=>if κ=key∧t=l[i]then(i:Int)+1 else jI P key l i κ t:=by
 have:l.getD i 0=l[i]:=(by rw[List.getD_eq_getElem?_getD,List.getElem?_eq_getElem h,Option.getD_some]);show(fun κ t=>if κ=key∧t=l.getD i 0 then(i:Int)+1 else jI P key l i κ t)=_;rw[this]
theorem xC(P:Int→Int→Int)(key:Int){l:List Int}(hd:l.Nodup):∀i,i≤l.length→∀κ t,jI P key l i κ t=if κ=key∧t∈l.take i then(l.idxOf t:Int)+1 else P κ t
 |0,_,κ,t=>by simp[jI]
 |i+1,hi,κ,t=>by
  rw[Cv P key (show i<l.length by omega)];show(if κ=key∧t=l[i]then(i:Int)+1 else jI P key l i κ t)=_;rw[xC P key hd i (by omega) κ t,List.take_succ_eq_append_getElem (show i<l.length by omega)];by_cases hk:κ=key
  ·subst hk;by_cases ht:t=l[i]
   ·subst ht;rw[if_pos ⟨rfl,rfl⟩,if_pos ⟨rfl,List.mem_append.2 (.inr (List.mem_singleton.2 rfl))⟩,List.Nodup.idxOf_getElem hd]
   ·rw[if_neg (fun h=>ht h.2)];by_cases hm:t∈l.take i
    ·rw[if_pos ⟨rfl,hm⟩,if_pos ⟨rfl,List.mem_append.2 (.inl hm)⟩]
    ·rw[if_neg (fun h=>hm h.2),if_neg (fun h=>by
      have h2:=h.2;rw[List.mem_append,List.mem_singleton]at h2;exact h2.elim hm ht)]
  ·rw[if_neg (fun h=>hk h.1),if_neg (fun h=>hk h.1),if_neg (fun h=>hk h.1)]
theorem uS{H:List Txn}{R:List aT}(h:OkS H R)(κ t:Int):∀k,k≤R.length→
 (∀j (hj:j<R.length),j<k→R[j].key=κ→gP R k κ t=if R[j].l.contains t then(R[j].l.idxOf t:Int)+1 else 0)∧((∀j (hj:j<R.length),j<k→R[j].key≠κ)→gP R k κ t=0)
 |0,_=>⟨fun j hj hlt=>absurd hlt (by omega),fun _=>rfl⟩
 |k+1,hk=>by
  obtain⟨h1,h2⟩:=uS h κ t k (by omega);have hkl:k<R.length:=(by omega);have hnd:=h.nodup (List.getElem_mem hkl);rw[zQ hkl,xC _ _ hnd _ (Nat.le_refl _),List.take_length];refine⟨fun j hj hlt he=> ?_,fun hno=> ?_⟩
  ·by_cases hjk:j=k
   ·subst hjk;by_cases hm:t∈R[j].l
    ·rw[if_pos ⟨he.symm,hm⟩,if_pos (List.contains_iff_mem.2 hm)]
    ·rw[if_neg (fun g=>hm g.2),if_neg (fun g=>hm (List.contains_iff_mem.1 g))];refine h2 fun i hi hij e=> ?_;have:=h.one (List.getElem_mem hi) (List.getElem_mem hj) (by rw[e,he]);have hp:=mW H;rw[←h.keys,List.pairwise_map,List.pairwise_iff_getElem]at hp;have:=hp i j hi hj hij;omega
   ·have hne:¬(κ=R[k].key∧t∈R[k].l):=fun g=>by
     have hp:=mW H;rw[←h.keys,List.pairwise_map,List.pairwise_iff_getElem]at hp;have:=hp j k hj hkl (by omega);omega
    rw[if_neg hne];exact h1 j hj (by omega) he
  ·rw[if_neg (fun g=>hno k hkl (by omega) g.1.symm)];exact h2 fun j hj hlt=>hno j hj (by omega)
theorem FU{H:List Txn}{R:List aT}(h:OkS H R)(κ t:Int):gP R R.length κ t=dx R κ t:=by
 obtain⟨h1,h2⟩:=uS h κ t R.length (Nat.le_refl _);unfold dx;cases hf:R.find? fun r=>decide (r.key=κ)with
 |none=>
  refine h2 fun j hj _ e=> ?_;have:=List.find?_eq_none.1 hf R[j] (List.getElem_mem hj);rw[decide_eq_true_eq]at this;exact this e
 |some r=>
  have g1:=List.find?_some hf;rw[decide_eq_true_eq]at g1;obtain⟨j,hj,rfl⟩:=List.getElem_of_mem (List.mem_of_find?_eq_some hf);exact h1 j hj hj g1
end Go.Proofs.YtfhnamomiaekdaaGreatDoor
