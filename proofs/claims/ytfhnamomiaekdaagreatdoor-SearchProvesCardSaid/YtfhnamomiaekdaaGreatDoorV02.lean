/-
  Plain words of layers 18, 19: an edge told by what it is is one of the graph of all that follows; a cycle told so is one; no program in sight.
-/
import Derived.Test.YtfhnamomiaekdaaGreatDoorProg
import Derived.Laws.BitsAllLaws
import Derived.Laws.Shifts
import Derived.Lib.TrailingZeros
import Derived.Laws.Bits64b
import Derived.OrdersHeld
import Derived.StillTail
import Derived.Conc.Events
import Derived.Laws.AppendOwn
import Derived.Laws.Panics
import Derived.KernelRfl
import Derived.Test.YtfhnamomiaekdaaGreatDoorV01
set_option linter.unusedVariables false
set_option linter.unusedSimpArgs false
namespace Go.Inq
section
variable{H:List Txn}{l:List Cho}{x y:Nat}
theorem D8(hr:ay H=true)(hx:x<H.length){r:It}(h:r∈(aI H x).reads):r.b= -1∨∃k:Nat,r.b=(k:Int)∧k<H.length∧k≠x∧r.a∈(aI H k).writes:=by
 rw[aJ hx]at h;have h1:=(((aB H).1 hr).2 x hx).there r h;rw[gQ]at h1;rcases h1 with h1|⟨k,hk,h1,h2,h3⟩
 ·exact .inl h1
 ·exact .inr ⟨k,h1,hk,h2,by rw[aJ hk];exact h3⟩
theorem PL(hr:ay H=true)(hy:y<H.length):rQ H x y=wrE H x y:=by
 unfold rQ wrE;by_cases e:x=y
 ·subst e;have:((aI H x).reads.any fun r=>decide (r.b=(x:Int)))=false:=by
   rw[List.any_eq_false];intro r hm;rcases D8 hr hy hm with g|⟨k,g1,_,g2,_⟩
   ·simp;omega
   ·simp;omega
  rw[this];simp
 ·simp[e]
theorem MS(ho:∀c∈l,dn H c=true):qU H l x y=wwE l x y:=by
 unfold qU wwE;rw[Bool.eq_iff_iff,List.any_eq_true,List.any_eq_true];constructor
 ·rintro⟨c,hc,h⟩;unfold tJ at h;simp only[Bool.and_eq_true]at h;exact⟨c,hc,by rw[h.1.1.1.1,h.1.1.1.2];rfl⟩
 ·rintro⟨c,hc,h⟩;rw[Bool.and_eq_true,decide_eq_true_eq,decide_eq_true_eq]at h;obtain⟨a,b,ha,hb,hne,_,_,h1,h2⟩:=jh.1 (ho c hc);obtain rfl:a=x:=(by omega);obtain rfl:b=y:=(by omega);refine⟨c,hc,?_⟩;unfold tJ;rw[decide_eq_true ha,decide_eq_true hb,decide_eq_true hne,List.contains_iff_mem.2 h1,List.contains_iff_mem.2 h2];rfl
theorem mq(hr:ay H=true)(ho:∀c∈l,dn H c=true)(hy:y<H.length):MP H l x y=orE (bE H) (wwE l) x y:=by
 unfold MP orE bE orE;rw[PL hr hy,MS ho]
theorem rU(hr:ay H=true)(ho:∀c∈l,dn H c=true)(hx:x<H.length):nX H l x y=rwE H l x y:=by
 unfold nX rwE l9;by_cases e:x=y
 ·subst e;have:(l.any fun c=>decide (c.b=(x:Int))&&decide (x≠x)&&(aI H x).reads.any fun r=>decide (r.a=c.key)&&decide (r.b=c.a))=false:=by
   rw[List.any_eq_false];intro c _;simp
  rw[this];simp
 ·rw[decide_eq_true e,Bool.true_and,Bool.true_and,Bool.eq_iff_iff,Bool.or_eq_true,List.any_eq_true,List.any_eq_true,List.any_eq_true];constructor
  ·rintro⟨r,hm,h⟩;unfold qW at h;rw[Bool.and_eq_true,Bool.or_eq_true]at h;obtain⟨h1,h2⟩:=h;rcases h2 with h2|h2
   ·left;have h2:=of_decide_eq_true h2;rcases D8 hr hx hm with g|⟨k,g,_⟩
    ·exact⟨r,hm,by rw[decide_eq_true g,h1];rfl⟩
    ·omega
   ·right;rw[Bool.and_eq_true,List.any_eq_true]at h2;obtain⟨_,c,hc,h3⟩:=h2;have h3:=of_decide_eq_true h3;refine⟨c,hc,?_⟩;rw[h3];have:((aI H x).reads.any fun r'=>decide (r'.a=r.a)&&decide (r'.b=r.b))=true:=List.any_eq_true.2 ⟨r,hm,by simp⟩;simp[this]
  ·rintro(⟨r,hm,h⟩|⟨c,hc,h⟩)
   ·rw[Bool.and_eq_true,decide_eq_true_eq]at h;refine⟨r,hm,?_⟩;unfold qW;rw[h.2,decide_eq_true (show r.b<0 by omega)];rfl
   ·simp only[Bool.and_eq_true,decide_eq_true_eq,List.any_eq_true]at h;obtain⟨⟨h1,-⟩,r,hm,h2,h3⟩:=h;obtain⟨a,b,ha,hb,hne,_,_,g1,g2⟩:=jh.1 (ho c hc);obtain rfl:b=y:=(by omega);refine⟨r,hm,?_⟩;unfold qW;rw[Bool.and_eq_true,Bool.or_eq_true];refine⟨by rw[h2,List.contains_iff_mem];exact g2,.inr ?_⟩;rw[Bool.and_eq_true,List.any_eq_true];refine⟨decide_eq_true (by omega),c,hc,decide_eq_true ?_⟩;obtain⟨ck,ca,cb⟩:=c;dsimp only at*;rw[h2,h3,hb]
theorem D9{level:Int}(hr:ay H=true)(hl:level=0∨level=1)(ho:∀c∈l,dn H c=true)(hx:x<H.length)(hy:y<H.length):isB H level l x y=bI H level l x y:=by
 have hf:bI H level l x y=(orE (bE H) (wwE l) x y||(if level=1 then iT H.length (orE (bE H) (wwE l)) (rwE H l)else rwE H l) x y):=rfl;rw[hf];unfold isB;rcases hl with rfl|rfl
 ·rw[if_pos rfl,if_neg (by decide),lC hr hx hy,uX hr hx hy,mq hr ho hy,rU hr ho hx]
 ·rw[if_neg (by decide),if_pos rfl,if_pos rfl];unfold iT;rw[Bool.eq_iff_iff,List.any_eq_true,Bool.or_eq_true,List.any_eq_true];constructor
  ·rintro⟨m,hm,h⟩;have hm':=List.mem_range.1 hm;rw[lC hr hx hm',uX hr hm' hy,mq hr ho hm',rU hr ho hm',Bool.and_eq_true,Bool.or_eq_true]at h;rcases h.2 with h2|h2
   ·left;have:=of_decide_eq_true h2;obtain rfl:m=y:=(by omega);exact h.1
   ·exact .inr ⟨m,hm,by rw[h.1,h2];rfl⟩
  ·rintro(h|⟨m,hm,h⟩)
   ·exact⟨y,List.mem_range.2 hy,by rw[lC hr hx hy,mq hr ho hy,h];simp⟩
   ·have hm':=List.mem_range.1 hm;rw[Bool.and_eq_true]at h;exact⟨m,hm,by rw[lC hr hx hm',uX hr hm' hy,mq hr ho hm',rU hr ho hm',h.1,h.2];simp⟩
theorem PN{level a b:Int}(h:isB H level l a b=true):∃x y:Nat,a=x∧b=y∧x<H.length∧y<H.length:=by
 have hd:∀{l:List Cho} {a b:Int},bA H l a b=true→∃x y:Nat,a=x∧b=y∧x<H.length∧y<H.length:=fun h=>by
  unfold bA at h;rw[Bool.and_eq_true,iJ]at h;exact h.1.2
 have ha:∀{l:List Cho} {a b:Int},iH H l a b=true→∃x y:Nat,a=x∧b=y∧x<H.length∧y<H.length:=fun h=>by
  unfold iH at h;rw[Bool.and_eq_true,iJ]at h;exact h.1.2
 unfold isB at h;split at h
 ·rw[Bool.or_eq_true]at h;exact h.elim hd ha
 ·split at h
  ·rw[List.any_eq_true]at h;obtain⟨m,hm,h⟩:=h;rw[Bool.and_eq_true,Bool.or_eq_true]at h;obtain⟨p,q,h1,h2,h3,h4⟩:=hd h.1;rcases h.2 with g|g
   ·exact⟨p,m,h1,(of_decide_eq_true g).symm,h3,List.mem_range.1 hm⟩
   ·obtain⟨p',q',g1,g2,g3,g4⟩:=ha g;exact⟨p,q',h1,g2,h3,g4⟩
  ·cases h
theorem J2{level a b:Int}(h:isB H level l a b=true):level=0∨level=1:=by
 unfold isB at h;split at h
 ·exact .inl ‹_›
 ·split at h
  ·exact .inr ‹_›
  ·cases h
theorem J3{level a b:Int}(h:isB H level l a b=true):ay H=true:=by
 have hd:∀{l:List Cho} {a b:Int},bA H l a b=true→ay H=true:=fun h=>by
  unfold bA at h;rw[Bool.and_eq_true,iJ]at h;exact h.1.1
 unfold isB at h;split at h
 ·rw[Bool.or_eq_true]at h;rcases h with h|h
  ·exact hd h
  ·unfold iH at h;rw[Bool.and_eq_true,iJ]at h;exact h.1.1
 ·split at h
  ·rw[List.any_eq_true]at h;obtain⟨m,hm,h⟩:=h;rw[Bool.and_eq_true]at h;exact hd h.1
  ·cases h
end
theorem yh{n:Nat}{E:aj}{x:Nat}{l:List Nat}(hx:x<n)(hl:∀a∈l,a<n)(h:iF E x l x=true):gu n E=true:=by
 unfold gu;rw[List.any_eq_true];exact⟨x,List.mem_range.2 hx,jW n l.length l x x (Nat.le_refl _) hl h⟩
theorem Jl{n:Nat}{E:aj}{x y:Nat}(hx:x<n)(hy:y<n)(h1:E x y=true)(h2:E y x=true):gu n E=true:=
 yh (l:=[y]) hx (by simpa using hy) (by show(E x y&&E y x)=true;rw[h1,h2];rfl)
theorem PO{n:Nat}{E:aj}{x:Nat}(hx:x<n)(h:E x x=true):gu n E=true:=yh (l:=[]) hx (by simp) h
theorem J4{n:Nat}{E:aj}{x y z:Nat}(hx:x<n)(hy:y<n)(hz:z<n)(h1:E x y=true)(h2:E y z=true)(h3:E z x=true):gu n E=true:=
 yh (l:=[y,z]) hx (by simp;omega) (by show(E x y&&(E y z&&E z x))=true;rw[h1,h2,h3];rfl)
theorem CO{E:aj}:∀(r:List Nat) (x y:Nat),iF E x r y=true↔∀i,i<r.length+1→E ((x::r).getD i 0) ((r++[y]).getD i 0)=true
 |[],x,y=>by
  constructor
  ·intro h i hi;obtain rfl:i=0:=(by simp at hi;omega);exact h
  ·intro h;exact h 0 (by simp)
 |a::r,x,y=>by
  have hw:iF E x (a::r) y=(E x a&&iF E a r y):=rfl;rw[hw,Bool.and_eq_true,CO r a y];constructor
  ·rintro⟨h1,h2⟩ i hi;cases i with
   |zero=>exact h1
   |succ i=>exact h2 i (by simp at hi;omega)
  ·intro h;exact⟨h 0 (by simp),fun i hi=>h (i+1) (by simp;omega)⟩
theorem MU{H:List Txn}{level:Int}{l:List Cho}{row:List Int}(ho:∀c∈l,dn H c=true)(h:iI H level l row=true):gu H.length (bI H level l)=true:=by
 unfold iI at h;rw[Bool.and_eq_true,List.all_eq_true]at h;have h0:0<row.length:=of_decide_eq_true h.1;have he:∀i,i<row.length→isB H level l (row.getD i 0) (row.getD ((i+1)%row.length) 0)=true:=fun i hi=>by
  have:=h.2 i (List.mem_range.2 hi);rw[Bool.and_eq_true]at this;exact this.2
 have xL:=J2 (he 0 h0);have hri:=J3 (he 0 h0);have PS:∀i,i<row.length→row.getD i 0=((row.getD i 0).toNat:Int)∧(row.getD i 0).toNat<H.length:=fun i hi=>by
  obtain⟨x,y,e,-,hx,-⟩:=PN (he i hi);rw[e];simp;exact hx
 have hE:∀i,i<row.length→bI H level l (row.getD i 0).toNat (row.getD ((i+1)%row.length) 0).toNat=true:=fun i hi=>by
  obtain⟨g1,g2⟩:=PS i hi;obtain⟨g3,g4⟩:=PS ((i+1)%row.length) (Nat.mod_lt _ h0);rw[←D9 hri xL ho g2 g4,←g1,←g3];exact he i hi
 clear h he;cases row with
 |nil=>simp at h0
 |cons x r=>
  refine yh (x:=x.toNat) (l:=r.map Int.toNat) (PS 0 h0).2 ?_ ?_
  ·intro a ha;obtain⟨y,hy,rfl⟩:=List.mem_map.1 ha;obtain⟨i,hi,rfl⟩:=List.getElem_of_mem hy;have:=(PS (i+1) (by simp;omega)).2;simpa[List.getD_eq_getElem?_getD,List.getElem?_eq_getElem hi]using this
  ·rw[CO];intro i hi;rw[List.length_map]at hi;have:=hE i (by simpa using hi);have e1:(x.toNat::r.map Int.toNat).getD i 0=((x::r).getD i 0).toNat:=by
    rw[show x.toNat::r.map Int.toNat=(x::r).map Int.toNat by rfl,List.getD_eq_getElem?_getD,List.getD_eq_getElem?_getD,List.getElem?_map];rw[List.getElem?_eq_getElem (show i<(x::r).length by simpa using hi)];rfl
   have e2:(r.map Int.toNat++[x.toNat]).getD i 0=((x::r).getD ((i+1)%(x::r).length) 0).toNat:=by
    rw[show r.map Int.toNat++[x.toNat]=(r++[x]).map Int.toNat by simp,List.getD_eq_getElem?_getD,List.getElem?_map,List.getD_eq_getElem?_getD];by_cases hlt:i<r.length
    ·rw[List.getElem?_append_left hlt,Nat.mod_eq_of_lt (show i+1<(x::r).length by simp;omega),gS,List.getElem?_eq_getElem hlt];rfl
    ·obtain rfl:i=r.length:=(by omega);rw[List.getElem?_append_right (Nat.le_refl _),Nat.sub_self,show(r.length+1)%(x::r).length=0 by simp];rfl
   rw[e1,e2];exact this
theorem Bu{n:Nat}{E:aj}{v:Nat}:∀(l x:Nat),dB n E v x=l+1→iF E x (jJ n E (dB n E v) x l) v=true
 |0,x,h=>D5 h
 |l+1,x,h=>by
  obtain⟨y,h1,_,h3,h4⟩:=j4 h;rw[j5 h1];show(E x y&&iF E y _ v)=true;rw[h3,Bu l y h4];rfl
theorem Bw{n:Nat}{E:aj}{v:Nat}:∀(l x:Nat),dB n E v x=l+1→∀y∈jJ n E (dB n E v) x l,dB n E v y≤l
 |0,x,h,y,hy=>by cases hy
 |l+1,x,h,y,hy=>by
  obtain⟨z,h1,_,_,h4⟩:=j4 h;rw[j5 h1,List.mem_cons]at hy;rcases hy with rfl|hy
  ·omega
  ·have:=Bw l z h4 y hy;omega
theorem wH{n:Nat}{E:aj}{v:Nat}:∀(l x:Nat),dB n E v x=l+1→(x::jJ n E (dB n E v) x l).Nodup
 |0,x,h=>by simp[jJ]
 |l+1,x,h=>by
  obtain⟨z,h1,_,_,h4⟩:=j4 h;refine List.nodup_cons.2 ⟨fun hm=> ?_,?_⟩
  ·have:=Bw (l+1) x h x hm;omega
  ·rw[j5 h1];exact wH l z h4
theorem Gc{n:Nat}{E:aj}(h:fA n E≠[]):∃x r,fA n E=x::r∧(x::r).Nodup∧iF E x r x=true:=by
 unfold fA at h⊢;split at h
 ·exact absurd rfl h
 ·rename_i v hv;have h1:=List.find?_some hv;rw[bne_iff_ne]at h1;have hj:dB n E v v=(dB n E v v-1)+1:=(by omega);exact⟨v,_,rfl,wH _ v hj,Bu _ v hj⟩
def dI(H:List Txn)(level:Int)(l:List Cho):List Int:=(fA H.length (bI H level l)).map fun(x:Nat)=>(x:Int)
theorem Bz{H:List Txn}{level:Int}{l:List Cho}:dI H level l=[]↔gu H.length (bI H level l)=false:=by
 unfold dI;rw[List.map_eq_nil_iff];exact JZ
theorem Gd{H:List Txn}{level:Int}{l:List Cho}(hr:ay H=true)(hl:level=0∨level=1)(ho:∀c∈l,dn H c=true)(h:dI H level l≠[]):iI H level l (dI H level l)=true:=by
 have h0:fA H.length (bI H level l)≠[]:=fun e=>h (by unfold dI;rw[e];rfl);obtain⟨x,r,e,hnd,hw⟩:=Gc h0;have hlt:∀a∈x::r,a<H.length:=fun a ha=>MR a (by rw[e];exact ha);unfold dI;rw[e];unfold iI;rw[List.length_map,decide_eq_true (show 0<(x::r).length by simp),Bool.true_and,List.all_eq_true];intro i hi;have hi:=List.mem_range.1 hi;have hj:(i+1)%(x::r).length<(x::r).length:=Nat.mod_lt _ (by simp);have g1:((x::r).map fun(x:Nat)=>(x:Int)).getD i 0=(((x::r)[i]:Nat):Int):=by
  rw[List.getD_eq_getElem?_getD,List.getElem?_map,List.getElem?_eq_getElem hi];rfl
 have g2:((x::r).map fun(x:Nat)=>(x:Int)).getD ((i+1)%(x::r).length) 0=(((x::r)[(i+1)%(x::r).length]:Nat):Int):=by
  rw[List.getD_eq_getElem?_getD,List.getElem?_map,List.getElem?_eq_getElem hj];rfl
 rw[g1,g2,Bool.and_eq_true];constructor
 ·rw[←List.map_take];rw[Bool.not_eq_true',←Bool.not_eq_true,List.contains_iff_mem];intro hm;obtain⟨y,hy,e2⟩:=List.mem_map.1 hm;obtain⟨k,hk,e3⟩:=List.mem_take_iff_getElem.1 hy;have:=List.pairwise_iff_getElem.1 (List.nodup_iff_pairwise_ne.1 hnd) k i (by omega) hi (by omega);exact this (by rw[e3];omega)
 ·rw[D9 hr hl ho (hlt _ (List.getElem_mem hi)) (hlt _ (List.getElem_mem hj))];rw[CO]at hw;have:=hw i (by simpa using hi);have e1:(x::r).getD i 0=(x::r)[i]:=(by rw[List.getD_eq_getElem?_getD,List.getElem?_eq_getElem hi];rfl);have e2:(r++[x]).getD i 0=(x::r)[(i+1)%(x::r).length]:=by
   have h3:(r++[x])[i]?=(x::r)[(i+1)%(x::r).length]?:=by
    by_cases hl2:i<r.length
    ·rw[List.getElem?_append_left hl2,Nat.mod_eq_of_lt (show i+1<(x::r).length by simp;omega),gS]
    ·have:i=r.length:=(by simp at hi;omega);subst this;rw[List.getElem?_append_right (Nat.le_refl _),Nat.sub_self,show(r.length+1)%(x::r).length=0 by simp];rfl
   rw[List.getD_eq_getElem?_getD,h3,List.getElem?_eq_getElem hj];rfl
  rw[e1,e2]at this;exact this
structure Nod where
 c:Cho
 cyc:List Int
deriving DecidableEq
def dw:Cho:=⟨0,0,0⟩
def Ea:Fct:=⟨dw,0,0,0,[]⟩
def av(L:List Fct):List Cho:=L.map (·.c)
theorem dZ(L:List Fct):(av L).length=L.length:=List.length_map ..
theorem yJ(L:List Fct)(f:Fct):av (L++[f])=av L++[f.c]:=by unfold av;rw[List.map_append];rfl
theorem Gf(L:List Fct)(i:Nat):av (L.take i)=(av L).take i:=by unfold av;rw[List.map_take]
def iU(H:List Txn)(level:Int)(L:List Fct)(n:Nat):Bool:=(List.range n).all fun i=>dU H level (L.take i) (L.getD i Ea)
def d9(H:List Txn)(level:Int)(L:List Fct):Bool:=iU H level L L.length&&oq H level
theorem Eb(H:List Txn)(level:Int)(L:List Fct)(n:Nat):iU H level L (n+1)=(iU H level L n&&dU H level (L.take n) (L.getD n Ea)):=by
 unfold iU;rw[List.range_succ,List.all_append];simp
theorem J5{H:List Txn}{level:Int}{L:List Fct}{n i:Nat}(h:iU H level L n=true)(hi:i<n):dU H level (L.take i) (L.getD i Ea)=true:=by
 unfold iU at h;rw[List.all_eq_true]at h;exact h i (List.mem_range.2 hi)
theorem J6{H:List Txn}{level:Int}{L:List Fct}{n i:Nat}(h:dU H level (L.take i) (L.getD i Ea)=false)(hi:i<n):iU H level L n=false:=by
 unfold iU;rw[List.all_eq_false];exact⟨i,List.mem_range.2 hi,by rw[h];decide⟩
theorem mX{α:Type}{l:List α}{i:Nat}{d:α}(h:i<l.length):l.getD i d=l[i]:=by rw[List.getD_eq_getElem?_getD,List.getElem?_eq_getElem h];rfl
theorem yK{H:List Txn}{level:Int}{L:List Fct}(h:d9 H level L=true){i:Nat}(hi:i<L.length):dU H level (L.take i) L[i]=true:=by
 unfold d9 at h;rw[Bool.and_eq_true]at h;have:=J5 h.1 hi;rwa[mX hi]at this
theorem dF{H:List Txn}{level:Int}{L:List Fct}(h:d9 H level L=true):oq H level=true:=by
 unfold d9 at h;rw[Bool.and_eq_true]at h;exact h.2
theorem fT{H:List Txn}{level:Int}:oq H level=true↔ay H=true∧(level=0∨level=1):=by
 unfold oq;rw[Bool.and_eq_true,Bool.or_eq_true,decide_eq_true_eq,decide_eq_true_eq]
theorem J7{H:List Txn}{level:Int}{L:List Fct}:d9 H level L=true↔oq H level=true∧∀i (hi:i<L.length),dU H level (L.take i) L[i]=true:=by
 constructor
 ·intro h;exact⟨dF h,fun i hi=>yK h hi⟩
 ·rintro⟨h1,h2⟩;unfold d9 iU;rw[h1,Bool.and_true,List.all_eq_true];intro i hi;have hi:=List.mem_range.1 hi;rw[mX hi];exact h2 i hi
theorem Gg{H:List Txn}{level:Int}{L:List Fct}(h:d9 H level L=true)(n:Nat):d9 H level (L.take n)=true:=by
 rw[J7]at h⊢;refine⟨h.1,fun i hi=> ?_⟩;rw[List.length_take]at hi;rw[List.take_take,Nat.min_eq_left (by omega),List.getElem_take];exact h.2 i (by omega)
theorem holds_one{H:List Txn}{level:Int}{L:List Fct}{f:Fct}(h:dU H level L f=true):dn H f.c=true:=by
 unfold dU at h;simp only[Bool.and_eq_true]at h;exact h.1.1.2
theorem J8{H:List Txn}{level:Int}{L:List Fct}{f:Fct}(h:dU H level L f=true):oq H level=true:=by
 unfold dU at h;simp only[Bool.and_eq_true]at h;exact h.1.1.1
theorem yL{H:List Txn}{level:Int}{L:List Fct}(h:d9 H level L=true):∀c∈av L,dn H c=true:=fun c hc=>by
 unfold av at hc;obtain⟨f,hf,rfl⟩:=List.mem_map.1 hc;obtain⟨i,hi,rfl⟩:=List.getElem_of_mem hf;exact holds_one (yK h hi)
def qY(H:List Txn)(level:Int)(L:List Fct)(i:Nat):Nod:=⟨dw,dI H level (av (L.take i)++[aQ (L.getD i Ea).c])⟩
def fI(H:List Txn)(level:Int)(L:List Fct)(tree:List Nod):List Nod:=
 L.map (fun f=>⟨f.c,[]⟩)++tree++(List.range L.length).map fun k=>qY H level L (L.length-1-k)
def j6(H:List Txn)(l:List Cho):Option Cho:=(bB H).find? fun p=> !l.contains p&& !l.contains (aQ p)
structure Say where
 said:Int
 order:List Nat
 tree:List Nod
 facts:List Fct
deriving DecidableEq
def oN:Say:=⟨3,[],[],[]⟩
def nY:Say:=⟨0,[],[],[]⟩
def SH(H:List Txn)(at' idle:Int):Bool:=ay H&&decide (0≤idle)&&decide (idle≤((bB H).length:Int))&&decide (0≤at')&&decide (at'<max ((bB H).length:Int) 1)
def Jm(H:List Txn)(level:Int)(L:List Fct):Say:=
 match j6 H (av L)with
 |some _=>oN
 |none=>match fH H.length (bI H level (av L))with
  |some o=>⟨1,o,[],[]⟩
  |none=>⟨2,[],fI H level L [⟨dw,dI H level (av L)⟩],[]⟩
def SI(c:Cho)(x:Nat×Nat):Fct:=⟨c,2,(x.1:Int),(x.2:Int),[]⟩
def Un(n:Nat):List (Nat×Nat):=((List.range n).map fun i=>(List.range n).map fun j=>(i,j)).flatten
def Jo(H:List Txn)(level:Int)(L:List Fct)(c:Cho):Option Fct:=((Un L.length).map (SI c)).find? (dU H level L)
def Gh(H:List Txn)(level:Int)(L:List Fct)(p:Cho):Say:=
 match Jo H level L p with
 |some f=>⟨0,[],[],[f]⟩
 |none=>match Jo H level L (aQ p)with
  |some f=>⟨0,[],[],[f]⟩
  |none=>
   let a:=dI H level (av L++[aQ p])
   let b:=dI H level (av L++[p])
   if a=[]then if b=[]then nY else⟨0,[],[],[⟨aQ p,4,0,0,b⟩]⟩
   else if b=[]then⟨0,[],[],[⟨p,4,0,0,a⟩]⟩
   else⟨2,[],fI H level L [⟨p,[]⟩,⟨dw,b⟩,⟨dw,a⟩],[]⟩
def Ec(H:List Txn)(level at' idle:Int)(L:List Fct):(Int×Int)×Say:=
 if SH H at' idle&&decide (L.length<20000)&&d9 H level L then
  if idle=((bB H).length:Int)then((at',idle),Jm H level L)
  else
   let p:=(bB H).getD at'.toNat dw
   let at2:Int:=(((at'.toNat+1)%(bB H).length:Nat):Int)
   if(av L).contains p||(av L).contains (aQ p)then((at2,idle+1),nY)
   else
    let o:=Gh H level L p
    ((at2,if o.facts=[]then idle+1 else 0),o)
 else((at',idle),oN)
theorem Gi{H:List Txn}{l:List Cho}(h:j6 H l=none){p:Cho}(hp:p∈bB H):p∈l∨aQ p∈l:=by
 unfold j6 at h;rw[List.find?_eq_none]at h;have:=h p hp;simp at this;exact Classical.or_iff_not_imp_left.2 this
theorem Gj{H:List Txn}{l:List Cho}{p:Cho}(h:j6 H l=some p):p∈bB H∧p∉l∧aQ p∉l:=by
 unfold j6 at h;have h1:=List.find?_some h;have h2:=List.mem_of_find?_eq_some h;simp at h1;exact⟨h2,h1⟩
theorem J9(H:List Txn)(level:Int)(L:List Fct)(p:Cho):((Gh H level L p).said=0∧(Gh H level L p).facts.length≤1)∨((Gh H level L p).said=2∧(Gh H level L p).facts=[]):=by
 unfold Gh;split
 ·exact .inl ⟨rfl,Nat.le_refl _⟩
 ·split
  ·exact .inl ⟨rfl,Nat.le_refl _⟩
  ·dsimp only;split
   ·split
    ·exact .inl ⟨rfl,Nat.zero_le _⟩
    ·exact .inl ⟨rfl,Nat.le_refl _⟩
   ·split
    ·exact .inl ⟨rfl,Nat.le_refl _⟩
    ·exact .inr ⟨rfl,rfl⟩
theorem Gl(H:List Txn)(level:Int)(L:List Fct):(Jm H level L).said≠0∧(Jm H level L).facts=[]:=by
 unfold Jm;split
 ·exact⟨by show(3:Int)≠0;decide,rfl⟩
 ·split
  ·exact⟨by show(1:Int)≠0;decide,rfl⟩
  ·exact⟨by show(2:Int)≠0;decide,rfl⟩
end Go.Inq
namespace Go.Proofs.YtfhnamomiaekdaaGreatDoor
open Go.RowKit Go.Inq
set_option maxHeartbeats 1000000
def u6(w:World)(K:Nat→Prop)(cs:List Value)(f:Fct):Prop:=∃A c,cs=[.int .i64 f.c.key,.int .i64 f.c.a,.int .i64 f.c.b,.int .i64 f.kind,.int .i64 f.i,.int .i64 f.j,.slice A f.cyc.length c]∧aP w K (.slice A f.cyc.length c) f.cyc
theorem u6.aO:lU u6:=fun _ _ _ _ _ _ h ha hk=>by
 obtain⟨A,c,h1,h2⟩:=h;exact⟨A,c,h1,aP.keep h2 ha hk⟩
def eY(w:World)(K:Nat→Prop)(v:Value)(l:List Fct):Prop:=SlR 7 u6 w K v l
section
variable{w w':World}{K K':Nat→Prop}{v:Value}{l:List Fct}
theorem eY.keep(h:eY w K v l)(ha:Agree K w w')(hk:∀b,K b→K' b):eY w' K' v l:=SlR.keep u6.aO h ha hk
theorem eY.below(h:eY w (Old w) v l)(hb:Below w.heap.size w w'):eY w' (Old w') v l:=SlR.below u6.aO h hb
theorem eY.fit(h:eY w K v l)(hk:∀b,K b→K' b):eY w K' v l:=SlR.fit u6.aO h hk
theorem eY.nil(w:World)(K:Nat→Prop)(A:Option Addr)(c:Nat):eY w K (.slice A 0 c) []:=SlR.nil _ _ _ _ _ _
theorem eY.take{A:Option Addr}{n c:Nat}(h:eY w K (.slice A n c) l){k:Nat}(hk:k≤l.length):eY w K (.slice A k c) (l.take k):=SlR.take h hk
theorem eY.cap{A:Option Addr}{n c:Nat}(h:eY w K (.slice A n c) l):l.length≤c:=by
 obtain⟨_,_,e,h1⟩:=SlR.len h;simp only[Value.slice.injEq]at e;omega
structure SK(w:World)(K:Nat→Prop)(b o:Nat)(f:Fct)(Ay:Option Addr)(cy:Nat):Prop where
 d0:w.cell? ⟨b,o,none⟩=some (.int .i64 f.c.key)
 d1:w.cell? ⟨b,o+1,none⟩=some (.int .i64 f.c.a)
 d2:w.cell? ⟨b,o+2,none⟩=some (.int .i64 f.c.b)
 d3:w.cell? ⟨b,o+3,none⟩=some (.int .i64 f.kind)
 d4:w.cell? ⟨b,o+4,none⟩=some (.int .i64 f.i)
 d5:w.cell? ⟨b,o+5,none⟩=some (.int .i64 f.j)
 d6:w.cell? ⟨b,o+6,none⟩=some (.slice Ay f.cyc.length cy)
 cyc:aP w K (.slice Ay f.cyc.length cy) f.cyc
theorem eY.at_{A:Option Addr}{n c:Nat}(h:eY w K (.slice A n c) l){i:Nat}(hi:i<l.length):∃b off Ay cy,A=some ⟨b,off,none⟩∧K b∧SK w K b (off+i*7) l[i] Ay cy:=by
 obtain⟨b,off,cs,hA,hK,-,⟨Ay,cy,rfl,hy⟩,hc⟩:=SlR.at_ h hi;exact⟨b,off,Ay,cy,hA,hK,hc 0 _ rfl,hc 1 _ rfl,hc 2 _ rfl,hc 3 _ rfl,hc 4 _ rfl,hc 5 _ rfl,hc 6 _ rfl,hy⟩
end
def fE(w:World)(K:Nat→Prop)(cs:List Value)(n:Nod):Prop:=∃A c,cs=[.int .i64 n.c.key,.int .i64 n.c.a,.int .i64 n.c.b,.slice A n.cyc.length c]∧aP w K (.slice A n.cyc.length c) n.cyc
theorem fE.aO:lU fE:=fun _ _ _ _ _ _ h ha hk=>by
 obtain⟨A,c,h1,h2⟩:=h;exact⟨A,c,h1,aP.keep h2 ha hk⟩
def bJ(w:World)(K:Nat→Prop)(v:Value)(l:List Nod):Prop:=SlR 4 fE w K v l
section
variable{w w':World}{K K':Nat→Prop}{v:Value}{l:List Nod}
theorem bJ.keep(h:bJ w K v l)(ha:Agree K w w')(hk:∀b,K b→K' b):bJ w' K' v l:=SlR.keep fE.aO h ha hk
theorem bJ.below(h:bJ w (Old w) v l)(hb:Below w.heap.size w w'):bJ w' (Old w') v l:=SlR.below fE.aO h hb
theorem bJ.fit(h:bJ w K v l)(hk:∀b,K b→K' b):bJ w K' v l:=SlR.fit fE.aO h hk
theorem bJ.nil(w:World)(K:Nat→Prop)(A:Option Addr)(c:Nat):bJ w K (.slice A 0 c) []:=SlR.nil _ _ _ _ _ _
theorem bJ.cap{A:Option Addr}{n c:Nat}(h:bJ w K (.slice A n c) l):l.length≤c:=by
 obtain⟨_,_,e,h1⟩:=SlR.len h;simp only[Value.slice.injEq]at e;omega
structure SL(w:World)(K:Nat→Prop)(b o:Nat)(n:Nod)(Ay:Option Addr)(cy:Nat):Prop where
 d0:w.cell? ⟨b,o,none⟩=some (.int .i64 n.c.key)
 d1:w.cell? ⟨b,o+1,none⟩=some (.int .i64 n.c.a)
 d2:w.cell? ⟨b,o+2,none⟩=some (.int .i64 n.c.b)
 d3:w.cell? ⟨b,o+3,none⟩=some (.slice Ay n.cyc.length cy)
 cyc:aP w K (.slice Ay n.cyc.length cy) n.cyc
theorem bJ.at_{A:Option Addr}{n c:Nat}(h:bJ w K (.slice A n c) l){i:Nat}(hi:i<l.length):∃b off Ay cy,A=some ⟨b,off,none⟩∧K b∧SL w K b (off+i*4) l[i] Ay cy:=by
 obtain⟨b,off,cs,hA,hK,-,⟨Ay,cy,rfl,hy⟩,hc⟩:=SlR.at_ h hi;exact⟨b,off,Ay,cy,hA,hK,hc 0 _ rfl,hc 1 _ rfl,hc 2 _ rfl,hc 3 _ rfl,hy⟩
end
def Gm(L:List Fct):Prop:=L.length≤1000000∧∀f∈L,f.cyc.length≤1000000
def u7(l:List Nod):Prop:=l.length≤100000000∧∀n∈l,n.cyc.length≤1000000
end Go.Proofs.YtfhnamomiaekdaaGreatDoor
namespace Go.Inq
def tL(i:Int):Nat:=if 0≤i∧i<64 then 2^i.toNat else 0
theorem Jp{i:Int}(h0:0≤i)(h:i<64):tL i=2^i.toNat:=by unfold tL;rw[if_pos ⟨h0,h⟩]
theorem MV{i:Int}(h:i<0):tL i=0:=by unfold tL;rw[if_neg (by omega)]
theorem Ka{i:Int}(h:64≤i):tL i=0:=by unfold tL;rw[if_neg (by omega)]
theorem CP(i:Int):tL i<18446744073709551616:=by
 unfold tL;split
 ·rename_i h;exact Nat.lt_of_lt_of_le (Nat.pow_lt_pow_right (by decide) (show i.toNat<64 by omega)) (by decide)
 ·decide
def hasB(s:Nat)(i:Int):Bool:=decide (0≤i)&&s.testBit i.toNat
theorem MW(s i:Nat):hasB s (i:Int)=s.testBit i:=by unfold hasB;simp
theorem MX{s:Nat}(hs:s<18446744073709551616)(i:Int):decide (s&&&tL i=0)= !hasB s i:=by
 unfold hasB tL;by_cases h0:0≤i
 ·by_cases h:i<64
  ·rw[if_pos ⟨h0,h⟩,Bool.eq_iff_iff,decide_eq_true_iff,and_one];simp[h0]
  ·rw[if_neg (by omega)];have:s.testBit i.toNat=false:=Nat.testBit_lt_two_pow (Nat.lt_of_lt_of_le (show s<2^64 from hs) (Nat.pow_le_pow_right (by decide) (by omega)));simp[this]
 ·rw[if_neg (by omega)];simp[h0]
def oO(s:Nat)(i:Int):Nat:=s|||tL i
theorem BA(s:Nat){i:Nat}(hi:i<64)(j:Nat):(oO s (i:Int)).testBit j=(s.testBit j||decide (i=j)):=by
 unfold oO;rw[Jp (by omega) (by omega),Int.toNat_natCast];exact Rh s i j
def joinL(l:List Nat):Nat:=l.foldl (·|||·) 0
theorem CQ(l:List Nat):∀(a i:Nat),(l.foldl (·|||·) a).testBit i=(a.testBit i||l.any fun x=>x.testBit i):=by
 induction l with
 |nil=>intro a i;simp
 |cons x r ih=>intro a i;rw[List.foldl_cons,ih,Nat.testBit_or,List.any_cons,Bool.or_assoc]
theorem Kc(l:List Nat)(i:Nat):(joinL l).testBit i=l.any fun x=>x.testBit i:=by
 unfold joinL;rw[CQ];simp
theorem yM{l:List Nat}{n:Nat}(h:∀x∈l,x<2^n):joinL l<2^n:=by
 refine Nat.lt_pow_two_of_testBit _ (fun i hi=> ?_);rw[Kc,List.any_eq_false];intro x hx;rw[Nat.testBit_lt_two_pow (Nat.lt_of_lt_of_le (h x hx) (Nat.pow_le_pow_right (by decide) hi))];simp
theorem Gn{l:List Nat}{k:Nat}(h:k<l.length):joinL (l.take (k+1))=joinL (l.take k)|||l[k]:=by
 unfold joinL;rw[List.take_succ_eq_append_getElem h,List.foldl_append];rfl
def Ke(a b:Nat):Bool:=decide (a&&&(18446744073709551615-b)=0)
theorem Ed{a b:Nat}(ha:a<18446744073709551616)(hb:b<18446744073709551616):Ke a b=true↔∀i,a.testBit i=true→b.testBit i=true:=by
 unfold Ke;rw[decide_eq_true_iff];have hc:∀i,(18446744073709551615-b).testBit i=(decide (i<64)&& !b.testBit i):=by
  intro i;have:=Nat.testBit_two_pow_sub_succ (n:=64) (x:=b) hb i;rw[show 2^64-(b+1)=18446744073709551615-b by omega]at this;exact this
 constructor
 ·intro h i hi;have Uo:i<64:=by
   rcases Nat.lt_or_ge i 64 with h|h
   ·exact h
   ·rw[Nat.testBit_lt_two_pow (Nat.lt_of_lt_of_le (show a<2^64 from ha) (Nat.pow_le_pow_right (by decide) h))]at hi;cases hi
  have:=congrArg (fun y=>y.testBit i) h;simp only[Nat.testBit_and,hc,hi,decide_eq_true Uo,Nat.zero_testBit,Bool.true_and]at this;simpa using this
 ·intro h;refine Nat.eq_of_testBit_eq (fun i=> ?_);rw[Nat.testBit_and,hc,Nat.zero_testBit];by_cases hi:a.testBit i=true
  ·rw[h i hi];simp
  ·simp[hi]
theorem iw{n:Nat}(h:n≤64):2^n≤18446744073709551616:=Nat.le_trans (Nat.pow_le_pow_right (by decide) h) (by decide)
theorem Kg{l:List Nat}{n:Nat}(hn:n≤64)(h:∀x∈l,x<2^n):Ke (joinL l) (2^n-1)=true:=by
 have hp:=iw hn;have hj:=yM h;rw[Ed (by omega) (by have:=Nat.two_pow_pos n;omega)];intro i hi;rw[Nat.testBit_two_pow_sub_one];refine decide_eq_true ?_;rcases Nat.lt_or_ge i n with h|h
 ·exact h
 ·rw[Nat.testBit_lt_two_pow (Nat.lt_of_lt_of_le hj (Nat.pow_le_pow_right (by decide) h))]at hi;cases hi
theorem mY{p:Nat→Bool}{n:Nat}(hn:n≤64):iR (aZ p n)=(List.range n).filter p:=by
 unfold iR;obtain⟨m,hm⟩:=Nat.le.dest hn;rw[←hm,List.range_add,List.filter_append];have h1:(List.range n).filter (fun i=>(aZ p n).testBit i)=(List.range n).filter p:=List.filter_congr fun i hi=>by
  have:i<n:=(by simpa using hi);rw[aR];simp[this]
 have h2:((List.range m).map (n+·)).filter (fun i=>(aZ p n).testBit i)=[]:=by
  rw[List.filter_eq_nil_iff];intro i hi;obtain⟨k,_,rfl⟩:=List.mem_map.1 hi;rw[aR];simp;intro h;omega
 rw[h1,h2,List.append_nil]
def jO(a b:Nat):aj:=fun x y=>decide (x=a)&&decide (y=b)
def noE:aj:=fun _ _=>false
theorem Ee(n:Nat):dH n noE=List.replicate n 0:=by
 refine List.ext_getElem (by simp[aN]) fun a h1 h2=> ?_;have ha:a<n:=(by rw[aN]at h1;exact h1);rw[fG ha,List.getElem_replicate];refine Nat.eq_of_testBit_eq (fun i=> ?_);rw[aR];simp[noE]
theorem vg{p:Nat→Bool}{n b:Nat}(hb:b<n)(hn:n≤64):oO (aZ p n) (b:Int)=aZ (fun y=>p y||decide (y=b)) n:=by
 refine CG ?_ (fun i hi=> ?_)
 ·refine Nat.lt_pow_two_of_testBit _ (fun i hi=> ?_);rw[BA _ (by omega),aR];simp;omega
 ·rw[BA _ (by omega),aR];have:decide (b=i)=decide (i=b):=(by simp[eq_comm]);simp[hi,this]
theorem Kh{n:Nat}{E:aj}{a b:Nat}(ha:a<n)(hb:b<n)(hn:n≤64):(dH n E).set a (oO ((dH n E)[a]'(by rw[aN];exact ha)) (b:Int))=dH n (orE E (jO a b)):=by
 generalize e2:(dH n E)[a]'(by rw[aN];exact ha)=v;rw[fG ha]at e2;subst e2;refine List.ext_getElem (by simp[aN]) fun x h1 h2=> ?_;have hx:x<n:=(by rw[aN]at h2;exact h2);have e1:(dH n (orE E (jO a b)))[x]'h2=aZ (orE E (jO a b) x) n:=fG hx;have e3:(dH n E)[x]'(by rw[aN];exact hx)=aZ (E x) n:=fG hx;rw[List.getElem_set,e1];split
 ·rename_i e;subst e;rw[vg hb hn];exact dG fun y hy=>by simp[orE,jO]
 ·rename_i e;rw[e3];exact dG fun y hy=>by
   have:decide (x=a)=false:=(by simp;omega);simp[orE,jO,this]
theorem vv(a b:Nat):joinL [a,b]=a|||b:=by unfold joinL;simp
theorem CS{p q:Nat→Bool}{n:Nat}:aZ p n|||aZ q n=aZ (fun y=>p y||q y) n:=by
 refine CG (Nat.or_lt_two_pow (lu _ _) (lu _ _)) (fun i hi=> ?_);rw[Nat.testBit_or,aR,aR];simp[hi]
def oP(n:Nat)(E:aj):List (Nat×Nat):=((List.range n).map fun a=>((List.range n).filter (E a)).map fun b=>(a,b)).flatten
theorem yN{n:Nat}{E:aj}{a b:Nat}:(a,b)∈oP n E↔a<n∧b<n∧E a b=true:=by
 unfold oP;rw[List.mem_flatten];constructor
 ·rintro⟨l,hl,h⟩;obtain⟨x,hx,rfl⟩:=List.mem_map.1 hl;obtain⟨y,hy,e⟩:=List.mem_map.1 h;injection e with e1 e2
  subst e1 e2;rw[List.mem_filter]at hy;exact⟨by simpa using hx,by simpa using hy.1,hy.2⟩
 ·rintro⟨ha,hb,he⟩;exact⟨_,List.mem_map.2 ⟨a,by simpa using ha,rfl⟩,List.mem_map.2 ⟨b,List.mem_filter.2 ⟨by simpa using hb,he⟩,rfl⟩⟩
def ofL(l:List (Nat×Nat)):aj:=fun a b=>l.contains (a,b)
theorem MZ(l:List (Nat×Nat))(a b:Nat):ofL (l++[(a,b)])=orE (ofL l) (jO a b):=by
 funext x y;unfold ofL orE jO;rw[Bool.eq_iff_iff];simp
end Go.Inq
namespace Go.Inq
open Go Go.RowKit
def CU(n:Nat):List Value:=[.int .u64 n]
def ji(w:World)(K:Nat→Prop)(v:Value)(l:List Nat):Prop:=SlR 1 (Flat CU) w K v l
section
variable{w w':World}{K K':Nat→Prop}{v:Value}{l:List Nat}
theorem ji.keep(h:ji w K v l)(ha:Agree K w w')(hk:∀b,K b→K' b):ji w' K' v l:=SlR.keep (Flat.aO _) h ha hk
theorem ji.below(h:ji w (Old w) v l)(hb:Below w.heap.size w w'):ji w' (Old w') v l:=SlR.below (Flat.aO _) h hb
theorem ji.fit(h:ji w K v l)(hk:∀b,K b→K' b):ji w K' v l:=SlR.fit (Flat.aO _) h hk
theorem ji.at_{A:Option Addr}{n c:Nat}(h:ji w K (.slice A n c) l){i:Nat}(hi:i<l.length):∃b off,A=some ⟨b,off,none⟩∧K b∧w.cell? ⟨b,off+i,none⟩=some (.int .u64 (l[i]:Nat)):=by
 obtain⟨b,off,cs,hA,hK,_,hR,hc⟩:=SlR.at_ h hi;unfold Flat at hR;subst hR;have:=hc 0 _ rfl;rw[Nat.mul_one,Nat.add_zero]at this;exact⟨b,off,hA,hK,this⟩
theorem ji.cells{b off n c:Nat}(h:ji w K (.slice (some ⟨b,off,none⟩) n c) l){i:Nat}(hi:i<l.length):K b∧w.cell? ⟨b,off+i,none⟩=some (.int .u64 (l[i]:Nat)):=by
 obtain⟨cs,hK,_,hR,hc⟩:=SlR.cells h hi;unfold Flat at hR;subst hR;have:=hc 0 _ rfl;rw[Nat.mul_one,Nat.add_zero]at this;exact⟨hK,this⟩
theorem ji.nil(w:World)(K:Nat→Prop)(A:Option Addr)(c:Nat):ji w K (.slice A 0 c) []:=SlR.nil _ _ _ _ _ _
theorem ji.bZ{g:Nat}{t:TypeId}(h:Blk w g t (l.map fun x:Nat=>Value.int .u64 x).toArray)(hK:K g):ji w K (.slice (some ⟨g,0,none⟩) l.length l.length) l:=by
 refine⟨some ⟨g,0,none⟩,l.length,l.map CU,rfl,Nat.le_refl _,by simp,fun i cs x h1 h2=> ?_,fun _=>⟨g,0,rfl,hK,fun i j cs u h1 h2=> ?_⟩⟩
 ·rw[List.getElem?_map,h2]at h1;injection h1 with h1
  exact⟨by rw[←h1];rfl,h1.symm⟩
 ·rw[List.getElem?_map]at h1;cases hl:l[i]? with
  |none=>rw[hl]at h1;cases h1
  |some x=>
   rw[hl]at h1;injection h1 with h1
   subst h1;cases j with
   |zero=>
    injection h2 with h2
    rw[Nat.zero_add,Nat.mul_one,Nat.add_zero,h.cell,gA,List.getElem?_map,hl,←h2];rfl
   |succ j=>simp[CU]at h2
end
structure GrS(w:World)(K:Nat→Prop)(n:Nat)(A:Option Addr)(c:Nat)(E:aj):Prop where
 sl:ji w K (.slice A n c) (dH n E)
 n64:n≤64
def bN(n:Nat)(E:aj):Array Value:=((dH n E).map fun x:Nat=>Value.int .u64 x).toArray
theorem oQ{n:Nat}{E:aj}{a:Nat}(h:a<n):(bN n E)[a]?=some (.int .u64 (aZ (E a) n:Nat)):=by
 unfold bN;rw[gA,List.getElem?_map,List.getElem?_eq_getElem (by rw[aN];exact h),fG h];rfl
theorem BD{n:Nat}{E:aj}{a b:Nat}(ha:a<n)(hb:b<n)(hn:n≤64):(bN n E).setIfInBounds a (.int .u64 (oO (aZ (E a) n) (b:Int):Nat))=bN n (orE E (jO a b)):=by
 unfold bN;rw[←Kh ha hb hn,sA,List.map_set,fG ha]
theorem BF{n:Nat}{E:aj}{a x:Nat}{p:Nat→Bool}(ha:a<n)(hx:x=aZ p n):(bN n E).setIfInBounds a (.int .u64 (x:Nat))=bN n (fun i=>if i=a then p else E i):=by
 unfold bN;rw[sA];congr 1;refine List.ext_getElem (by simp[aN]) fun i h1 h2=> ?_;have hi:i<n:=(by simpa[aN]using h2);rw[List.getElem_set,List.getElem_map,List.getElem_map,fG hi,fG hi];by_cases e:a=i
 ·subst e;rw[if_pos rfl,if_pos rfl,hx]
 ·rw[if_neg e,if_neg (fun h=>e h.symm)]
theorem M0(n:Nat):bN n noE=madeCells #[.int .u64 0] n:=by
 unfold bN;rw[Ee];refine Array.ext (by simp[size_madeCells]) fun i h1 h2=> ?_;simp[madeCells,Nat.mod_one]
theorem dD{n:Nat}{E F:aj}(h:∀a b,a<n→b<n→E a b=F a b):bN n E=bN n F:=by unfold bN;rw[wE h]
section
variable{w w':World}{K K':Nat→Prop}{n c:Nat}{A:Option Addr}{E F:aj}
theorem GrS.keep(h:GrS w K n A c E)(ha:Agree K w w')(hk:∀b,K b→K' b):GrS w' K' n A c E:=⟨h.sl.keep ha hk,h.n64⟩
theorem GrS.below(h:GrS w (Old w) n A c E)(hb:Below w.heap.size w w'):GrS w' (Old w') n A c E:=⟨h.sl.below hb,h.n64⟩
theorem GrS.fit(h:GrS w K n A c E)(hk:∀b,K b→K' b):GrS w K' n A c E:=⟨h.sl.fit hk,h.n64⟩
theorem GrS.at_(h:GrS w K n A c E){i:Nat}(hi:i<n):∃b off,A=some ⟨b,off,none⟩∧K b∧w.cell? ⟨b,off+i,none⟩=some (.int .u64 (aZ (E i) n:Nat)):=by
 obtain⟨b,off,hA,hK,hc⟩:=h.sl.at_ (i:=i) (by rw[aN];exact hi);rw[fG hi]at hc;exact⟨b,off,hA,hK,hc⟩
theorem GrS.cells{b off:Nat}(h:GrS w K n (some ⟨b,off,none⟩) c E){i:Nat}(hi:i<n):K b∧w.cell? ⟨b,off+i,none⟩=some (.int .u64 (aZ (E i) n:Nat)):=by
 obtain⟨b',off',hA,hK,hc⟩:=h.at_ hi;injection hA with hA;injection hA with h1 h2;subst h1 h2
 exact⟨hK,hc⟩
theorem GrS.bZ{g:Nat}{t:TypeId}(h:Blk w g t (bN n E))(hK:K g)(hn:n≤64):GrS w K n (some ⟨g,0,none⟩) n E:=by
 have:=ji.bZ (l:=dH n E) h hK;rw[aN]at this;exact⟨this,hn⟩
theorem GrS.congr(h:GrS w K n A c E)(hE:∀a b,a<n→b<n→E a b=F a b):GrS w K n A c F:=⟨by rw[←wE hE];exact h.sl,h.n64⟩
theorem GrS.zero(w:World)(K:Nat→Prop)(A:Option Addr)(c:Nat)(E:aj):GrS w K 0 A c E:=⟨by simpa[dH]using ji.nil w K A c,by omega⟩
end
theorem fB{p:Nat→Bool}{n:Nat}(h:n≤64):aZ p n<18446744073709551616:=Nat.lt_of_lt_of_le (lu p n) (iw h)
def M4(t:TypeId)(w:World)(n:Nat)(E:aj)(e:Ending)(w':World):Prop:=
 ∃g,w.heap.size≤g∧e= .returned (.tuple #[.agg #[.int .i64 n,.slice (some ⟨g,0,none⟩) n n],.int .i64 0])∧Blk w' g t (bN n E)∧Below w.heap.size w w'
theorem M4.congr{t:TypeId}{w w':World}{n:Nat}{E F:aj}{e:Ending}(h:M4 t w n E e w')(hE:∀a b,a<n→b<n→E a b=F a b):M4 t w n F e w':=by
 unfold M4 at h⊢;rw[←dD hE];exact h
end Go.Inq
namespace Go.Proofs.YtfhnamomiaekdaaGreatDoor
open Go.RowKit Go.Inq
set_option maxHeartbeats 1000000
attribute [local go_sem↓] Go.wp_at_zero Go.wp_at_succ
theorem Jq(i:Int)(w:World):Calls Tryz.prog 173 #[.int .i64 i] w fun e w'=>e= .returned (.int .u64 (tL i:Nat))∧w=w':=by
 by_cases h0:i<0
 ·have hr:=hide (MV h0);have h0b:decide (i<0)=true:=(by simpa using h0);clear h0;go_enter Tryz.func173,Tryz.ntmps173;go_wp2;go_ret;exact⟨by rw[hr.out];rfl,rfl⟩
 ·by_cases h1:64≤i
  ·have hr:=hide (Ka h1);have h0b:decide (i<0)=false:=(by simpa using h0);have h1b:decide (i≥64)=true:=(by simpa using h1);clear h0 h1;go_enter Tryz.func173,Tryz.ntmps173;go_wp2;go_ret;exact⟨by rw[hr.out];rfl,rfl⟩
  ·have hr:=hide (Jp (i:=i) (by omega) (by omega));have hlt:=hide (CP i);have h0b:decide (i<0)=false:=(by simpa using h0);have h1b:decide (i≥64)=false:=(by simpa using h1);have h2:0≤i:=(by omega);have h3:i≤64:=(by omega);clear h0 h1;go_enter Tryz.func173,Tryz.ntmps173;go_wp2;go_ret;refine⟨dA ?_,rfl⟩;have e1:=hr.out;have e2:=hlt.out;rw[e1]at e2;have e3:min i.toNat IntKind.u64.bits=i.toNat:=(by simp[IntKind.bits];omega);try rw[e3]
   rw[IntKind.wrap_u64,e1];have e4:((2:Int)^i.toNat)=((2^i.toNat:Nat):Int):=(by simp);omega
theorem Ki(s:Nat)(hs:s<18446744073709551616)(i:Int)(w:World):Calls Tryz.prog 102 #[.int .u64 s,.int .i64 i] w fun e w'=>e= .returned (.bool (Go.Inq.hasB s i))∧w=w':=by
 have h1:=u64_and_nat s (tL i) hs (CP i);have hr:=hide (MX hs i);go_enter Tryz.func102,Tryz.ntmps102;go_wp2_with fail;refine(Jq i _).mono ?_;rintro e w1 ⟨rfl,rfl⟩;go_wp2;go_ret;refine⟨aV ?_,rfl⟩;have:=hr.out;rw[←Bool.not_not (Go.Inq.hasB s i),←this,Bool.eq_iff_iff];simp
theorem rV(s:Nat)(hs:s<18446744073709551616)(i:Int)(w:World):Calls Tryz.prog 134 #[.int .u64 s,.int .i64 i] w fun e w'=>e= .returned (.int .u64 (oO s i:Nat))∧w=w':=by
 have h1:=u64_or_nat s (tL i) hs (CP i);go_enter Tryz.func134,Tryz.ntmps134;go_wp2_with fail;refine(Jq i _).mono ?_;rintro e w1 ⟨rfl,rfl⟩;go_wp2;go_ret;exact⟨rfl,rfl⟩
theorem BG(a b:Nat)(ha:a<18446744073709551616)(hb:b<18446744073709551616)(w:World):Calls Tryz.prog 133 #[.int .u64 a,.int .u64 b] w fun e w'=>e= .returned (.bool (Ke a b))∧w=w':=by
 have h1:=u64_andNot_nat a b ha hb;go_enter Tryz.func133,Tryz.ntmps133;go_wp2;go_ret;refine⟨aV ?_,rfl⟩;unfold Ke;rw[Bool.eq_iff_iff];simp
theorem fJ(A:Option Addr)(n c:Nat)(l:List Nat)(K:Nat→Prop)(w:World)(hn:l.length=n)(h:ji w K (.slice A n c) l)(h64:∀x∈l,x<18446744073709551616)(hm:n≤1000000):
 Calls Tryz.prog 171 #[.slice A n c] w fun e w'=>e= .returned (.int .u64 (joinL l:Nat))∧w=w':=by
 replace hn:=hide hn;have hj:∀k,joinL (l.take k)<18446744073709551616:=fun k=>yM (n:=64) fun x hx=>h64 x (List.mem_of_mem_take hx);replace hj:=hide hj;replace h64:=hide h64;go_enter Tryz.func171,Tryz.ntmps171;go_wp2_with fail
 go_loop [3,8] (fun s3 s8=>∃k:Nat,k≤n∧s8= .int .i64 k∧s3= .int .u64 (joinL (l.take k):Nat)) (fun _ s8=>n-(intOf s8).toNat)
 case atStart=>exact⟨0,Nat.zero_le _,by go_num,rfl⟩
 case round=>
  obtain⟨k,hk,rfl,rfl⟩:=hrel;by_cases hlt:k<n
  ·have hi1:(0:Int)≤(k:Int):=Int.natCast_nonneg _;have hi2:(k:Int)<(n:Int):=(by omega);have hkl:k<l.length:=(by rw[hn.out];exact hlt);obtain⟨b,off,rfl,hbK,hc⟩:=ji.at_ h hkl;have hor:=u64_or_nat (joinL (l.take k)) l[k] (hj.out k) (h64.out _ (List.getElem_mem hkl));have hst:=hide (Gn hkl);generalize l[k]=x at*;generalize joinL (l.take k)=y at*;clear hkl;go_wp2
   go_round
   case rel=>exact⟨k+1,by omega,by go_num,by rw[hst.out]⟩
   case measure=>simp[intOf];omega
  ·obtain rfl:k=n:=(by omega);have ht:l.take k=l:=List.take_of_length_le (by rw[hn.out];exact Nat.le_refl _);rw[ht];clear ht;go_wp2;go_ret;exact⟨rfl,rfl⟩
theorem Ef(n:Nat)(hn:n≤64)(w:World):Calls Tryz.prog 172 #[.int .i64 n] w fun e w'=>e= .returned (.int .u64 (2^n-1:Nat))∧w=w':=by
 have h2:(0:Int)≤(n:Int):=Int.natCast_nonneg _;have h3:(n:Int)≤64:=(by omega);have hp:=hide (iw hn);have hp2:=hide (Nat.two_pow_pos n);go_enter Tryz.func172,Tryz.ntmps172;go_wp2;go_ret;refine⟨dA ?_,rfl⟩;have e1:=hp.out;have e2:=hp2.out;have e3:min n IntKind.u64.bits=n:=(by simp[IntKind.bits];omega);have e4:((2:Int)^n)=((2^n:Nat):Int):=(by simp);simp only[Int.toNat_natCast,IntKind.wrap_u64]at*;try rw[e3]
 rw[e4];generalize 2^n=x at*;omega
def iV(w:World):Prop:=∀j,j<Lib.deBruijn64tab.length→w.cell? ⟨0,j,none⟩=some (.int .u8 (Lib.deBruijn64tab.getD j 0))
theorem iV.lt{w:World}(h:iV w):0<w.heap.size:=by
 have:=h 0 (by decide);rcases Nat.lt_or_ge 0 w.heap.size with g|g
 ·exact g
 ·unfold World.cell? at this;simp[Array.getElem?_eq_none g]at this
theorem iV.below{w w':World}(h:iV w)(hb:Below w.heap.size w w'):iV w':=fun j hj=>(hb.cell (p:=⟨0,j,none⟩) h.lt).trans (h j hj)
theorem iV.drewN{w:World}(h:iV w)(n:Nat):iV (w.drewN n):=h
theorem Rj(x a:Nat)(hx:x<18446744073709551616)(hx0:x≠0)(hlow:x&&&(18446744073709551616-x)=a):
 IntKind.u64.wrap (bits BinOp.and IntKind.u64 (x:Int) (IntKind.u64.wrap (-(x:Int)))*285870213051353865)/288230376151711744=((a*285870213051353865%18446744073709551616/288230376151711744:Nat):Int):=by
 have e1:IntKind.u64.wrap (-(x:Int))=((18446744073709551616-x:Nat):Int):=(by rw[IntKind.wrap_u64];omega);rw[e1,u64_and_nat x _ hx (by omega),hlow,IntKind.wrap_u64];omega
theorem PU (x k idx:Nat) (w:World) (hx0:((x:Int)==0)=false)
 (key:IntKind.u64.wrap (bits BinOp.and IntKind.u64 (x:Int) (IntKind.u64.wrap (-(x:Int)))*285870213051353865)/288230376151711744=(idx:Int))
 (hi:idx<64) (hk:k<64) (hcell:w.cell? ⟨0,idx,none⟩=some (.int .u8 k)):
 Calls Tryz.prog 192 #[.int .u64 x] w fun e w'=>e= .returned (.int .i64 k)∧w=w':=by
 go_enter Tryz.func192,Tryz.ntmps192;go_wp2_with (simp only[key]);go_ret;exact⟨rfl,rfl⟩
theorem M5(x:Nat)(hx:x<18446744073709551616)(w:World)(hT:iV w):
 Calls Tryz.prog 192 #[.int .u64 x] w fun e w'=>e= .returned (.int .i64 (Lib.ctz 64 x))∧w=w':=by
 by_cases hx0:x=0
 ·subst hx0;go_enter Tryz.func192,Tryz.ntmps192;go_wp2;go_ret;exact⟨rfl,rfl⟩
 ·obtain⟨hlow,hk⟩:=Lib.lowest_bit 64 x hx0 hx;obtain⟨hi,htab⟩:=Lib.deBruijn64_at _ hk;have hcell:=hT _ hi;rw[htab]at hcell;exact PU x _ _ w (by simp;omega) (Rj x _ hx hx0 hlow) hi hk hcell
end Go.Proofs.YtfhnamomiaekdaaGreatDoor
namespace Go.Inq
open Go Go.RowKit
theorem below_grown{B:Nat}{w0 w w':World}{row:Option Nat}(hb:Below B w0 w)(hg:w.grownBy w' row)(hB:B≤w.heap.size)(hr:∀k,row=some k→B≤k):Below B w0 w':=
 hb.trans ⟨hg.os,hg.tape,hg.output,hg.size,fun k hk=>hg.block k (Nat.lt_of_lt_of_le hk hB) (fun e=>by have:=hr k e.symm;omega)⟩
theorem bF {P:Program} {W:World} {ops:Array Oper} {rest:List Oper} {o:Oper} {a:Act} {Q:Exit→Act→World→Prop} {α:Type} {enc:α→List Value}
 (hgd:o.guard=none) (s x:Operand) (t:TypeId) (ho:o.op= .call {callee:= .builtin .append,args:=#[s,x],argTypes:=#[t,t]})
 (base:Nat) (e:TypeId) (i:TypeInfo) (z:Value) (size bytes:Nat) (ht:P.underlying t=some (.slice e)) (hi:P.info? e=some i) (hz:i.zero=some z)
 (hsize:i.size=size) (hby:i.bytes=bytes) (hzs:z.cells.size=size) (hsz:0<size)
 (v:Value) (l:List α) (hs:a.eval s=v) (hown:W.ownsRow base e size v l.length (l.map enc).flatten) (hen:∀x,(enc x).length=size)
 (x0:α) (cs:Array Value) (hcs:cs.toList=enc x0) (hx:a.eval x= .slice (some ⟨W.heap.size,0,none⟩) 1 1)
 (h1:∀x,∀u∈enc x,u.oneCell'=true) (h63:l.length+1≤maxLen) (hbytes:(l.length+1)*bytes≤140737488355328) (hbase:base≤W.heap.size)
 (w0:World) (B:Nat) (hB:B≤base) (hb:Below B w0 W)
 (h:∀v' w',w'.ownsRow base e size v' (l++[x0]).length ((l++[x0]).map enc).flatten→(W.alloc (.cells cs e)).grownBy w' v.ownBlock→Below B w0 w'→(v'.ownBlock=v.ownBlock∨v'.ownBlock=some (W.heap.size+1))→wpList P ops Q rest (a.put o.dst v') w'):
 wpList P ops Q (o::rest) a (W.alloc (.cells cs e)):=by
 have hk:Blk (W.alloc (.cells cs e)) W.heap.size e cs:=Blk.new _ _ _;have hl:cs.size=size:=(by rw[←Array.length_toList,hcs,hen]);refine bK (enc:=enc) hgd s x t ho base e i z size bytes ht hi hz hsize hby hzs hsz v (fun _=>True) l hs (hown.alloc _) hen _ [x0] hx (SlR.one hk hl (by unfold Flat;exact hcs) trivial) h1 h63 hbytes (by simp;omega) ?_;intro v' w' g1 g2 g3;refine h v' w' g1 g2 (below_grown (hb.alloc (by omega) _) g2 (by simp;omega) ?_) (by simpa using g3);intro k hk;have:=(hown.lt k hk).1;omega
end Go.Inq
namespace Go.Proofs.YtfhnamomiaekdaaGreatDoor
open Go.RowKit Go.Inq
set_option maxHeartbeats 1000000
attribute [local go_sem↓] Go.wp_at_zero Go.wp_at_succ
def aC(l:List Nat):List Int:=l.map fun(n:Nat)=>(n:Int)
theorem fK(l:List Nat)(x:Nat):aC (l++[x])=aC l++[(x:Int)]:=by simp[aC]
theorem aK(l:List Nat):(aC l).length=l.length:=by simp[aC]
theorem ku{l:List Nat}{i:Nat}(h:i<l.length):(aC l)[i]'(by rw[aK];exact h)=(l[i]:Int):=by simp[aC]
theorem gL:(Tryz.prog.info? 3).map (fun i=>(i.zero,i.size,i.bytes))=some (some (.int .i64 0),1,8):=by kernel_rfl
def aY(w:World)(base:Nat)(v:Value)(l:List Int):Prop:=w.ownsRow base 3 1 v l.length (l.map Go.Inq.encI).flatten
def xM(w:World)(l:List Int)(e:Ending)(w':World):Prop:=∃v,e= .returned v∧aY w' w.heap.size v l∧Below w.heap.size w w'
theorem aY.form{w:World}{base:Nat}{v:Value}{l:List Int}(h:aY w base v l):∃A c,v= .slice A l.length c:=aU h
theorem aY.sl{w:World}{base:Nat}{v:Value}{l:List Int}(h:aY w base v l){K:Nat→Prop}(hK:∀g,base≤g→g<w.heap.size→K g):aP w K v l:=SlR.of_flat h rfl (fun _=>rfl) hK
theorem aY.nil(w:World)(base:Nat):aY w base (.slice none 0 0) []:=World.ownsRow_nil _ _ _ _
def B64(n:Nat):Prop:=n<18446744073709551616
def Eh(s y:Nat)(l:List Nat):Prop:=l++iR y=iR s
theorem Gp{s y:Nat}{l:List Nat}(h:Eh s y l)(h0:y≠0)(hy:y<18446744073709551616):Eh s (y&&&(y-1)) (l++[Lib.ctz 64 y]):=by
 unfold Eh at h⊢;rw[←h,rP y h0 hy];simp
theorem mZ(s:Nat)(hs:s<18446744073709551616)(w:World)(hT:iV w):
 Calls Tryz.prog 131 #[.int .u64 s] w (xM w (aC (iR s))):=by
 obtain⟨ii,hii,hi1,hi2,hi3⟩:=info_parts gL;go_enter Tryz.func131,Tryz.ntmps131;go_wp2_with fail;go_loopw [0,3] (fun s0 s3 wr=>∃(y:Nat) (l:List Nat),B64 y∧s0= .int .u64 y∧Hid (Eh s y l)∧aY wr w.heap.size s3 (aC l)∧Below w.heap.size w wr) (fun s0 _ _=>(iR (intOf s0).toNat).length);case atStart=>exact⟨s,[],hs,rfl,(show[]++iR s=iR s from rfl),aY.nil _ _,Below.refl _ _⟩
 case round=>
  obtain⟨y,l,hy,rfl,hr,hown,hb⟩:=hrel;unfold B64 at hy;by_cases h0:y=0
  ·subst h0;have he:=hr.out;unfold Eh at he;rw[F9,List.append_nil]at he;subst he;go_wp2;go_ret;exact⟨_,rfl,hown,hb⟩
  ·have h0b:((y:Int) !=0)=true:=(by simp;omega);have hT2:=hT.below hb;have hn:=hide (Gp hr.out h0 hy);have hlen:l.length+1≤64:=by
    have h1:=congrArg List.length hr.out;have h2:=congrArg List.length (rP y h0 hy);have h3:=JW s;simp only[List.length_append,List.length_cons]at h1 h2;omega
   have hand:=u64_and_nat y (y-1) hy (by omega);have hsub:IntKind.u64.wrap ((y:Int)-1)=((y-1:Nat):Int):=(by rw[IntKind.wrap_u64];omega);have hlt:=hide (MO y hy);have hms:=hide (show(iR (y&&&(y-1))).length<(iR y).length by rw[rP y h0 hy];simp);generalize y&&&(y-1)=z at*;generalize y-1=y1 at*;have hsz:=hb.size;obtain⟨A,c,rfl⟩:=hown.form;replace hown:=hide hown;replace hr:=hide hr.out;replace hy:=hide hy;clear h0 hs;go_wp2_with (first|(go_at_call 192;refine(M5 y hy.out _ hT2).mono ?_;rintro e w' ⟨rfl,rfl⟩)|(at_builtin;refine bF (enc:=Go.Inq.encI) rfl (.tmp 10) (.tmp 13) 33 rfl w.heap.size 3 ii _ 1 8 Tryz.underlying33 hii hi1 hi2 hi3 rfl (by decide) (.slice A (aC l).length c) (aC l) rfl hown.out (fun _=>rfl) (Lib.ctz 64 y:Int) _ rfl rfl gH (by rw[aK];simp[maxLen];omega) (by rw[aK];omega) hsz w w.heap.size (Nat.le_refl _) hb ?_;intro v1 w1 hown1 hg1 hb1 _));go_roundw;case rel=>exact⟨z,l++[Lib.ctz 64 y],hlt.out,rfl,hn,by unfold aY;rw[fK];exact hown1,hb1⟩
   case measure=>
    simp only[intOf,Int.toNat_natCast];exact hms.out
end Go.Proofs.YtfhnamomiaekdaaGreatDoor
namespace Go.Inq
open Go
def Clear{α:Type}(e:Sem α):Prop:=∀(P:Program) w v w',e.run P w= .ok v w'→w'=w∧∀u,e.run P u= .ok v u
section
variable{α β:Type}
theorem Clear.pure(a:α):Clear (Pure.pure a:Sem α):=fun P w v w' h=>by
 simp at h;obtain⟨rfl,rfl⟩:=h;exact⟨rfl,fun u=>by simp⟩
theorem Clear.halt(x:Halt):Clear (Sem.halt x:Sem α):=fun P w v w' h=>by simp[Sem.run]at h
theorem Clear.never{e:Sem α}(h:∀(P:Program) w v w',e.run P w≠ .ok v w'):Clear e:=fun P w v w' h'=>absurd h' (h P w v w')
theorem Clear.bind{e:Sem α}{f:α→Sem β}(he:Clear e)(hf:∀a,Clear (f a)):Clear (e>>=f):=fun P w v w' h=>by
 rw[Sem.run_bind]at h;cases hr:e.run P w with
 |halt x w1=>rw[hr]at h;simp[Result.andThen]at h
 |ok a w1=>
  rw[hr]at h;obtain⟨rfl,h1⟩:=he P w a w1 hr;simp only[Result.andThen]at h;obtain⟨rfl,h2⟩:=hf a P _ v w' h;exact⟨rfl,fun u=>by rw[Sem.run_bind,h1 u];simp only[Result.andThen];exact h2 u⟩
theorem Clear.program:Clear Go.program:=fun P w v w' h=>by
 simp[Go.program,Sem.run]at h;obtain⟨rfl,rfl⟩:=h;exact⟨rfl,fun u=>by simp[Go.program,Sem.run]⟩
theorem Clear.bounds(k:IntKind)(x y:Int)(c:BoundsCode):Clear (boundsPanic k x y c:Sem α):=Clear.never fun P w v w' h=>by
 obtain⟨s,w2,h2⟩:=run_boundsPanic (α:=α) (P:=P) (w:=w) k x y c;rw[h2]at h;cases h
theorem Clear.underlying(t:TypeId):Clear (Go.underlying t):=Clear.bind Clear.program fun p=>by
 split
 ·exact Clear.pure _
 ·exact Clear.halt _
theorem Clear.typeInfo(t:TypeId):Clear (Go.typeInfo t):=Clear.bind Clear.program fun p=>by
 split
 ·exact Clear.pure _
 ·exact Clear.halt _
theorem Clear.sizeOf(t:TypeId):Clear (Go.sizeOf t):=Clear.bind (Clear.typeInfo t) fun _=>Clear.pure _
theorem Clear.zeroValue(t:TypeId):Clear (Go.zeroValue t):=Clear.bind (Clear.typeInfo t) fun _=>by
 split
 ·exact Clear.pure _
 ·exact Clear.halt _
theorem Clear.nilDeref{α:Type}:Clear (runtimePanic .nilDeref:Sem α):=by
 unfold runtimePanic;exact Clear.bind Clear.program fun p=>Clear.halt _
theorem Clear.sureAddr(v:Value):Clear (Instr.sureAddr v):=by
 unfold Instr.sureAddr;split
 ·exact Clear.pure _
 ·exact Clear.halt _
theorem Clear.asIntOf(v:Value):Clear (asIntOf v):=by
 unfold Go.asIntOf;split
 ·exact Clear.pure _
 ·exact Clear.halt _
 ·exact Clear.halt _
theorem Clear.asBool(v:Value):Clear (asBool v):=by
 unfold Go.asBool;split
 ·exact Clear.pure _
 ·exact Clear.halt _
theorem Clear.mapM{γ δ:Type}(f:γ→Sem δ)(hf:∀a,Clear (f a)):∀(l:List γ),Clear (l.mapM f)
 |[]=>by rw[List.mapM_nil];exact Clear.pure _
 |a::l=>by
  rw[List.mapM_cons];exact Clear.bind (hf a) fun _=>Clear.bind (Clear.mapM f hf l) fun _=>Clear.pure _
theorem Clear.Kj{γ δ:Type}(f:γ→Sem δ)(hf:∀a,Clear (f a))(xs:Array γ):Clear (xs.mapM f):=by
 obtain⟨l⟩:=xs;rw[List.mapM_toArray];have h:=Clear.mapM f hf l;intro P w v w' hr;rw[Sem.run_map]at hr;cases hl:(l.mapM f).run P w with
 |halt x w1=>rw[hl]at hr;simp[Result.andThen]at hr
 |ok a w1=>
  rw[hl]at hr;simp only[Result.andThen]at hr;obtain⟨rfl,h1⟩:=h P w a w1 hl;injection hr with e1 e2
  exact⟨e2.symm,fun u=>by rw[Sem.run_map,h1 u];simp only[Result.andThen];rw[e1]⟩
theorem Clear.indexAt(t:TypeId)(x i:Value):Clear (Instr.indexAt t x i):=by
 unfold Instr.indexAt;refine Clear.bind (Clear.asIntOf i) fun ki=> ?_;obtain⟨k,i⟩:=ki;refine Clear.bind (Clear.underlying t) fun d=> ?_
 extract_lets jp
 have hj:∀q,Clear (jp q):=by
  rintro⟨base,len,elem⟩;refine Clear.bind (Clear.underlying t) fun d2=> ?_
  extract_lets tiny
  split
  ·split
   ·exact Clear.bind (Clear.sizeOf _) fun _=>Clear.pure _
   ·split
    ·exact Clear.halt _
    ·exact Clear.bounds _ _ _ _
  ·exact Clear.bounds _ _ _ _
 split
 ·exact Clear.bind (Clear.sureAddr _) fun _=>Clear.bind (Clear.pure _) hj
 ·exact Clear.bind (Clear.pure _) hj
 ·exact Clear.bind (Clear.halt _) hj
theorem Clear.build(t:TypeId)(parts:Array (Nat×Value)):Clear (Instr.build t parts):=by
 unfold Instr.build;refine Clear.bind (Clear.zeroValue t) fun z=> ?_;refine Clear.bind (Clear.underlying t) fun d=> ?_;split
 ·refine Clear.bind (Clear.Kj _ (fun f=>Clear.bind (Clear.sizeOf _) fun _=>Clear.pure _) _) fun ps=> ?_;split
  ·exact Clear.pure _
  ·exact Clear.halt _
 ·refine Clear.bind (Clear.sizeOf _) fun s=> ?_;split
  ·exact Clear.pure _
  ·exact Clear.halt _
 ·exact Clear.halt _
theorem Clear.extract(v:Value)(i:Nat):Clear (Instr.extract v i):=by
 unfold Instr.extract;split
 ·split
  ·exact Clear.pure _
  ·exact Clear.halt _
 ·exact Clear.halt _
end
theorem Clear.isAgg(t:TypeId):Clear (Go.isAgg t):=Clear.bind (Clear.underlying t) fun _=>by
 split
 ·exact Clear.pure _
 ·exact Clear.pure _
 ·exact Clear.pure _
theorem Clear.part(t:TypeId)(cs:Array Value)(i:Nat):Clear (Go.part t cs i):=by
 unfold Go.part;refine Clear.bind (Clear.isAgg _) fun b=> ?_;split
 ·exact Clear.bind (Clear.sizeOf _) fun _=>Clear.pure _
 ·split
  ·exact Clear.pure _
  ·exact Clear.halt _
theorem Clear.followBlind:∀(l:List FieldStep) (t:TypeId) (x:Option Value),Clear (Go.followBlind l t x)
 |[],t,x=>Clear.pure _
 |s::rest,t,x=>by
  unfold Go.followBlind;refine Clear.bind (Clear.underlying _) fun d=> ?_;split
  ·split
   ·split
    ·exact Clear.pure _
    ·exact Clear.followBlind rest _ _
    ·exact Clear.halt _
    ·exact Clear.pure _
    ·exact Clear.bind (Clear.part _ _ _) fun _=>Clear.followBlind rest _ _
    ·exact Clear.halt _
    ·exact Clear.followBlind rest _ _
   ·exact Clear.halt _
  ·exact Clear.halt _
theorem Clear.nilAhead:∀(n:Nat) (t:TypeId) (v:Value) (name:String),Clear (Go.nilAhead n t v name)
 |0,_,_,_=>Clear.pure _
 |n+1,t,v,name=>by
  unfold Go.nilAhead;refine Clear.bind (Clear.typeInfo _) fun i=> ?_;split
  ·refine Clear.bind (Clear.followBlind _ _ _) fun r=> ?_;split
   ·exact Clear.pure _
   ·split
    ·exact Clear.nilAhead n _ _ _
    ·exact Clear.pure _
    ·exact Clear.halt _
    ·exact Clear.pure _
    ·exact Clear.pure _
    ·refine Clear.bind (Clear.underlying _) fun d=> ?_;split<;>exact Clear.pure _
  ·exact Clear.halt _
def worldless(P:Program):Op→Bool
 | .move _| .assign _| .pick .. | .build .. | .indexAddr .. | .extract .. | .makeFunc .. | .nilCheck _=>true
 | .fieldAddr s _ f=>match P.underlying s with
  |some (.struct fs)=>match fs[f]? with
   |some g=>match P.info? g.type with
    |some i=>i.size !=0
    |none=>false
   |none=>false
  |_=>false
 |_=>false
theorem kD{P:Program}{ρ:Operand→Value}{o:Oper}(h:worldless P o.op=true){w w':World}{n:Next}(hr:(execOp ρ o).run P w= .ok n w'):
 ∀u,(execOp ρ o).run P u= .ok n u:=by
 have lift:∀(s:Sem Value),Clear s→(do pure (.value (←s)):Sem Next).run P w= .ok n w'→∀u,(do pure (.value (←s)):Sem Next).run P u= .ok n u:=
  fun s hs h u=>(Clear.bind hs (fun _=>Clear.pure _) P w n w' h).2 u
 cases ho:o.op<;>rw[ho]at h<;>simp[worldless]at h;case move x=>
  have e:execOp ρ o=Pure.pure (.value (ρ x)):=(by unfold execOp;rw[ho]);rw[e]at hr⊢;exact(Clear.pure _ P w n w' hr).2
 case assign x=>
  have e:execOp ρ o=Pure.pure (.value (ρ x)):=(by unfold execOp;rw[ho]);rw[e]at hr⊢;exact(Clear.pure _ P w n w' hr).2
 case nilCheck x=>
  have c:Clear (execOp ρ o):=by
   unfold execOp;rw[ho];dsimp only;split
   ·exact Clear.nilDeref
   ·exact Clear.nilDeref
   ·exact Clear.nilDeref
   ·split
    ·exact Clear.nilDeref
    ·refine Clear.bind Clear.program fun p=> ?_;refine Clear.bind (Clear.nilAhead _ _ _ _) fun r=> ?_;split
     ·exact Clear.bind (Clear.halt _) fun _=>Clear.pure _
     ·exact Clear.pure _
    ·exact Clear.pure _
   ·exact Clear.pure _
  exact(c P w n w' hr).2
 case pick c a b=>
  have e:execOp ρ o=(do Pure.pure (.value (if←asBool (ρ c)then ρ a else ρ b))):=(by unfold execOp;rw[ho]);rw[e]at hr⊢;exact(Clear.bind (Clear.asBool _) (fun _=>Clear.pure _) P w n w' hr).2
 case build t ps=>
  have e:execOp ρ o=(do Pure.pure (.value (←Instr.build t (ps.map fun(i,x)=>(i,ρ x))))):=(by unfold execOp;rw[ho]);rw[e]at hr⊢;exact lift _ (Clear.build _ _) hr
 case makeFunc fn a b=>
  have e:execOp ρ o=(do Pure.pure (.value (←Instr.makeFunc fn (a.map ρ) (b.map ρ)))):=(by unfold execOp;rw[ho]);rw[e]at hr⊢;exact lift _ (Clear.pure _) hr
 case indexAddr t x i=>
  have e:execOp ρ o=(do Pure.pure (.value (←Instr.indexAt t (ρ x) (ρ i)))):=(by unfold execOp;rw[ho]);rw[e]at hr⊢;exact lift _ (Clear.indexAt _ _ _) hr
 case extract t i=>
  have e:execOp ρ o=(do Pure.pure (.value (←Instr.extract (ρ t) i))):=(by unfold execOp;rw[ho]);rw[e]at hr⊢;exact lift _ (Clear.extract _ _) hr
 case fieldAddr s x f=>
  have e:execOp ρ o=(do Pure.pure (.value (←Instr.fieldAt s (ρ x) f))):=(by unfold execOp;rw[ho]);rw[e]at hr⊢;split at h;case h_2=>cases h
  case h_1 fs hu=>
   split at h;case h_2=>cases h
   case h_1 g hg=>
    split at h;case h_2=>cases h
    case h_1 i hi=>
     have hsz:i.size≠0:=(by simpa using h);have key:∀u,(Instr.fieldAt s (ρ x) f).run P u=(Instr.sureAddr (ρ x)>>=fun a=>Pure.pure (Value.pointer (some (a.add g.offset)))).run P u:=fun u=>by
      unfold Instr.fieldAt;rw[Sem.run_bind];have h1:(Go.underlying s).run P u= .ok (.struct fs) u:=(by simp[Go.underlying,Go.program,Sem.run,hu]);rw[h1];simp only[Result.andThen,hg];rw[Sem.run_bind,Sem.run_bind];congr 1;funext a u';have h2:(Go.fieldPlace a g).run P u'= .ok (a.add g.offset) u':=by
       unfold Go.fieldPlace;simp[Go.sizeOf,Go.typeInfo,Go.program,Sem.run,hi,hsz]
      rw[Sem.run_bind,h2];rfl
     have c:Clear (Instr.sureAddr (ρ x)>>=fun a=>(Pure.pure (Value.pointer (some (a.add g.offset))):Sem Value)):=Clear.bind (Clear.sureAddr _) fun _=>Clear.pure _;have both:∀u,(do Pure.pure (.value (←Instr.fieldAt s (ρ x) f)):Sem Next).run P u=(do Pure.pure (.value (←(Instr.sureAddr (ρ x)>>=fun a=>(Pure.pure (Value.pointer (some (a.add g.offset))):Sem Value)))):Sem Next).run P u:=fun u=>by
      rw[Sem.run_bind,Sem.run_bind,key u]
     intro u;exact(both u).trans (lift _ c ((both w).symm.trans hr) u)
def Ext(w w':World):Prop:=w.heap.size≤w'.heap.size∧∀b,b<w.heap.size→w'.heap[b]?=w.heap[b]?
theorem Ext.refl(w:World):Ext w w:=⟨Nat.le_refl _,fun _ _=>rfl⟩
theorem Ext.trans{a b c:World}(h:Ext a b)(h':Ext b c):Ext a c:=⟨Nat.le_trans h.1 h'.1,fun k hk=>(h'.2 k (Nat.lt_of_lt_of_le hk h.1)).trans (h.2 k hk)⟩
def Stb{α:Type}(e:Sem α):Prop:=∀(P:Program) w v w',e.run P w= .ok v w'→w'=w∧∀u,Ext w u→e.run P u= .ok v u
theorem Clear.stb{α:Type}{e:Sem α}(h:Clear e):Stb e:=fun P w v w' hr=>⟨(h P w v w' hr).1,fun u _=>(h P w v w' hr).2 u⟩
theorem Stb.bind{α β:Type}{e:Sem α}{f:α→Sem β}(he:Stb e)(hf:∀a,Stb (f a)):Stb (e>>=f):=fun P w v w' h=>by
 rw[Sem.run_bind]at h;cases hr:e.run P w with
 |halt x w1=>rw[hr]at h;simp[Result.andThen]at h
 |ok a w1=>
  rw[hr]at h;obtain⟨rfl,h1⟩:=he P w a w1 hr;simp only[Result.andThen]at h;obtain⟨rfl,h2⟩:=hf a P _ v w' h;exact⟨rfl,fun u hu=>by rw[Sem.run_bind,h1 u hu];simp only[Result.andThen];exact h2 u hu⟩
theorem Kk{P:Program}{w:World}{at_:Addr}{t:TypeId}{k:Addr}{b:Bool}{r}(h:w.seen P at_ t k b= .ok r):∃c e f,w.heap[at_.block]?=some (.cells c e f):=by
 cases hh:w.heap[at_.block]? with
 |none=>
  exfalso;unfold World.seen at h;rw[hh]at h;simp only[bind,Except.bind]at h;repeat' split at h
  all_goals first|cases h|(rename_i hx;cases hx)
 |some o=>
  cases o with
  |cells c e f=>exact⟨c,e,f,rfl⟩
  |_=>
   exfalso;unfold World.seen at h;rw[hh]at h;simp only[bind,Except.bind]at h;repeat' split at h
   all_goals first|cases h|(rename_i hx;cases hx)
theorem Gq{P:Program}{w u:World}{at_:Addr}{t:TypeId}{k:Addr}{b:Bool}(h:u.heap[at_.block]?=w.heap[at_.block]?):u.seen P at_ t k b=w.seen P at_ t k b:=by
 unfold World.seen;rw[h]
theorem lt_of_some{w:World}{b:Nat}{o:Obj}(h:w.heap[b]?=some o):b<w.heap.size:=(Array.getElem?_eq_some_iff.1 h).1
theorem Stb.load(a:Addr):Stb (Go.load a):=fun P w v w' h=>by
 unfold Go.load at h⊢;simp only[Sem.run]at h⊢;cases hc:w.cell? a with
 |some x=>
  rw[hc]at h;simp only[Result.ok.injEq]at h;obtain⟨rfl,rfl⟩:=h;refine⟨rfl,fun u hu=> ?_⟩;have hb:a.block<w.heap.size:=World.block_lt_of_cell? w a hc;rw[World.cell?_of_block (w:=w) (hu.2 _ hb),hc]
 |none=>
  rw[hc]at h;dsimp only at h;unfold World.farLoad at h⊢;cases hh:w.heap[a.block]? with
  |none=>rw[hh]at h;simp at h
  |some o=>
   have hb:=lt_of_some hh;have hcu:∀u,Ext w u→u.cell? a=none:=fun u hu=>(by rw[World.cell?_of_block (w:=w) (hu.2 _ hb),hc]);rw[hh]at h;cases o with
   |view at_ t=>
    dsimp only at h;cases hv:w.viewLoad P at_ t a (Mode.plain==Mode.atomic)with
    |error e=>rw[hv]at h;simp at h
    |ok r=>
     rw[hv]at h;dsimp only at h;simp only[Result.ok.injEq]at h;obtain⟨rfl,rfl⟩:=h;refine⟨rfl,fun u hu=> ?_⟩;rw[hcu u hu];dsimp only;rw[hu.2 _ hb,hh];dsimp only;have hs:∃r,w.seen P at_ t a (Mode.plain==Mode.atomic)= .ok r:=by
      cases hsn:w.seen P at_ t a (Mode.plain==Mode.atomic)with
      |error e=>unfold World.viewLoad at hv;rw[hsn]at hv;cases hv
      |ok r=>exact⟨r,rfl⟩
     obtain⟨r2,hs⟩:=hs;obtain⟨c,e,f,hcc⟩:=Kk hs;have hvu:u.viewLoad P at_ t a (Mode.plain==Mode.atomic)=w.viewLoad P at_ t a (Mode.plain==Mode.atomic):=by
      unfold World.viewLoad;rw[Gq (hu.2 _ (lt_of_some hcc))]
     rw[hvu,hv]
   |_=>simp at h
theorem Stb.loadCellsFrom(a:Addr):∀(n i:Nat) (acc:Array Value),Stb (Go.loadCellsFrom a i n acc)
 |0,i,acc=>by unfold Go.loadCellsFrom;exact(Clear.pure _).stb
 |n+1,i,acc=>by unfold Go.loadCellsFrom;exact Stb.bind (Stb.load _) fun v=>Stb.loadCellsFrom a n (i+1) _
theorem Stb.loadAt(t:TypeId)(v:Value):Stb (Instr.loadAt t v):=by
 unfold Instr.loadAt;refine Stb.bind (Clear.sureAddr v).stb fun a=> ?_;unfold Go.loadVar;refine Stb.bind (Clear.isAgg t).stb fun b=> ?_;split
 ·exact Stb.bind (Clear.sizeOf t).stb fun n=>Stb.bind (by unfold Go.loadCells;exact Stb.loadCellsFrom a n 0 _) fun _=>(Clear.pure _).stb
 ·exact Stb.load a
def Grow{α:Type}(e:Sem α):Prop:=∀(P:Program) w v w',e.run P w= .ok v w'→Ext w w'
theorem Clear.grow{α:Type}{e:Sem α}(h:Clear e):Grow e:=fun P w v w' hr=>by rw[(h P w v w' hr).1];exact Ext.refl _
theorem Grow.bind{α β:Type}{e:Sem α}{f:α→Sem β}(he:Grow e)(hf:∀a,Grow (f a)):Grow (e>>=f):=fun P w v w' h=>by
 rw[Sem.run_bind]at h;cases hr:e.run P w with
 |halt x w1=>rw[hr]at h;simp[Result.andThen]at h
 |ok a w1=>
  rw[hr]at h;simp only[Result.andThen]at h;exact(he P w a w1 hr).trans (hf a P _ v w' h)
theorem Grow.newObj(o:Obj):Grow (Go.newObj o):=fun P w v w' h=>by
 unfold Go.newObj at h;simp only[Sem.run,Result.ok.injEq]at h;obtain⟨_,rfl⟩:=h;refine⟨by simp,fun b hb=> ?_⟩;show(w.heap.push o)[b]?=_;rw[Array.getElem?_push,if_neg (by omega)]
theorem Grow.newVar(t:TypeId)(v:Value):Grow (Go.newVar t v):=by
 unfold Go.newVar Go.newRow;exact Grow.bind (Grow.newObj _) fun _=>(Clear.pure _).grow
def gM:Op→Bool
 | .alloc _| .box .. | .buildSlice .. =>true
 |_=>false
theorem CV{P:Program}{ρ:Operand→Value}{o:Oper}(h:gM o.op=true){w w':World}{n:Next}(hr:(execOp ρ o).run P w= .ok n w'):Ext w w'∧∃v,n= .value v:=by
 have lift:∀(s:Sem Value),Grow s→(do Pure.pure (.value (←s)):Sem Next).run P w= .ok n w'→Ext w w'∧∃v,n= .value v:=fun s hs hr=>by
  refine⟨Grow.bind hs (fun _=>(Clear.pure _).grow) P w n w' hr,?_⟩;rw[Sem.run_bind]at hr;cases h1:s.run P w with
  |halt x w1=>rw[h1]at hr;simp[Result.andThen]at hr
  |ok a w1=>rw[h1]at hr;simp[Result.andThen]at hr;exact⟨a,hr.1.symm⟩
 cases ho:o.op<;>rw[ho]at h<;>simp[gM]at h;case alloc t=>
  have e:execOp ρ o=(do Pure.pure (.value (←Instr.alloc t true (.tuple #[])))):=(by unfold execOp;rw[ho]);rw[e]at hr;refine lift _ ?_ hr;unfold Instr.alloc;refine Grow.bind (Clear.zeroValue t).grow fun z=> ?_;exact Grow.bind (Grow.newVar _ _) fun _=>(Clear.pure _).grow
 case box t x=>
  have e:execOp ρ o=(do Pure.pure (.value (←Instr.box t (ρ x)))):=(by unfold execOp;rw[ho]);rw[e]at hr;refine lift _ ?_ hr;unfold Instr.box;exact Grow.bind (Grow.newVar _ _) fun _=>(Clear.pure _).grow
 case buildSlice t k ps=>
  have e:execOp ρ o=(do Pure.pure (.value (←Instr.buildSlice t k (ps.map fun(i,x)=>(i,ρ x))))):=(by unfold execOp;rw[ho]);rw[e]at hr;refine lift _ ?_ hr;unfold Instr.buildSlice;refine Grow.bind (Clear.underlying t).grow fun d=> ?_;split
  ·refine Grow.bind (Clear.sizeOf _).grow fun sz=> ?_
   extract_lets jp jp2
   have hj:∀z,Grow (jp z):=by
    intro z;dsimp only[jp];split
    ·exact Grow.bind (by unfold Go.newRow;exact Grow.bind (Grow.newObj _) fun _=>(Clear.pure _).grow) fun _=>(Clear.pure _).grow
    ·exact(Clear.halt _).grow
   have hj2:∀u,Grow (jp2 u):=by
    intro u;dsimp only[jp2];split
    ·exact Grow.bind (Clear.pure _).grow hj
    ·exact Grow.bind (Clear.zeroValue _).grow fun _=>Grow.bind (Clear.pure _).grow hj
   split
   ·exact Grow.bind (Clear.halt _).grow hj2
   ·exact hj2 ()
  ·exact(Clear.halt _).grow
def ni:Op→Bool
 | .move _| .assign _| .pick .. | .build .. | .load .. | .binOp .. | .unOp .. | .convert .. | .slice .. | .fieldAddr .. | .field .. | .indexAddr .. | .index .. | .extract .. | .makeFunc .. =>true
 | .call {callee:= .builtin b,..}=>match b with| .len| .cap| .min| .max=>true|_=>false
 | .nilCheck _=>true
 |_=>false
def Val(s:Sem Next):Prop:=∀(P:Program) w n w',s.run P w= .ok n w'→∃v,n= .value v
theorem Val.pure(u:Value):Val (Pure.pure (.value u)):=fun P w n w' h=>by
 simp at h;exact⟨u,h.1.symm⟩
theorem Val.halt(x:Halt):Val (Sem.halt x):=fun P w n w' h=>by simp[Sem.run]at h
theorem Val.bind{α:Type}{e:Sem α}{f:α→Sem Next}(hf:∀a,Val (f a)):Val (e>>=f):=fun P w n w' h=>by
 rw[Sem.run_bind]at h;cases hr:e.run P w with
 |halt x w1=>rw[hr]at h;simp[Result.andThen]at h
 |ok a w1=>
  rw[hr]at h;exact hf a P _ _ _ h
theorem Val.panic(x:RuntimeError):Val (runtimePanic x):=by
 unfold runtimePanic;refine Val.bind fun p=> ?_;cases x<;>first|exact Val.halt _|exact Val.bind fun _=>Val.bind fun _=>Val.halt _
theorem jP{P:Program}{ρ:Operand→Value}{o:Oper}(h:ni o.op=true){w w':World}{n:Next}(hr:(execOp ρ o).run P w= .ok n w'):∃v,n= .value v:=by
 suffices hv:Val (execOp ρ o) from hv P w n w' hr
 clear hr;unfold execOp;cases ho:o.op<;>rw[ho]at h<;>simp[ni]at h;case call c=>
  obtain⟨callee,args,ats⟩:=c;cases callee with
  |value f=>simp at h
  |invoke r m=>simp at h
  |builtin b=>
   intro P w n w' hr;rw[Sem.run_bind]at hr;simp only[resolve,Sem.run_pure,Result.andThen_ok,invoke,builtin]at hr;cases b<;>simp at h<;>exact(Val.bind fun _=>Val.pure _) P _ _ _ hr
 case nilCheck x=>
  dsimp only;split
  ·exact Val.panic _
  ·exact Val.panic _
  ·exact Val.panic _
  ·split
   ·exact Val.panic _
   ·refine Val.bind fun p=>Val.bind fun b=> ?_
    extract_lets
    split
    ·exact Val.bind fun _=>Val.pure _
    ·exact Val.pure _
   ·exact Val.pure _
  ·exact Val.pure _
 all_goals first
  |exact Val.pure _
  |exact Val.bind fun _=>Val.pure _
section
variable{P:Program}{ops:Array Oper}{Q:Exit→Act→World→Prop}{md:Region.Mode}
def bf(md:Region.Mode)(ops:Array Oper):Nat→Nat→Nat→Bool
 |0,_,_=>false
 |f+1,j,i=>match ops[j]? with
  |some oj=>oj.after.any fun e=>Region.binds md e&&(e.on==i||bf md ops f e.on i)
  |none=>false
def Closed(md:Region.Mode)(ops:Array Oper)(listed:Array Bool):Prop:=
 ∀(j:Nat) oj,ops[j]?=some oj→listed.getD j false=true→∀e∈oj.after,Region.binds md e=true→listed.getD e.on false=true
theorem Closed.start(md:Region.Mode)(ops:Array Oper)(n:Nat):Closed md ops (Array.replicate n false):=fun j oj _ h=>by
 rw[getD_replicate_false]at h;cases h
theorem Closed.aM{listed:Array Bool}{i:Nat}(h:Closed md ops listed)(hi:i∈Region.ready md ops listed):Closed md ops (listed.setIfInBounds i true):=by
 obtain⟨_,oi,hoi,hall⟩:=mem_ready.1 hi;intro j oj hj hl e he hb;by_cases hij:i=j
 ·subst hij;have:oj=oi:=Option.some.inj (hj.symm.trans hoi);subst this;exact getD_set_true (hall e he hb)
 ·rw[getD_set_ne false hij]at hl;exact getD_set_true (h j oj hj hl e he hb)
theorem Closed.waits{listed:Array Bool}(h:Closed md ops listed):∀(f j i:Nat),bf md ops f j i=true→listed.getD j false=true→listed.getD i false=true
 |0,_,_,hw,_=>by cases hw
 |f+1,j,i,hw,hl=>by
  unfold bf at hw;split at hw
  ·rename_i oj hoj;obtain⟨e,he,hb⟩:=Array.any_eq_true'.1 hw;simp only[Bool.and_eq_true,Bool.or_eq_true,beq_iff_eq]at hb;have h1:=h j oj hoj hl e he hb.1;rcases hb.2 with h2|h2
   ·rw[←h2];exact h1
   ·exact Closed.waits h f _ _ h2 h1
  ·cases hw
theorem Closed.ready{listed:Array Bool}(h:Closed md ops listed){f j i:Nat}(hw:bf md ops f j i=true)(hj:j∈Region.ready md ops listed):listed.getD i false=true:=by
 obtain⟨_,oj,hoj,hall⟩:=mem_ready.1 hj;cases f with
 |zero=>cases hw
 |succ f=>
  unfold bf at hw;rw[hoj]at hw;obtain⟨e,he,hb⟩:=Array.any_eq_true'.1 hw;simp only[Bool.and_eq_true,Bool.or_eq_true,beq_iff_eq]at hb;have h1:=hall e he hb.1;rcases hb.2 with h2|h2
  ·rw[←h2];exact h1
  ·exact h.waits f _ _ h2 h1
def oZ(P:Program)(md:Region.Mode)(ops:Array Oper)(Q:Exit→Act→World→Prop)(cls:Nat→Nat):Nat→Array Bool→Act→World→Prop
 |0,listed,a,w=>Region.ready md ops listed=[]∧Q .normal a w
 |fuel+1,listed,a,w=>
  (Region.ready md ops listed=[]→Q .normal a w)∧
  ∀i∈Region.ready md ops listed,wpOp P ops Q i (fun a' w'=>((cls i=0→w'=w)∧(cls i=1→Ext w w'))∧oZ P md ops Q cls fuel (listed.setIfInBounds i true) a' w') a w
theorem rW{cls:Nat→Nat}:∀(fuel:Nat) (listed:Array Bool) (a:Act) (w:World),oZ P md ops Q cls fuel listed a w→wpAny P md ops Q fuel listed a w
 |0,_,_,_,h=>h
 |fuel+1,_,_,_,h=>⟨h.1,fun i hi=>wpOp_mono (fun a' w' h'=>rW fuel _ a' w' h'.2) (h.2 i hi)⟩
theorem dP {cls:Nat→Nat} {S:World→Prop} {i:Nat} {oi:Oper} {v:Value} (hi:ops[i]?=some oi) (hsel:∀(j:Nat) (o:Oper) cs b,ops[j]?=some o→o.op≠ .select cs b)
 (hQ:∀c a w,Q (.panic c) (a.put oi.dst v) w→Q (.panic c) a w)
 (hkeep:∀(listed:Array Bool) (j:Nat),Closed md ops listed→j∈Region.ready md ops listed→listed.getD i false=false→∀w w',S w→(cls j=0→w'=w)∧(cls j=1→Ext w w')→S w'):
 ∀(fuel:Nat) (listed:Array Bool) (a:Act) (w:World),Closed md ops listed→
  (∀j oj,ops[j]?=some oj→j≠i→listed.getD j true=false→(∀e∈oj.after,Region.binds md e=true→e.on≠i)→oi.apart ops oj=true)→
  i∈Region.ready md ops listed→YieldsIf P ops S oi v a→S w→
  oZ P md ops Q cls fuel (listed.setIfInBounds i true) (a.put oi.dst v) w→oZ P md ops Q cls (fuel+1) listed a w:=by
 intro fuel
 induction fuel with
 |zero=>
  intro listed a w _ _ hr hy hS H;refine⟨fun h=>(by rw[h]at hr;cases hr),fun j hj=> ?_⟩;by_cases hji:j=i
  ·subst hji;exact hy.wpOp hi hS ⟨⟨fun _=>rfl,fun _=>Ext.refl _⟩,H⟩
  ·have:=ready_mono hj hji;rw[H.1]at this;cases this
 |succ fuel ih=>
  intro listed a w hcl hfree hr hy hS H;refine⟨fun h=>(by rw[h]at hr;cases hr),fun j hj=> ?_⟩;by_cases hji:j=i
  ·subst hji;exact hy.wpOp hi hS ⟨⟨fun _=>rfl,fun _=>Ext.refl _⟩,H⟩
  ·have h1:=H.2 j (ready_mono hj hji);obtain⟨hjun,oj,hoj,hall⟩:=mem_ready.1 hj;have SN:listed.getD i false=false:=getD_both (mem_ready.1 hr).1;have hnot:∀e∈oj.after,Region.binds md e=true→e.on≠i:=fun e he hb heq=>by
    have h1:=hall e he hb;rw[heq,SN]at h1;cases h1
   have h2:=wpOp_putIf hoj (hfree j oj hoj hji hjun hnot) (fun cs b=>hsel i oi cs b hi) (fun cs b=>hsel j oj cs b hoj) hQ hy h1;have hfree':∀k ok,ops[k]?=some ok→k≠i→(listed.setIfInBounds j true).getD k true=false→
    (∀e∈ok.after,Region.binds md e=true→e.on≠i)→oi.apart ops ok=true:=fun k ok hk hki hun hno=>by
    refine hfree k ok hk hki ?_ hno;by_cases hjk:j=k
    ·subst hjk;exact hjun
    ·rw[getD_set_ne true hjk]at hun;exact hun
   refine wpOp_mono (fun a' w' h3=> ?_) h2;obtain⟨hy',hc,hP⟩:=h3;refine⟨hc,ih (listed.setIfInBounds j true) a' w' (hcl.aM hj) hfree' (ready_mono hr (Ne.symm hji)) hy' (hkeep listed j hcl hj SN w w' hS hc) ?_⟩;rw[Array.setIfInBounds_comm _ _ hji];exact hP
def bP{α:Type}(e:Sem α):Prop:=∀(P:Program) w es,noRoomEvent∈(e.runT P w es).2→noRoomEvent∈es
theorem bP.pure{α:Type}(a:α):bP (Pure.pure a:Sem α):=fun P w es h=>by
 have:(Pure.pure a:Sem α)=Sem.pure a:=rfl;rw[this]at h;simpa only[Sem.runT]using h
theorem bP.halt{α:Type}(x:Halt):bP (Sem.halt x:Sem α):=fun P w es h=>by simpa only[Sem.runT]using h
theorem bP.program:bP Go.program:=fun P w es h=>by
 unfold Go.program at h;simpa only[Sem.runT]using h
theorem bP.bind{α β:Type}{e:Sem α}{f:α→Sem β}(he:bP e)(hf:∀a,bP (f a)):bP (e>>=f):=fun P w es h=>by
 have:(e>>=f)=e.bind f:=rfl;rw[this,Sem.runT_bind']at h;have h1:=he P w es;generalize e.runT P w es=r at h h1;obtain⟨r,es'⟩:=r;cases r with
 |ok a w'=>exact h1 (hf a P w' es' h)
 |halt x w'=>exact h1 h
theorem bP.underlying(t:TypeId):bP (Go.underlying t):=bP.bind bP.program fun p=>by
 split
 ·exact bP.pure _
 ·exact bP.halt _
def nu:Op→Bool
 | .move _| .assign _| .pick .. | .extract .. =>true
 |_=>false
theorem yO{P:Program}{o:Op}(h:nu o=true):worldless P o=true:=by
 cases o<;>simp_all [nu,worldless]
theorem Gs{o:Op}(h:nu o=true):ni o=true:=by
 cases o<;>simp_all [nu,ni]
theorem Kl{P:Program}{ρ:Operand→Value}{o:Oper}(h:nu o.op=true):(∀w x w',(execOp ρ o).run P w≠ .halt (.panic x) w')∧∀w,noRoomEvent∉((execOp ρ o).runT P w #[]).2:=by
 have no:∀{e:Sem Next},bP e→∀w,noRoomEvent∉(e.runT P w #[]).2:=fun h w hh=>(by have:=h P w #[] hh;simp at this);cases ho:o.op<;>rw[ho]at h<;>simp[nu]at h;case move x=>
  have e:execOp ρ o=Pure.pure (.value (ρ x)):=(by unfold execOp;rw[ho]);rw[e];exact⟨fun w x w'=>by simp,no (bP.pure _)⟩
 case assign x=>
  have e:execOp ρ o=Pure.pure (.value (ρ x)):=(by unfold execOp;rw[ho]);rw[e];exact⟨fun w x w'=>by simp,no (bP.pure _)⟩
 case pick c a b=>
  have e:execOp ρ o=(do Pure.pure (.value (if←asBool (ρ c)then ρ a else ρ b))):=(by unfold execOp;rw[ho]);rw[e];have hb:bP (asBool (ρ c)):=by
   unfold asBool;split
   ·exact bP.pure _
   ·exact bP.halt _
  refine⟨fun w x w'=> ?_,no (bP.bind hb fun _=>bP.pure _)⟩;rw[Sem.run_bind];unfold asBool;split<;>simp[stuck,Result.andThen]
 case extract t i=>
  have e:execOp ρ o=(do Pure.pure (.value (←Instr.extract (ρ t) i))):=(by unfold execOp;rw[ho]);rw[e];have hb:bP (Instr.extract (ρ t) i):=by
   unfold Instr.extract;split
   ·split
    ·exact bP.pure _
    ·exact bP.halt _
   ·exact bP.halt _
  refine⟨fun w x w'=> ?_,no (bP.bind hb fun _=>bP.pure _)⟩;rw[Sem.run_bind];unfold Instr.extract;split
  ·split<;>simp[stuck,Result.andThen]
  ·simp[stuck,Result.andThen]
theorem pz{t:Nat}{o:Oper}{a:Act}{w:World}{K:Act→World→Prop}(ho:ops[t]?=some o)(hc:nu o.op=true)(h:wpOp P ops Q t K a w):
 ∃v,YieldsIf P ops (fun _=>True) o v a∧K (a.put o.dst v) w:=by
 unfold wpOp at h;rw[ho]at h;dsimp only at h;by_cases hw:Region.wanted o (yielded ops a.tmps)=true
 ·rw[if_pos hw]at h;obtain⟨hp,hm⟩:=Kl (P:=P) (ρ:=a.eval) hc;rcases h with h|⟨⟨h,_⟩,_⟩
  ·unfold Oper.wp at h;generalize hr:(execOp a.eval o).run P w=r at h;cases r with
   |halt x w'=>cases x<;>simp only[Oper.upon]at h;exact absurd hr (hp w _ w')
   |ok n w'=>
    obtain⟨v,rfl⟩:=jP (Gs hc) hr;have hall:=kD (yO (P:=P) hc) hr;have hww:w'=w:=(by have:=(hall w).symm.trans hr;injection this with _ e;exact e.symm);subst hww;exact⟨v,.inl ⟨hw,fun u _=>hall u⟩,h⟩
  ·exact absurd h (hm w)
 ·rw[if_neg hw]at h;exact⟨undef,.inr ⟨by simpa using hw,rfl⟩,h⟩
theorem yP{t:Nat}{o:Oper}{a:Act}{w:World}{K:Act→World→Prop}(ho:ops[t]?=some o)(hc:gM o.op=true)(h:wpOp P ops Q t K a w):wpOp P ops Q t (fun a' w'=>Ext w w'∧K a' w') a w:=by
 unfold wpOp at*;rw[ho]at h⊢;dsimp only at*;by_cases hw:Region.wanted o (yielded ops a.tmps)=true
 ·rw[if_pos hw]at h⊢;refine h.imp (fun h=> ?_) id;unfold Oper.wp at*;generalize hr:(execOp a.eval o).run P w=r at*;cases r with
  |halt x w'=>cases x<;>simp only[Oper.upon]at h⊢<;>exact h
  |ok n w'=>
   obtain⟨he,v,rfl⟩:=CV hc hr;exact⟨he,h⟩
 ·rw[if_neg hw]at h⊢;exact⟨Ext.refl _,h⟩
def fU(ops:Array Oper)(ts:List Nat)(j:Nat):Nat:=
 if ts.contains j then(match ops[j]? with|some o=>if gM o.op then 1 else 2|none=>2)else 0
def Ei(md:Region.Mode)(ops:Array Oper):List Nat→Array Bool→Bool
 |[],listed=>(Region.ready md ops listed).isEmpty
 |t::ts,listed=>(Region.ready md ops listed==[t]||
  ((Region.ready md ops listed).contains t&&Region.free md ops listed t&&(match ops[t]? with|some o=>nu o.op|none=>false)))&&Ei md ops ts (listed.setIfInBounds t true)
theorem pE{us:List Nat}(hQ:∀c a (d:Option Tmp) v w,Q (.panic c) (a.put d v) w→Q (.panic c) a w)(hs:Region.noSelect ops=true):∀(ts:List Nat) (listed:Array Bool) (a:Act) (w:World),Closed md ops listed→(∀t∈ts,us.contains t=true)→Ei md ops ts listed=true→
 wpOps P ops Q ts a w→oZ P md ops Q (fU ops us) ts.length listed a w
 |[],_,_,_,_,_,hB,h=>⟨by simpa[Ei]using hB,h⟩
 |t::ts,listed,a,w,hcl,hf,hB,h=>by
  simp only[Ei,Bool.and_eq_true,Bool.or_eq_true,beq_iff_eq]at hB;rw[wpOps_cons]at h;have hc0:fU ops us t≠0:=by
   unfold fU;rw[if_pos (hf t (by simp))];split
   ·split<;>simp
   ·simp
  have h1:wpOp P ops Q t (fun a' w'=>(fU ops us t=1→Ext w w')∧wpOps P ops Q ts a' w') a w:=by
   cases ho:ops[t]? with
   |none=>unfold wpOp at*;rw[ho]at h⊢;exact⟨fun _=>Ext.refl _,h⟩
   |some o=>
    by_cases hal:gM o.op=true
    ·exact wpOp_mono (fun a' w' h=>⟨fun _=>h.1,h.2⟩) (yP ho hal h)
    ·refine wpOp_mono (fun a' w' h=>⟨fun h1=> ?_,h⟩) h;unfold fU at h1;rw[if_pos (hf t (by simp)),ho]at h1;simp[hal]at h1
  rcases hB.1 with hB1|⟨⟨hr,hfr⟩,hc⟩
  ·refine⟨fun h0=>(by rw[hB1]at h0;cases h0),fun i hi=> ?_⟩;have hi':=hi;rw[hB1]at hi;have:i=t:=(by simpa using hi);subst this;exact wpOp_mono (fun a' w' h'=>⟨⟨fun h0=>absurd h0 hc0,h'.1⟩,pE hQ hs ts _ a' w' (hcl.aM hi') (fun t ht=>hf t (by simp[ht])) hB.2 h'.2⟩) h1
  ·have hr':t∈Region.ready md ops listed:=(by simpa using hr);cases ho:ops[t]? with
   |none=>rw[ho]at hc;cases hc
   |some o=>
    rw[ho]at hc;obtain⟨v,hy,hK⟩:=pz ho hc h;exact dP (S:=fun _=>True) ho (Region.noSelect_spec hs) (fun c a w=>hQ c a _ _ w) (fun _ _ _ _ _ _ _ _ _=>trivial) _ listed a w hcl (Region.free_spec ho hfr) hr' hy trivial
     (pE hQ hs ts _ _ w (hcl.aM hr') (fun t ht=>hf t (by simp[ht])) hB.2 hK)
def lV:Op→Bool
 | .load .. =>true
 |_=>false
def CW(P:Program)(md:Region.Mode)(ops:Array Oper)(ts:List Nat):List Nat→Array Bool→Bool
 |[],listed=>Ei md ops ts listed
 |i::es,listed=>(Region.ready md ops listed).contains i&&Region.free md ops listed i&& !ts.contains i&&
  (match ops[i]? with
   |some o=>ni o.op&&(worldless P o.op||(ts.all fun j=>bf md ops ops.size j i||(lV o.op&&(match ops[j]? with|some oj=>gM oj.op|none=>false))))
   |none=>false)&&
  CW P md ops ts es (listed.setIfInBounds i true)
theorem lF {o:Oper} {a:Act} {K:Act→Prop} {w:World} (hv:ni o.op=true)
 (h:if Region.wanted o (yielded ops a.tmps)then o.still P a w K else K (a.put o.dst undef)):
 ∃v,YieldsIf P ops (fun u=>u=w) o v a∧(worldless P o.op=true→YieldsIf P ops (fun _=>True) o v a)∧(lV o.op=true→YieldsIf P ops (fun u=>Ext w u) o v a)∧K (a.put o.dst v):=by
 by_cases hw:Region.wanted o (yielded ops a.tmps)=true
 ·rw[if_pos hw]at h;unfold Oper.still at h;generalize hr:(execOp a.eval o).run P w=r at h;cases r with
  |halt x w'=>simp only[Oper.stillUpon]at h
  |ok n w'=>
   obtain⟨v,rfl⟩:=jP hv hr;simp only[Oper.stillUpon]at h;obtain⟨rfl,hK⟩:=h;refine⟨v,.inl ⟨hw,fun u hu=>by rw[hu];exact hr⟩,fun hl=> .inl ⟨hw,fun u _=>kD hl hr u⟩,fun hl=> .inl ⟨hw,fun u hu=> ?_⟩,hK⟩;cases ho:o.op<;>rw[ho]at hl<;>simp[lV]at hl;case load t x=>
    have e:execOp a.eval o=(do Pure.pure (.value (←Instr.loadAt t (a.eval x)))):=(by unfold execOp;rw[ho]);rw[e]at hr⊢;exact(Stb.bind (Stb.loadAt _ _) (fun _=>(Clear.pure _).stb) P _ _ _ hr).2 u hu
 ·rw[if_neg hw]at h;exact⟨undef,.inr ⟨by simpa using hw,rfl⟩,fun _=> .inr ⟨by simpa using hw,rfl⟩,fun _=> .inr ⟨by simpa using hw,rfl⟩,h⟩
theorem tN{w:World}(hQ:∀c a (d:Option Tmp) v w,Q (.panic c) (a.put d v) w→Q (.panic c) a w)(hs:Region.noSelect ops=true)(ts:List Nat):∀(es:List Nat) (listed:Array Bool) (a:Act),Closed md ops listed→
 CW P md ops ts es listed=true→wpStill P ops w (fun a'=>wpOps P ops Q ts a' w) (es.filterMap (ops[·]?)) a→oZ P md ops Q (fU ops ts) (es.length+ts.length) listed a w
 |[],listed,a,hcl,hB,h=>by
  simp only[List.length_nil,Nat.zero_add];exact pE hQ hs ts listed a w hcl (fun t ht=>by simpa using ht) hB h
 |i::es,listed,a,hcl,hB,h=>by
  simp only[CW,Bool.and_eq_true]at hB;obtain⟨⟨⟨⟨hr,hf⟩,hnt⟩,hk⟩,hrest⟩:=hB;have hr':i∈Region.ready md ops listed:=(by simpa using hr);cases ho:ops[i]? with
  |none=>rw[ho]at hk;cases hk
  |some o=>
   rw[ho]at hk;simp only[Bool.and_eq_true,Bool.or_eq_true]at hk;rw[List.filterMap_cons_some ho]at h;obtain⟨v,hy,hy0,hyl,hK⟩:=lF (K:=wpStill P ops w (fun a'=>wpOps P ops Q ts a' w) (es.filterMap (ops[·]?))) hk.1 h;have IH:=tN hQ hs ts es (listed.setIfInBounds i true) _ (hcl.aM hr') hrest hK;rw[List.length_cons,show es.length+1+ts.length=(es.length+ts.length)+1 by omega];rcases hk.2 with hl|hl
   ·exact dP (S:=fun _=>True) ho (Region.noSelect_spec hs) (fun c a w=>hQ c a _ _ w) (fun _ _ _ _ _ _ _ _ _=>trivial) _ listed a w hcl (Region.free_spec ho hf) hr' (hy0 hl) trivial IH
   ·by_cases hld:lV o.op=true
    ·refine dP (S:=fun u=>Ext w u) ho (Region.noSelect_spec hs) (fun c a w=>hQ c a _ _ w) (fun listed' j hcl' hj hun u u' hu hc=> ?_) _ listed a w hcl (Region.free_spec ho hf) hr' (hyl hld) (Ext.refl _) IH;cases hfj:ts.contains j with
     |false=>
      have:fU ops ts j=0:=(by unfold fU;rw[if_neg (by rw[hfj];simp)]);rw[hc.1 this];exact hu
     |true=>
      have hwj:=List.all_eq_true.1 hl j (by simpa using hfj);simp only[Bool.or_eq_true,Bool.and_eq_true]at hwj;rcases hwj with hwj|⟨_,hwj⟩
      ·rw[hcl'.ready hwj hj]at hun;cases hun
      ·cases hoj:ops[j]? with
       |none=>rw[hoj]at hwj;cases hwj
       |some oj=>
        rw[hoj]at hwj;have:fU ops ts j=1:=(by unfold fU;rw[if_pos hfj,hoj];simp[hwj]);exact hu.trans (hc.2 this)
    ·refine dP (S:=fun u=>u=w) ho (Region.noSelect_spec hs) (fun c a w=>hQ c a _ _ w) (fun listed' j hcl' hj hun u u' hu hc=> ?_) _ listed a w hcl (Region.free_spec ho hf) hr' hy rfl IH;cases hfj:ts.contains j with
     |false=>
      have:fU ops ts j=0:=(by unfold fU;rw[if_neg (by rw[hfj];simp)]);rw[hc.1 this];exact hu
     |true=>
      have hwj:=List.all_eq_true.1 hl j (by simpa using hfj);simp only[Bool.or_eq_true,Bool.and_eq_true]at hwj;rcases hwj with hwj|⟨h2,_⟩
      ·rw[hcl'.ready hwj hj]at hun;cases hun
      ·exact absurd h2 hld
def QT(P:Program)(ops:Array Oper)(es ts:List Nat):Bool:=
 Region.noSelect ops&&(es.length+ts.length==ops.size)&&CW P .any ops ts es (Array.replicate ops.size false)
theorem AA(ts:List Nat):∀(a:Act) (w:World),wpList P ops Q (ts.filterMap (ops[·]?)) a w→wpOps P ops Q ts a w:=by
 induction ts with
 |nil=>intro a w h;exact h
 |cons t ts ih=>
  intro a w h;rw[wpOps_cons];unfold wpOp;cases ho:ops[t]? with
  |none=>
   rw[List.filterMap_cons_none ho]at h;exact ih a w h
  |some o=>
   rw[List.filterMap_cons_some ho]at h;unfold wpList at h;dsimp only;split at h
   ·rename_i hw;rw[if_pos hw];exact h.imp (Oper.wp_mono fun a w=>ih a w) id
   ·rename_i hw;rw[if_neg hw];exact ih _ _ h
theorem nA{w:World}{K K':Act→Prop}(hk:∀a,K a→K' a):∀(os:List Oper) (a:Act),wpStill P ops w K os a→wpStill P ops w K' os a
 |[],a,h=>hk a h
 |o::os,a,h=>by
  unfold wpStill at h⊢;by_cases hw:Region.wanted o (yielded ops a.tmps)=true
  ·rw[if_pos hw]at h⊢;exact Oper.still_mono (fun a h=>nA hk os a h) h
  ·rw[if_neg hw]at h⊢;exact nA hk os _ h
theorem eB {id:Nat} {a:Act} {w:World} {l:List Oper} (es ts:List Nat) (hm:P.follows .mixedOrders=true) (hB:QT P l.toArray es ts=true)
 (hQ:∀c a (d:Option Tmp) v w,Q (.panic c) (a.put d v) w→Q (.panic c) a w)
 (h:wpStill P l.toArray w.drew (fun a'=>wpList P l.toArray Q (ts.filterMap (l[·]?)) a' w.drew) (es.filterMap (l[·]?)) a):(Code.region id l.toArray true).wp P Q a w:=by
 simp only[QT,Bool.and_eq_true,beq_iff_eq]at hB;obtain⟨⟨hs,hn⟩,hE⟩:=hB;refine wp_region_any hm (rW (cls:=fU l.toArray ts) _ _ _ _ ?_);rw[←hn];refine tN (w:=w.drew) hQ hs ts es _ a (Closed.start _ _ _) (by rw[hn];exact hE) ?_;have e1:(fun(i:Nat)=>l.toArray[i]?)=fun(i:Nat)=>l[i]?:=(by funext i;simp);rw[e1];refine nA (fun a' h=>AA ts a' _ ?_) _ _ h;rw[e1];exact h
end
end Go.Inq
