/-
  Plain words of layer 21: the order of each key's writes; rows, their choices, and the graph that they make; no program in sight.
-/
import Derived.Test.YtfhnamomiaekdaaGreatDoorU23
import Derived.Test.YtfhnamomiaekdaaGreatDoorU05
import Derived.Test.YtfhnamomiaekdaaGreatDoorU02
set_option linter.unusedVariables false
set_option linter.unusedSimpArgs false
namespace Go.Proofs.YtfhnamomiaekdaaGreatDoor
open Go.RowKit Go.Inq
structure aS where
 key:Int
 l:List Int
deriving DecidableEq
def iV(l:List Nat):List Int:=l.map fun(x:Nat)=>(x:Int)
def pG(l:List Int):List Int:=l.mergeSort fun x y=>decide (x≤y)
def yT(H:List Txn)(π:List Int)(k:Int):aS:=⟨k,π.filter fun t=>(aG H t.toNat).writes.contains k⟩
def gJ(H:List Txn)(π:List Int):List aS:=if aA H=true∧bA π H.length=true then(cZ H).map (yT H π)else[]
def fH(H:List Txn)(R:List aS):Bool:=aA H&&decide (R.map (·.key)=cZ H)&&R.all fun r=>decide (pG r.l=iV (bH H r.key))
def TK(H:List Txn)(r:aS):List Cho:=(dV r.key (bH H r.key)).map (ofC r.l)
def tT(H:List Txn)(R:List aS):List Cho:=if fH H R then(R.map (TK H)).flatten else[]
theorem yU(l:List Int):(pG l).Pairwise (·≤·):=by
 unfold pG;refine(List.pairwise_mergeSort (le:=fun x y=>decide (x≤y)) (fun a b c h1 h2=> ?_) (fun a b=> ?_) l).imp fun h=>by simpa using h
 ·rw[decide_eq_true_eq]at h1 h2⊢;omega
 ·rw[Bool.or_eq_true,decide_eq_true_eq,decide_eq_true_eq];omega
theorem nM(l:List Int):(pG l).Perm l:=List.mergeSort_perm l _
theorem uV:∀{a b:List Int},a.Pairwise (·≤·)→b.Pairwise (·≤·)→a.Perm b→a=b
 |[],b,_,_,h=>by rw[h.nil_eq]
 |x::a,[],_,_,h=>by have:=h.length_eq;simp at this
 |x::a,y::b,ha,hb,h=>by
  rw[List.pairwise_cons]at ha hb;have hx:x∈y::b:=h.mem_iff.1 (by simp);have hy:y∈x::a:=h.mem_iff.2 (by simp);have hxy:x=y:=by
   rw[List.mem_cons]at hx hy;rcases hx with rfl|hx
   ·rfl
   ·rcases hy with rfl|hy
    ·rfl
    ·have h1:=hb.1 x hx;have h2:=ha.1 y hy;omega
  subst hxy;rw[uV ha.2 hb.2 ((List.perm_cons x).1 h)]
theorem Bc{l:List Nat}(h:l.Pairwise (·<·)):(iV l).Pairwise (·≤·):=by
 unfold iV;rw[List.pairwise_map];exact h.imp fun hab=>by omega
theorem pI{l:List Nat}{x:Int}:x∈iV l↔∃n∈l,x=(n:Int):=by
 unfold iV;rw[List.mem_map];exact⟨fun⟨n,h,e⟩=>⟨n,h,e.symm⟩,fun⟨n,h,e⟩=>⟨n,h,e.symm⟩⟩
theorem rV{l:List Nat}(h:l.Pairwise (·<·)):(iV l).Nodup:=by
 unfold iV;rw[List.nodup_iff_pairwise_ne,List.pairwise_map];exact h.imp fun hab=>by omega
theorem tV{H:List Txn}{r:aS}:pG r.l=iV (bH H r.key)↔r.l.Perm (iV (bH H r.key)):=by
 constructor
 ·intro h;rw[←h];exact(nM r.l).symm
 ·intro h;exact uV (yU _) (Bc (ig H r.key)) ((nM r.l).trans h)
structure OkS(H:List Txn)(R:List aS):Prop where
 right:aA H=true
 keys:R.map (·.key)=cZ H
 perm:∀r∈R,r.l.Perm (iV (bH H r.key))
theorem qd(H:List Txn)(R:List aS):fH H R=true↔OkS H R:=by
 unfold fH;rw[Bool.and_eq_true,Bool.and_eq_true,decide_eq_true_eq,List.all_eq_true];constructor
 ·rintro⟨⟨h1,h2⟩,h3⟩;exact⟨h1,h2,fun r hr=>tV.1 (of_decide_eq_true (h3 r hr))⟩
 ·rintro⟨h1,h2,h3⟩;exact⟨⟨h1,h2⟩,fun r hr=>decide_eq_true (tV.2 (h3 r hr))⟩
theorem OkS.nodup{H:List Txn}{R:List aS}(h:OkS H R){r:aS}(hr:r∈R):r.l.Nodup:=(h.perm r hr).nodup_iff.2 (rV (ig H r.key))
theorem OkS.mem{H:List Txn}{R:List aS}(h:OkS H R){r:aS}(hr:r∈R){x:Int}:x∈r.l↔∃n:Nat,x=n∧n<H.length∧r.key∈(aG H n).writes:=by
 rw[(h.perm r hr).mem_iff,pI];constructor
 ·rintro⟨n,hn,e⟩;obtain⟨h1,h2⟩:=bL.1 hn;exact⟨n,e,h1,h2⟩
 ·rintro⟨n,e,h1,h2⟩;exact⟨n,bL.2 ⟨h1,h2⟩,e⟩
theorem OkS.nat{H:List Txn}{R:List aS}(h:OkS H R){r:aS}(hr:r∈R){n:Nat}(hn:n<H.length):((n:Nat):Int)∈r.l↔r.key∈(aG H n).writes:=by
 rw[h.mem hr];constructor
 ·rintro⟨m,e,h1,h2⟩;obtain rfl:n=m:=(by omega);exact h2
 ·intro h2;exact⟨n,rfl,hn,h2⟩
theorem OkS.has{H:List Txn}{R:List aS}(h:OkS H R){k:Int}{n:Nat}(hn:n<H.length)(hk:k∈(aG H n).writes):∃r∈R,r.key=k:=by
 have:k∈cZ H:=(by rw[aJ hn]at hk;exact lY.2 ⟨_,List.getElem_mem hn,hk⟩);rw[←h.keys]at this;obtain⟨r,hr,e⟩:=List.mem_map.1 this;exact⟨r,hr,e⟩
theorem OkS.one{H:List Txn}{R:List aS}(h:OkS H R){r r':aS}(hr:r∈R)(hr':r'∈R)(e:r.key=r'.key):r=r':=by
 have hp:=mY H;rw[←h.keys,List.pairwise_map]at hp;obtain⟨i,hi,rfl⟩:=List.getElem_of_mem hr;obtain⟨j,hj,rfl⟩:=List.getElem_of_mem hr';rw[List.pairwise_iff_getElem]at hp;rcases Nat.lt_trichotomy i j with g|g|g
 ·have:=hp i j hi hj g;omega
 ·subst g;rfl
 ·have:=hp j i hj hi g;omega
theorem OkS.key{H:List Txn}{R:List aS}(h:OkS H R){r:aS}(hr:r∈R):0≤r.key∧r.key<16:=by
 have:r.key∈cZ H:=(by rw[←h.keys];exact List.mem_map_of_mem hr);obtain⟨t,ht,hk⟩:=lY.1 this;obtain⟨i,hi,rfl⟩:=List.getElem_of_mem ht;exact(((aB H).1 h.right).2 i hi).K8 _ hk
theorem eP{l:List Int}{x:Int}(h:x∈l):dR l x=(l.idxOf x:Int):=by
 have hi:=List.idxOf_lt_length_of_mem h;refine xI hi (List.getElem_idxOf _) fun j hj hlt e=> ?_;have:l.idxOf x≤j:=by
  rw[←e];refine Nat.le_of_not_lt fun hgt=> ?_;have:=List.not_of_lt_findIdx (p:=(·==l[j])) (xs:=l) (i:=j) (by simpa[List.idxOf]using hgt);simp at this
 omega
def dn(R:List aS)(k:Int)(t:Int):Int:=match R.find? fun r=>decide (r.key=k)with
 |some r=>if r.l.contains t then(r.l.idxOf t:Int)+1 else 0
 |none=>0
def eB(R:List aS)(k a b:Int):Bool:=decide (0<dn R k b)&&(decide (a<0)||(decide (0<dn R k a)&&decide (dn R k a<dn R k b)))
def zA(H:List Txn)(R:List aS)(x y:Nat):Bool:=soE H x y||ru H x y||(aG H x).writes.any fun k=>eB R k (x:Int) (y:Int)
def jA(H:List Txn)(R:List aS)(x y:Nat):Bool:=decide (x≠y)&&(aG H x).reads.any fun r=>eB R r.a r.b (y:Int)
def tX(H:List Txn)(R:List aS)(x y:Nat):List Nat:=if zA H R x y then y::(List.range H.length).filter (jA H R y)else[]
def tY(H:List Txn)(R:List aS)(x:Nat):List Nat:=((List.range H.length).map (tX H R x)).flatten
def gK(H:List Txn)(R:List aS):aj:=fun x y=>(tY H R x).contains y
def iW(H:List Txn)(R:List aS):Bool:=fH H R&& !fV H.length (gK H R)
theorem Bd{H:List Txn}{R:List aS}(h:OkS H R){r:aS}(hr:r∈R)(t:Int):dn R r.key t=if r.l.contains t then(r.l.idxOf t:Int)+1 else 0:=by
 unfold dn;cases hf:R.find? fun x=>decide (x.key=r.key)with
 |none=>have:=List.find?_eq_none.1 hf r hr;simp at this
 |some x=>
  have h1:=List.find?_some hf;have h2:=List.mem_of_find?_eq_some hf;rw[decide_eq_true_eq]at h1;rw[h.one h2 hr h1]
theorem fI{H:List Txn}{R:List aS}(h:OkS H R){k:Int}{n:Nat}(hn:n<H.length):0<dn R k (n:Int)↔k∈(aG H n).writes:=by
 constructor
 ·intro hp;unfold dn at hp;cases hf:R.find? fun x=>decide (x.key=k)with
  |none=>rw[hf]at hp;exact absurd hp (Int.lt_irrefl 0)
  |some r=>
   rw[hf]at hp;have h1:=List.find?_some hf;rw[decide_eq_true_eq]at h1;subst h1;have h2:=List.mem_of_find?_eq_some hf;refine(h.nat h2 hn).1 ?_;by_cases hc:r.l.contains (n:Int)=true
   ·exact List.contains_iff_mem.1 hc
   ·rw[Bool.not_eq_true]at hc;simp only[hc]at hp;exact absurd hp (Int.lt_irrefl 0)
 ·intro hk;obtain⟨r,hr,rfl⟩:=h.has hn hk;rw[Bd h hr,if_pos (List.contains_iff_mem.2 ((h.nat hr hn).2 hk))];omega
theorem Ee{H:List Txn}{R:List aS}(h:OkS H R){c:Cho}:c∈tT H R↔∃r∈R,∃p∈dV r.key (bH H r.key),c=ofC r.l p:=by
 unfold tT;rw[if_pos ((qd H R).2 h),List.mem_flatten];constructor
 ·rintro⟨l,hl,hc⟩;obtain⟨r,hr,rfl⟩:=List.mem_map.1 hl;obtain⟨p,hp,e⟩:=List.mem_map.1 hc;exact⟨r,hr,p,hp,e.symm⟩
 ·rintro⟨r,hr,p,hp,rfl⟩;exact⟨_,List.mem_map_of_mem hr,List.mem_map_of_mem hp⟩
theorem tZ{H:List Txn}{R:List aS}(h:OkS H R){k:Int}{a b:Nat}(ha:a<H.length)(hb:b<H.length):
 (⟨k,a,b⟩:Cho)∈tT H R↔k∈(aG H a).writes∧k∈(aG H b).writes∧dn R k a<dn R k b:=by
 rw[Ee h];have hpl:∀{r:aS},r∈R→∀{n:Nat},n<H.length→r.key∈(aG H n).writes→dn R r.key (n:Int)=(r.l.idxOf (n:Int):Int)+1∧dR r.l (n:Int)=(r.l.idxOf (n:Int):Int):=fun{r} hr {n} hn hk=>by
  have hm:=(h.nat hr hn).2 hk;exact⟨by rw[Bd h hr,if_pos (List.contains_iff_mem.2 hm)],eP hm⟩
 have hne:∀{r:aS},r∈R→∀{m n:Nat},m<H.length→n<H.length→r.key∈(aG H m).writes→r.key∈(aG H n).writes→m≠n→r.l.idxOf (m:Int)≠r.l.idxOf (n:Int):=fun{r} hr {m n} hm hn hkm hkn hmn e=>by
  have h1:=(h.nat hr hm).2 hkm;have h2:=(h.nat hr hn).2 hkn;have e1:=List.getElem_idxOf (List.idxOf_lt_length_of_mem h1);have e2:=List.getElem_idxOf (List.idxOf_lt_length_of_mem h2);have:r.l[r.l.idxOf (m:Int)]'(List.idxOf_lt_length_of_mem h1)=r.l[r.l.idxOf (n:Int)]'(List.idxOf_lt_length_of_mem h2):=(by simp only[e]);omega
 constructor
 ·rintro⟨r,hr,p,hp,e⟩;obtain⟨hpk,x,y,hx,hy,hxm,hym⟩:=jU hp;have hlt:=uE (ig H r.key) hp;obtain⟨hx1,hx2⟩:=bL.1 hxm;obtain⟨hy1,hy2⟩:=bL.1 hym;obtain⟨px,ix⟩:=hpl hr hx1 hx2;obtain⟨py,iy⟩:=hpl hr hy1 hy2;have hnd:=hne hr hx1 hy1 hx2 hy2 (by omega);unfold ofC at e;rw[hx,hy,ix,iy]at e;split at e
  ·next hgt=>
   injection e with e1 e2 e3
   obtain rfl:a=y:=(by omega);obtain rfl:b=x:=(by omega);rw[hpk]at e1;subst e1;exact⟨hy2,hx2,by omega⟩
  ·next hgt=>
   subst e;obtain rfl:a=x:=(by have:(a:Int)=x:=hx;omega);obtain rfl:b=y:=(by have:(b:Int)=y:=hy;omega);have hk:k=r.key:=hpk;subst hk;exact⟨hx2,hy2,by omega⟩
 ·rintro⟨hka,hkb,hlt⟩;obtain⟨r,hr,rfl⟩:=h.has ha hka;obtain⟨pa,ia⟩:=hpl hr ha hka;obtain⟨pb,ib⟩:=hpl hr hb hkb;have hab:a≠b:=(by rintro rfl;omega);rcases Nat.lt_or_gt_of_ne hab with g|g
  ·refine⟨r,hr,_,lK (ig H r.key) (bL.2 ⟨ha,hka⟩) (bL.2 ⟨hb,hkb⟩) g,?_⟩;unfold ofC;rw[if_neg];show¬(dR r.l (a:Int)>dR r.l (b:Int));omega
  ·refine⟨r,hr,_,lK (ig H r.key) (bL.2 ⟨hb,hkb⟩) (bL.2 ⟨ha,hka⟩) g,?_⟩;unfold ofC;rw[if_pos];show dR r.l (b:Int)>dR r.l (a:Int);omega
theorem NC{H:List Txn}{R:List aS}(h:OkS H R){c:Cho}(hc:c∈tT H R):∃a b:Nat,c.a=a∧c.b=b∧a<H.length∧b<H.length:=by
 obtain⟨r,hr,p,hp,rfl⟩:=(Ee h).1 hc;obtain⟨hpk,x,y,hx,hy,hxm,hym⟩:=jU hp;obtain⟨hx1,-⟩:=bL.1 hxm;obtain⟨hy1,-⟩:=bL.1 hym;unfold ofC;split
 ·exact⟨y,x,hy,hx,hy1,hx1⟩
 ·exact⟨x,y,hx,hy,hx1,hy1⟩
theorem Co{H:List Txn}{R:List aS}(h:OkS H R){x y:Nat}(hx:x<H.length)(hy:y<H.length):zA H R x y=orE (bG H) (wwE (tT H R)) x y:=by
 have hr:=(aB H).1 h.right;rw[Bool.eq_iff_iff];unfold zA bG orE;rw[Bool.or_eq_true,Bool.or_eq_true,Bool.or_eq_true,Bool.or_eq_true];refine or_congr (or_congr Iff.rfl ?_) ?_
 ·unfold ru wrE;rw[Bool.and_eq_true,decide_eq_true_eq];refine⟨fun hm=>⟨?_,hm⟩,And.right⟩;rintro rfl;rw[List.any_eq_true]at hm;obtain⟨r,hr1,hr2⟩:=hm;have hr2:=of_decide_eq_true hr2;rw[aJ hx]at hr1;have ht:=(hr.2 x hx).there r hr1;rcases(gT H x r).1 ht with e|⟨k,hk,e,hne,-⟩
  ·omega
  ·omega
 ·unfold wwE;rw[List.any_eq_true,List.any_eq_true];constructor
  ·rintro⟨k,hk,ha⟩;unfold eB at ha;rw[Bool.and_eq_true,Bool.or_eq_true,Bool.and_eq_true]at ha;simp only[decide_eq_true_eq]at ha;obtain⟨h1,h2⟩:=ha;have h3:dn R k (x:Int)<dn R k (y:Int):=(by rcases h2 with h2|h2<;>omega);exact⟨⟨k,x,y⟩,(tZ h hx hy).2 ⟨hk,(fI h hy).1 h1,h3⟩,by simp⟩
  ·rintro⟨⟨k,a,b⟩,hc,hab⟩;rw[Bool.and_eq_true,decide_eq_true_eq,decide_eq_true_eq]at hab;obtain⟨rfl,rfl⟩:=hab;obtain⟨h1,h2,h3⟩:=(tZ h hx hy).1 hc;have h4:=(fI h hx).2 h1;have h5:=(fI h hy).2 h2;refine⟨k,h1,?_⟩;unfold eB;rw[Bool.and_eq_true,Bool.or_eq_true,Bool.and_eq_true];simp only[decide_eq_true_eq];exact⟨h5,.inr ⟨h4,h3⟩⟩
theorem Ia{H:List Txn}{R:List aS}(h:OkS H R){x y:Nat}(hx:x<H.length)(hy:y<H.length):jA H R x y=rwE H (tT H R) x y:=by
 have hr:=(aB H).1 h.right;rw[Bool.eq_iff_iff];unfold jA rwE lZ;rw[Bool.and_eq_true,Bool.or_eq_true,Bool.and_eq_true,List.any_eq_true,List.any_eq_true,List.any_eq_true,decide_eq_true_eq];have QK:∀r∈(aG H x).reads,r.b= -1∨∃k,∃hk:k<H.length,r.b=(k:Int)∧k≠x∧r.a∈H[k].writes:=fun r hr1=>by
  rw[aJ hx]at hr1;exact(gT H x r).1 ((hr.2 x hx).there r hr1)
 constructor
 ·rintro⟨hne,r,hr1,ha⟩;unfold eB at ha;rw[Bool.and_eq_true,Bool.or_eq_true,Bool.and_eq_true]at ha;simp only[decide_eq_true_eq]at ha;obtain⟨h1,h2⟩:=ha;have hky:=(fI h hy).1 h1;rcases QK r hr1 with e|⟨k,hk,e,hkx,hkw⟩
  ·refine .inl ⟨hne,r,hr1,?_⟩;rw[Bool.and_eq_true,decide_eq_true_eq,List.contains_iff_mem];exact⟨e,hky⟩
  ·have h3:0<dn R r.a r.b∧dn R r.a r.b<dn R r.a (y:Int):=by
    rcases h2 with h2|h2
    ·omega
    ·exact h2
   rw[e]at h3;refine .inr ⟨⟨r.a,k,y⟩,(tZ h hk hy).2 ⟨(fI h hk).1 h3.1,hky,h3.2⟩,?_⟩;rw[Bool.and_eq_true,Bool.and_eq_true,List.any_eq_true];simp only[decide_eq_true_eq];refine⟨⟨trivial,hne⟩,r,hr1,?_⟩;rw[Bool.and_eq_true,decide_eq_true_eq,decide_eq_true_eq];exact⟨rfl,e⟩
 ·rintro(⟨hne,r,hr1,h2⟩|⟨c,hc,h2⟩)
  ·rw[Bool.and_eq_true,decide_eq_true_eq,List.contains_iff_mem]at h2;refine⟨hne,r,hr1,?_⟩;unfold eB;rw[Bool.and_eq_true,Bool.or_eq_true];simp only[decide_eq_true_eq];exact⟨(fI h hy).2 h2.2,.inl (by omega)⟩
  ·rw[Bool.and_eq_true,Bool.and_eq_true,List.any_eq_true]at h2;simp only[decide_eq_true_eq]at h2;obtain⟨⟨hb,hne⟩,r,hr1,h3⟩:=h2;rw[Bool.and_eq_true,decide_eq_true_eq,decide_eq_true_eq]at h3;obtain⟨a,b,e1,e2,ha,hb'⟩:=NC h hc;obtain⟨k,ca,cb⟩:=c;simp only at hb h3 e1 e2;subst e1;subst e2;obtain rfl:b=y:=(by omega);obtain⟨g1,g2,g3⟩:=(tZ h ha hb').1 hc;refine⟨hne,r,hr1,?_⟩;unfold eB;rw[h3.1,h3.2,Bool.and_eq_true,Bool.or_eq_true,Bool.and_eq_true];simp only[decide_eq_true_eq];exact⟨(fI h hb').2 g2,.inr ⟨(fI h ha).2 g1,g3⟩⟩
theorem Bj{H:List Txn}{R:List aS}{x z:Nat}:gK H R x z=true↔z<H.length∧(zA H R x z=true∨∃y,y<H.length∧zA H R x y=true∧jA H R y z=true):=by
 unfold gK tY;rw[List.contains_iff_mem,List.mem_flatten];constructor
 ·rintro⟨l,hl,hz⟩;obtain⟨y,hy,rfl⟩:=List.mem_map.1 hl;have hy:=List.mem_range.1 hy;unfold tX at hz;split at hz
  ·next hd=>
   rw[List.mem_cons]at hz;rcases hz with rfl|hz
   ·exact⟨hy,.inl hd⟩
   ·obtain⟨h1,h2⟩:=List.mem_filter.1 hz;exact⟨List.mem_range.1 h1,.inr ⟨y,hy,hd,h2⟩⟩
  ·cases hz
 ·rintro⟨hz,hd|⟨y,hy,hd,ho⟩⟩
  ·refine⟨_,List.mem_map.2 ⟨z,List.mem_range.2 hz,rfl⟩,?_⟩;unfold tX;rw[if_pos hd];simp
  ·refine⟨_,List.mem_map.2 ⟨y,List.mem_range.2 hy,rfl⟩,?_⟩;unfold tX;rw[if_pos hd,List.mem_cons];exact .inr (List.mem_filter.2 ⟨List.mem_range.2 hz,ho⟩)
theorem ND{H:List Txn}{R:List aS}(h:OkS H R){x z:Nat}(hx:x<H.length)(hz:z<H.length):gK H R x z=aX H 1 (tT H R) x z:=by
 have hf:aX H 1 (tT H R) x z=(orE (bG H) (wwE (tT H R)) x z||iT H.length (orE (bG H) (wwE (tT H R))) (rwE H (tT H R)) x z):=rfl;rw[Bool.eq_iff_iff,Bj,hf,Bool.or_eq_true,←Co h hx hz];unfold iT;rw[List.any_eq_true];constructor
 ·rintro⟨_,hd|⟨y,hy,hd,ho⟩⟩
  ·exact .inl hd
  ·exact .inr ⟨y,List.mem_range.2 hy,by rw[Bool.and_eq_true,←Co h hx hy,←Ia h hy hz];exact⟨hd,ho⟩⟩
 ·rintro(hd|⟨y,hy,hd⟩)
  ·exact⟨hz,.inl hd⟩
  ·have hy:=List.mem_range.1 hy;rw[Bool.and_eq_true,←Co h hx hy,←Ia h hy hz]at hd;exact⟨hz,.inr ⟨y,hy,hd.1,hd.2⟩⟩
theorem yV{n:Nat}{E F:aj}(h:∀x y,x<n→y<n→E x y=F x y):∀(l:List Nat) (x y:Nat),x<n→y<n→(∀a∈l,a<n)→iF E x l y=iF F x l y
 |[],x,y,hx,hy,_=>h x y hx hy
 |a::l,x,y,hx,hy,hl=>by
  show(E x a&&iF E a l y)=(F x a&&iF F a l y);rw[h x a hx (hl a (by simp)),yV h l a y (hl a (by simp)) hy fun b hb=>hl b (by simp[hb])]
theorem Ib{n:Nat}{E F:aj}(h:∀x y,x<n→y<n→E x y=F x y)(hc:fV n E=true):fV n F=true:=by
 unfold fV at hc⊢;rw[List.any_eq_true]at hc⊢;obtain⟨x,hx,hc⟩:=hc;have hxn:=List.mem_range.1 hx;obtain⟨l,hl,hw⟩:=fO n x x hc;rw[yV h l x x hxn hxn hl]at hw;exact⟨x,hx,jQ n l.length l x x (Nat.le_refl _) hl hw⟩
theorem KA{n:Nat}{E F:aj}(h:∀x y,x<n→y<n→E x y=F x y):fV n E=fV n F:=by
 rw[Bool.eq_iff_iff];exact⟨Ib h,Ib fun x y hx hy=>(h x y hx hy).symm⟩
theorem Ef(H:List Txn)(R:List aS):iW H R=(fH H R&&tL H 1 (tT H R)):=by
 unfold iW tL;cases hr:fH H R with
 |false=>rfl
 |true=>rw[Bool.true_and,Bool.true_and,KA fun x y hx hy=>ND ((qd H R).1 hr) hx hy]
theorem idxOf_hit(a:Int)(t:List Int):(a::t).idxOf a=0:=by simp[List.idxOf_cons]
theorem iD{a x:Int}(h:a≠x)(t:List Int):(a::t).idxOf x=t.idxOf x+1:=by
 rw[List.idxOf_cons,show(a==x)=false by simpa using h];rfl
theorem rW{p:Int→Bool}{x y:Int}(hx:p x=true)(hy:p y=true):∀{l:List Int},x∈l→y∈l→((l.filter p).idxOf x<(l.filter p).idxOf y↔l.idxOf x<l.idxOf y)
 |[],h,_=>by cases h
 |a::t,h1,h2=>by
  by_cases hpa:p a=true
  ·rw[List.filter_cons_of_pos hpa];by_cases hax:a=x
   ·subst hax;by_cases hay:a=y
    ·subst hay;exact⟨fun h=>absurd h (Nat.lt_irrefl _),fun h=>absurd h (Nat.lt_irrefl _)⟩
    ·rw[idxOf_hit,idxOf_hit,iD hay,iD hay];exact⟨fun _=>by omega,fun _=>by omega⟩
   ·by_cases hay:a=y
    ·subst hay;rw[idxOf_hit,idxOf_hit];exact⟨fun h=>absurd h (Nat.not_lt_zero _),fun h=>absurd h (Nat.not_lt_zero _)⟩
    ·rw[List.mem_cons]at h1 h2;have g1:x∈t:=h1.resolve_left fun e=>hax e.symm;have g2:y∈t:=h2.resolve_left fun e=>hay e.symm;have:=rW hx hy g1 g2;rw[iD hax,iD hay,iD hax,iD hay];omega
  ·rw[List.filter_cons_of_neg hpa];have hax:a≠x:=fun e=>hpa (e▸hx);have hay:a≠y:=fun e=>hpa (e▸hy);rw[List.mem_cons]at h1 h2;have g1:x∈t:=h1.resolve_left fun e=>hax e.symm;have g2:y∈t:=h2.resolve_left fun e=>hay e.symm;have:=rW hx hy g1 g2;rw[iD hax,iD hay];omega
theorem uf{H:List Txn}{π:List Int}(hp:bA π H.length=true){k:Int}{n:Nat}:((n:Nat):Int)∈(yT H π k).l↔n∈bH H k:=by
 unfold yT;rw[List.mem_filter,bL,Int.toNat_natCast,List.contains_iff_mem];constructor
 ·rintro⟨h1,h2⟩;obtain⟨i,hi,e⟩:=List.getElem_of_mem h1;have:=jM hp hi;exact⟨by omega,h2⟩
 ·rintro⟨h1,h2⟩;exact⟨mO hp h1,h2⟩
theorem Bn{H:List Txn}{π:List Int}(hp:bA π H.length=true)(k:Int):(yT H π k).l.Perm (iV (bH H k)):=by
 refine(List.perm_ext_iff_of_nodup ((yR hp).sublist List.filter_sublist) (rV (ig H k))).2 fun x=> ?_;constructor
 ·intro hx;have h1:=(List.mem_filter.1 hx).1;obtain⟨i,hi,e⟩:=List.getElem_of_mem h1;have:=jM hp hi;have hn:x=((x.toNat:Nat):Int):=(by omega);rw[hn]at hx;exact pI.2 ⟨_,(uf hp).1 hx,hn⟩
 ·intro hx;obtain⟨n,hn,rfl⟩:=pI.1 hx;exact(uf hp).2 hn
theorem NG{H:List Txn}{π:List Int}(hr:aA H=true)(hp:bA π H.length=true):OkS H (gJ H π):=by
 unfold gJ;rw[if_pos ⟨hr,hp⟩];refine⟨hr,?_,fun r hm=> ?_⟩
 ·rw[List.map_map];exact(List.map_congr_left (g:=id) fun k _=>rfl).trans (List.map_id _)
 ·obtain⟨k,hk,rfl⟩:=List.mem_map.1 hm;exact Bn hp k
theorem vT{H:List Txn}{π:List Int}(hr:aA H=true)(hp:bA π H.length=true):fH H (gJ H π)=true:=(qd _ _).2 (NG hr hp)
theorem KD{H:List Txn}{π:List Int}(hr:aA H=true)(hp:bA π H.length=true):tT H (gJ H π)=ofL H π:=by
 unfold tT;rw[if_pos (vT hr hp)];unfold gJ ofL aI;rw[if_pos ⟨hr,hp⟩,List.map_flatten,List.map_map,List.map_map];congr 1;refine List.map_congr_left fun k _=> ?_;show(dV k (bH H k)).map (ofC (yT H π k).l)=(dV k (bH H k)).map (ofC π);refine List.map_congr_left fun p hpm=> ?_;obtain⟨hpk,a,b,ha,hb,ham,hbm⟩:=jU hpm;have h1:=(uf (k:=k) hp).2 ham;have h2:=(uf (k:=k) hp).2 hbm;have g1:=(List.mem_filter.1 h1).1;have g2:=(List.mem_filter.1 h2).1;have hf:=rW (p:=fun t=>(aG H t.toNat).writes.contains k) (List.mem_filter.1 h2).2 (List.mem_filter.1 h1).2 g2 g1;have hf:(yT H π k).l.idxOf (b:Int)<(yT H π k).l.idxOf (a:Int)↔π.idxOf (b:Int)<π.idxOf (a:Int):=hf;unfold ofC;rw[ha,hb,eP h1,eP h2,eP g1,eP g2];by_cases hlt:π.idxOf (b:Int)<π.idxOf (a:Int)
 ·rw[if_pos (by have:=hf.2 hlt;omega),if_pos (by omega)]
 ·rw[if_neg (by intro h;exact hlt (hf.1 (by omega))),if_neg (by omega)]
end Go.Proofs.YtfhnamomiaekdaaGreatDoor
namespace Go.Inq
end Go.Inq
namespace Go.Proofs.YtfhnamomiaekdaaGreatDoor
open Go.RowKit Go.Inq
def KE(H:List Txn)(level:Int)(π:List Int):Bool:=if level=0 then yS H π else if level=1 then iW H (gJ H π)else false
theorem O5{H:List Txn}{m:List Cho}{o:List Nat}(hr:aA H=true)(hm:Gf (aI H) m)(hg:tL H 1 m=true)(ht:kD H.length (aX H 1 m) o):iW H (gJ H (iV o))=true:=by
 have hp:bA (iV o) H.length=true:=ht.perm;rw[Ef,vT hr hp,Bool.true_and,KD hr hp,H7 hp];refine AQ (O4 hm ht fun a b h=> ?_) hg;unfold aX orE;rw[h];simp
theorem kD.sub{n:Nat}{E E':aj}{o:List Nat}(h:kD n E o)(hs:∀x y,E' x y=true→E x y=true):kD n E' o:=⟨⟨h.t.nd,h.t.lt,fun y hy x hx e=>h.t.up y hy x hx (hs x y e)⟩,h.len,h.all⟩
theorem NH{H:List Txn}{level:Int}{l:List Cho}{o:List Nat}(hr:aA H=true)(hl:level=0∨level=1)(hop:mh H l=none)(ho:fD H.length (aX H level l)=some o):KE H level (iV o)=true:=by
 have hsub:∀c∈((aI H).map fun p=>if p∈l then p else aL p),c∈l:=fun c hc=>by
  obtain⟨p,hp,rfl⟩:=List.mem_map.1 hc;split
  ·assumption
  ·rename_i hno;exact(Fz hop hp).resolve_left hno
 have hm:Gf (aI H) ((aI H).map fun p=>if p∈l then p else aL p):=D8 fun p _=>by
  split
  ·exact .inl rfl
  ·exact .inr rfl
 generalize((aI H).map fun p=>if p∈l then p else aL p)=m at*;have ht:=(Ec ho).sub (E':=aX H level m) fun x y h=>rQ hsub h;have hg:tL H level m=true:=AQ hsub (by rw[←Gd,ho];rfl);unfold KE;rcases hl with rfl|rfl
 ·rw[if_pos rfl];exact NA hr hm ht
 ·rw[if_neg (by decide),if_pos rfl];exact O5 hr hm hg ht
theorem NI{H:List Txn}{level:Int}{L:List Fct}{f:Fct}(hL:∀c∈av L,bO H c=true)(h:aW H level L f=true):aV H level (av L++[aL f.c])≠[]:=by
 intro he;rw[Ae,OX (m:=av L++[aL f.c]) (fun c hc=>⟨hL c hc,List.mem_append_left _ hc⟩) (by simp) h]at he;cases he
theorem qg{H:List Txn}{level:Int}{l:List Cho}(hm:nE H level=true)(ho:∀c∈l,bO H c=true)(h:aV H level l≠[]):(Tr.leaf ⟨aY,aV H level l⟩).held H level l=true:=by
 obtain⟨h1,h2⟩:=iN.1 hm;show(decide (aY=aY)&&iK H level l (aV H level l))=true;rw[yx h1 h2 ho h];simp
theorem Eh{H:List Txn}{level:Int}{L:List Fct}{f:Fct}{tree:List Nod}:d9 H level (L++[f]) tree=d9 H level L (⟨f.c,[]⟩::(tree++[⟨aY,aV H level (av L++[aL f.c])⟩])):=by
 unfold d9;have e:(List.range (L++[f]).length).map (fun k=>qI H level (L++[f]) ((L++[f]).length-1-k))=⟨aY,aV H level (av L++[aL f.c])⟩::(List.range L.length).map fun k=>qI H level L (L.length-1-k):=by
  rw[List.length_append,List.length_singleton,List.range_succ_eq_map,List.map_cons,List.map_map];congr 1
  ·unfold qI;rw[show L.length+1-1-0=L.length by omega,List.take_left,List.getD_eq_getElem?_getD];simp
  ·refine List.map_congr_left fun k hk=> ?_;have hk:=List.mem_range.1 hk;show qI H level (L++[f]) (L.length+1-1-(k+1))=_;unfold qI;rw[show L.length+1-1-(k+1)=L.length-1-k by omega,List.take_append_of_le_length (by omega),List.getD_eq_getElem?_getD,List.getD_eq_getElem?_getD,List.getElem?_append_left (by omega)]
 rw[e,List.map_append];simp
theorem yX{H:List Txn}{level:Int}{L:List Fct}(hr:dF H level L=true):∀{t:Tr},t.ok→t.held H level (av L)=true→lI H level [] (d9 H level L t.flat)=true:=by
 have hm:=dO hr;have key:∀n,n≤L.length→∀{t:Tr},t.ok→t.held H level (av (L.take n))=true→lI H level [] (d9 H level (L.take n) t.flat)=true:=by
  intro n
  induction n with
  |zero=>
   intro _ t ho h;rw[List.take_zero]at h⊢;rw[Kt];exact⟨hm,t,by simp[d9],ho,h⟩
  |succ n ih=>
   intro hn t ho h;have hf:=yB hr (show n<L.length by omega);have ho1:=jl (Fx hr n);rw[List.take_succ_eq_append_getElem (by omega)]at h⊢;rw[Eh];rw[yA]at h;have hc:=NI ho1 hf;have:=ih (by omega) (t:= .fork (L[n]'(by omega)).c t (.leaf ⟨aY,aV H level (av (L.take n)++[aL (L[n]'(by omega)).c])⟩)) ⟨ho,hc⟩ (by
    show(t.held H level _&&Tr.held H level _ _&&bO H _)=true;rw[h,qg hm (fun d hd=>by
     rw[List.mem_append,List.mem_singleton]at hd;rcases hd with hd|rfl
     ·exact ho1 d hd
     ·exact jg (Go.Inq.holds_one hf)) hc,Go.Inq.holds_one hf]
    rfl)
   exact this
 intro t ho h;have:=key L.length (Nat.le_refl _) (t:=t) ho;rw[List.take_length]at this;exact this h
theorem KF{H:List Txn}{level:Int}{L:List Fct}{p:Cho}(hr:dF H level L=true)(hp:bO H p=true):
 (eG H level L p).order=[]∧(((eG H level L p).said=0∧(eG H level L p).tree=[]∧(eG H level L p).facts.length≤1)∨((eG H level L p).said=2∧(eG H level L p).facts=[]∧lI H level [] (eG H level L p).tree=true)):=by
 unfold eG;split
 ·exact⟨rfl,.inl ⟨rfl,rfl,Nat.le_refl _⟩⟩
 ·split
  ·exact⟨rfl,.inl ⟨rfl,rfl,Nat.le_refl _⟩⟩
  ·dsimp only;split
   ·split
    ·exact⟨rfl,.inl ⟨rfl,rfl,Nat.zero_le _⟩⟩
    ·exact⟨rfl,.inl ⟨rfl,rfl,Nat.le_refl _⟩⟩
   ·split
    ·exact⟨rfl,.inl ⟨rfl,rfl,Nat.le_refl _⟩⟩
    ·rename_i ha hb;refine⟨rfl,.inr ⟨rfl,rfl,?_⟩⟩;have hm:=dO hr;have ho:=jl hr;have hone:∀q,bO H q=true→∀d∈av L++[q],bO H d=true:=fun q hq d hd=>by
      rw[List.mem_append,List.mem_singleton]at hd;rcases hd with hd|rfl
      ·exact ho d hd
      ·exact hq
     refine yX hr (t:= .fork p (.leaf ⟨aY,aV H level (av L++[p])⟩) (.leaf ⟨aY,aV H level (av L++[aL p])⟩)) ⟨hb,ha⟩ ?_;show(Tr.held H level _ _&&Tr.held H level _ _&&bO H p)=true;rw[qg hm (hone _ hp) hb,qg hm (hone _ (jg hp)) ha,hp];rfl
theorem Gx{H:List Txn}{level:Int}{L:List Fct}(hr:dF H level L=true):
 (dK H level L).facts=[]∧(((dK H level L).said=3∧(dK H level L).order=[]∧(dK H level L).tree=[])∨((dK H level L).said=1∧(dK H level L).tree=[]∧KE H level (iV (dK H level L).order)=true)∨((dK H level L).said=2∧(dK H level L).order=[]∧lI H level [] (dK H level L).tree=true)):=by
 have hm:=dO hr;obtain⟨h1,h2⟩:=iN.1 hm;unfold dK;cases h3:mh H (av L)with
 |some p=>exact⟨rfl,.inl ⟨rfl,rfl,rfl⟩⟩
 |none=>
  cases h4:fD H.length (aX H level (av L))with
  |some o=>exact⟨rfl,.inr (.inl ⟨rfl,rfl,NH h1 h2 h3 h4⟩)⟩
  |none=>
   refine⟨rfl,.inr (.inr ⟨rfl,rfl,?_⟩)⟩;have hne:aV H level (av L)≠[]:=fun e=>by
    rw[Ae]at e;have:=yu H.length (aX H level (av L));rw[e,h4]at this;cases this
   exact yX hr (t:= .leaf ⟨aY,aV H level (av L)⟩) hne (qg hm (jl hr) hne)
structure TL(H:List Txn)(level at' idle:Int)(L:List Fct)(r:(Int×Int)×Say):Prop where
 ok:jw H r.1.1 r.1.2=true
 one:r.2.facts.length≤1
 goes:r.2.facts.length=1→r.2.said=0∧r.1.2=0∧∀f∈r.2.facts,aW H level L f=true
 said:(r.2.said=1∧KE H level (iV r.2.order)=true)∨(r.2.said=2∧lI H level [] r.2.tree=true)∨((r.2.said=0∨r.2.said=3)∧r.2.order=[]∧r.2.tree=[])
theorem NJ{H:List Txn}{level at' idle:Int}{L:List Fct}(h:jw H at' idle=false):dG H level at' idle L=((at',idle),jv):=by
 unfold dG;rw[h];rfl
theorem Cq{H:List Txn}{level at' idle:Int}{L:List Fct}(h:jw H at' idle=true):TL H level at' idle L (dG H level at' idle L):=by
 unfold dG;split
 ·rename_i h0;simp only[Bool.and_eq_true]at h0;have hr:=h0.2;split
  ·obtain⟨h1,h2⟩:=Gx hr;refine⟨h,by rw[h1];exact Nat.zero_le _,(fun e=>by rw[h1]at e;cases e),?_⟩;rcases h2 with⟨a,b,c⟩|⟨a,b,c⟩|⟨a,b,c⟩
   ·exact .inr (.inr ⟨.inr a,b,c⟩)
   ·exact .inl ⟨a,c⟩
   ·exact .inr (.inl ⟨a,c⟩)
  ·rename_i hne;unfold jw at h;simp only[Bool.and_eq_true,decide_eq_true_eq]at h;obtain⟨⟨⟨⟨g1,g2⟩,g3⟩,g4⟩,g5⟩:=h;have hlt:at'.toNat<(aI H).length:=(by omega);have hmod:(at'.toNat+1)%(aI H).length<(aI H).length:=Nat.mod_lt _ (by omega);have hok:∀i2:Int,0≤i2→i2≤((aI H).length:Int)→jw H (((at'.toNat+1)%(aI H).length:Nat):Int) i2=true:=fun i2 a b=>by
    unfold jw;simp only[Bool.and_eq_true,decide_eq_true_eq];exact⟨⟨⟨⟨g1,a⟩,b⟩,by omega⟩,by omega⟩
   dsimp only;split
   ·exact⟨hok (idle+1) (by omega) (by omega),Nat.zero_le _,(fun e=>by cases e),.inr (.inr ⟨.inl rfl,rfl,rfl⟩)⟩
   ·have hp:bO H ((aI H).getD at'.toNat aY)=true:=by
     rw[iZ hlt];exact zP (List.getElem_mem hlt)
    generalize(aI H).getD at'.toNat aY=p at*;obtain⟨e1,e2⟩:=KF hr hp;refine⟨?_,?_,fun e=> ?_,?_⟩
    ·dsimp only;split
     ·exact hok (idle+1) (by omega) (by omega)
     ·exact hok 0 (by omega) (by omega)
    ·rcases e2 with⟨_,_,c⟩|⟨_,c,_⟩
     ·exact c
     ·rw[c];exact Nat.zero_le _
    ·rcases e2 with⟨a,_,c⟩|⟨_,c,_⟩
     ·refine⟨a,?_,fun f hf=>(FB hr hp hf).1⟩;dsimp only at e⊢;rw[if_neg];intro hc;rw[hc]at e;cases e
     ·rw[c]at e;cases e
    ·rcases e2 with⟨a,b,_⟩|⟨a,_,c⟩
     ·exact .inr (.inr ⟨.inl a,e1,b⟩)
     ·exact .inr (.inl ⟨a,c⟩)
 ·exact⟨h,Nat.zero_le _,(fun e=>by cases e),.inr (.inr ⟨.inr rfl,rfl,rfl⟩)⟩
end Go.Proofs.YtfhnamomiaekdaaGreatDoor
