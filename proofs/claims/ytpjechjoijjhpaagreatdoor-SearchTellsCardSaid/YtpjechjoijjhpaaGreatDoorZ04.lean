/-
  A region that draws its order, by a table: each operation has a word, the types of the blocks that the word reads, and the types of the blocks that the operation writes; no program in sight.
-/
import Derived.Test.YtpjechjoijjhpaaGreatDoorZ02
import Derived.Test.YtpjechjoijjhpaaGreatDoorZ03
set_option linter.unusedVariables false
set_option linter.unusedSimpArgs false
namespace Go.Inq
open Go Go.RowKit
def tyO(σ:List TypeId):Obj→Bool
 | .cells _ t _=>σ.contains t
 |_=>false
structure TyW(n0:Nat)(σ:List TypeId)(W W':World):Prop where
 below:Below n0 W W'
 keep:∀(b:Nat) (o:Obj),W.heap[b]?=some o→tyO σ o=false→W'.heap[b]?=some o
section
variable{n0:Nat}{σ σ':List TypeId}{W W' W'':World}
theorem TyW.refl(n0:Nat)(σ:List TypeId)(W:World):TyW n0 σ W W:=⟨Below.refl _ _,fun _ _ h _=>h⟩
theorem TyW.drew(h:TyW n0 σ W W'):TyW n0 σ W W'.drew:=⟨h.below.drew,h.keep⟩
theorem TyW.trans(h:TyW n0 σ W W')(k:TyW n0 σ W' W''):TyW n0 σ W W'':=⟨h.below.trans k.below,fun b o e t=>k.keep b o (h.keep b o e t) t⟩
theorem Nv(hs:∀t∈σ,t∈σ'){o:Obj}(h:tyO σ' o=false):tyO σ o=false:=by
 unfold tyO at h⊢;split at h
 ·rw[←Bool.not_eq_true,List.contains_iff_mem]at h⊢;exact fun g=>h (hs _ g)
 ·rfl
theorem TyW.mono(h:TyW n0 σ W W')(hs:∀t∈σ,t∈σ'):TyW n0 σ' W W':=⟨h.below,fun b o e t=>h.keep b o e (Nv hs t)⟩
theorem TyW.calm(hb:Below W.heap.size W W')(hn:n0≤W.heap.size):TyW n0 σ W W':=⟨hb.mono hn,fun b o e _=>(hb.block b (Array.getElem?_eq_some_iff.1 e).1).trans e⟩
theorem TyW.two(h:TyW n0 σ' W W')(k:TyW n0 σ W' W'')(hs:∀t∈σ,t∈σ'):TyW n0 σ' W W'':=h.trans (k.mono hs)
theorem TyW.size(h:TyW n0 σ W W'):W.heap.size≤W'.heap.size:=h.below.size
theorem TyW.blk(h:TyW n0 σ W W'){g:Nat}{t:TypeId}{cs:Array Value}(k:Blk W g t cs)(ht:t∉σ):Blk W' g t cs:=
 h.keep g _ k (by show σ.contains t=false;rw[←Bool.not_eq_true,List.contains_iff_mem];exact ht)
theorem TyW.own(h:TyW n0 σ W W'){base:Nat}{e:TypeId}{size n:Nat}{v:Value}{xs:List Value}(k:W.ownsRow base e size v n xs)(ht:e∉σ):W'.ownsRow base e size v n xs:=by
 refine⟨k.1,?_⟩;rcases k.2 with h2|⟨g,cap,cur,hv,hg,hh,r⟩
 ·exact .inl h2
 ·exact .inr ⟨g,cap,cur,hv,hg,h.blk (cs:=cur) hh ht,r⟩
theorem TyW.put{g i:Nat}{t:TypeId}{cs:Array Value}(k:Blk W g t cs)(hg:n0≤g)(ht:t∈σ)(u:Value):TyW n0 σ W (W.setCell ⟨g,i,none⟩ u):=
 ⟨(Below.refl _ _).setCell (p:=⟨g,i,none⟩) hg u,fun b o e hno=>by
  by_cases hb:b=g
  ·subst hb;have:W.heap[b]?=some (.cells cs t (0,0)):=k;rw[this]at e;injection e with e
   subst e;rw[show tyO σ (.cells cs t (0,0))=σ.contains t from rfl,List.contains_iff_mem.2 ht]at hno;cases hno
  ·exact(Below.heap_setCell W ⟨g,i,none⟩ u b hb).trans e⟩
theorem TyW.grown{base:Nat}{e:TypeId}{size n:Nat}{v:Value}{xs:List Value}(hown:W.ownsRow base e size v n xs)(hg:W.grownBy W' v.ownBlock)(ht:e∈σ)(hb:n0≤base)(hn:n0≤W.heap.size):TyW n0 σ W W':=by
 refine⟨(Below.refl _ _).grown hg hn fun k hk=>Nat.le_trans hb (hown.lt k hk).1,fun b o hbo hno=> ?_⟩;have hlt:=(Array.getElem?_eq_some_iff.1 hbo).1;by_cases hr:some b=v.ownBlock
 ·obtain⟨cs',h4⟩:∃cs',Blk W b e cs':=by
   rcases hown.2 with⟨h2,_⟩|⟨g',cap,cur,h2,_,hh,_⟩
   ·rw[h2]at hr;simp[Value.ownBlock]at hr
   ·rw[h2]at hr;simp[Value.ownBlock]at hr;subst hr;exact⟨cur,hh⟩
  have h5:=hbo.symm.trans h4;injection h5 with h5
  subst h5;rw[show tyO σ (.cells cs' e (0,0))=σ.contains e from rfl,List.contains_iff_mem.2 ht]at hno;cases hno
 ·exact(hg.block b hlt hr).trans hbo
end
structure Wrd where
 ty:List TypeId
 p:Value→World→Prop
 st:∀(n0:Nat) (σ:List TypeId) (v:Value) (W W':World),(∀t∈ty,t∉σ)→TyW n0 σ W W'→p v W→p v W'
def wV(x:Value):Wrd:=⟨[],fun v _=>v=x,fun _ _ _ _ _ _ _ h=>h⟩
def wU:Wrd:=⟨[],fun _ _=>True,fun _ _ _ _ _ _ _ h=>h⟩
def wO(base:Nat)(e:TypeId)(size n:Nat)(xs:List Value):Wrd:=⟨[e],fun v W=>W.ownsRow base e size v n xs,fun _ _ _ _ _ h hT k=>hT.own k (h e (by simp))⟩
def wB(base:Nat)(t:TypeId)(cs:Array Value):Wrd:=⟨[t],fun v W=>∃g,base≤g∧v= .pointer (some ⟨g,0,none⟩)∧Blk W g t cs,fun _ _ _ _ _ h hT k=>by
 obtain⟨g,h1,h2,h3⟩:=k;exact⟨g,h1,h2,hT.blk h3 (h t (by simp))⟩⟩
def wS(base:Nat)(t:TypeId)(n:Nat)(cs:Array Value):Wrd:=⟨[t],fun v W=>∃g,base≤g∧v= .slice (some ⟨g,0,none⟩) n n∧Blk W g t cs,fun _ _ _ _ _ h hT k=>by
 obtain⟨g,h1,h2,h3⟩:=k;exact⟨g,h1,h2,hT.blk h3 (h t (by simp))⟩⟩
def wX(v0:Value)(d:Wrd):Wrd:=⟨d.ty,fun _ W=>d.p v0 W,fun n0 σ _ W W' h hT k=>d.st n0 σ v0 W W' h hT k⟩
def wK(g:Nat)(t:TypeId)(cs:Array Value):Wrd:=⟨[t],fun _ W=>Blk W g t cs,fun _ _ _ _ _ h hT k=>hT.blk k (h t (by simp))⟩
def wA(a b:Wrd):Wrd:=⟨a.ty++b.ty,fun v W=>a.p v W∧b.p v W,fun n0 σ v W W' h hT k=>⟨a.st n0 σ v W W' (fun t ht=>h t (List.mem_append_left _ ht)) hT k.1,b.st n0 σ v W W' (fun t ht=>h t (List.mem_append_right _ ht)) hT k.2⟩⟩
def RsT(ws:List Wrd)(rf:List Nat)(j:Nat)(vs:Nat→Value)(W:World):Prop:=match ws[j]? with
 |some r=>r.p (vs (rf.getD j j)) W
 |none=>True
def klT(l:List Oper)(ty sg:List (List TypeId))(i:Nat):List Nat:=(List.range ty.length).filter fun j=>(ty.getD j []).any (fun t=>(sg.getD i []).contains t)&&(j !=i&& !bF .any l.toArray l.length j i)
section
variable{P:Program}{Q:Exit→Act→World→Prop}{a:Act}
theorem KG(l:List Oper)(f i:Nat){j:Nat}(h:l.length≤j):bF .any l.toArray f j i=false:=by
 cases f with
 |zero=>rfl
 |succ f=>
  unfold bF;rw[show l.toArray[j]?=none by simpa using h]
theorem RsT.upd{ws:List Wrd}{rf:List Nat}{i j:Nat}{vs:Nat→Value}{W:World}(h:RsT ws rf j vs W)(hr:rf.getD j j≠i)(v:Value):RsT ws rf j (cK vs i v) W:=by
 unfold RsT at h⊢;cases hw:ws[j]? with
 |none=>trivial
 |some r=>
  rw[hw]at h;dsimp only at h⊢;have e:cK vs i v (rf.getD j j)=vs (rf.getD j j):=(by unfold cK;rw[if_neg hr]);rw[e];exact h
theorem AU {id:Nat} {w:World} {l:List Oper} (n0:Nat) (ws:List Wrd) (dp:List (List Nat)) (sg ty:List (List TypeId)) (rf:List Nat) (τs:List TypeId) (hn0:n0≤w.heap.size) (hm:P.follows .mixedOrders=true) (hB:fM l.toArray=true)
 (hdp:((List.range l.length).all fun i=>(dp.getD i []).all fun j=>decide (l.length≤j)||bF .any l.toArray l.length i j)=true) (hrl:(List.range l.length).all (fun j=>rf.getD j j==j||(dp.getD j []).contains (rf.getD j j))=true) (hwl:decide (l.length≤ty.length)=true)
 (hkl:((List.range l.length).all fun i=>(klT l ty sg i).all fun j=>(List.range l.length).all fun k=> !(dp.getD k []).contains j||k==i||bF .any l.toArray l.length i k)=true)
 (hty:ws.map (·.ty)=ty) (hF:∀vs j,l.length≤j→RsT ws rf j vs w) (hrn:decide (rf.length≤l.length)=true) (hsg:(sg.all fun s=>s.all fun t=>τs.contains t)=true)
 (hstep:∀i o,l[i]?=some o→∀(vs:Nat→Value) W (R:Value→World→Prop),(∀v W',RsT ws rf i (cK vs i v) W'→TyW n0 (sg.getD i []) W W'→R v W')→TyW n0 τs w W→(∀j∈dp.getD i [],RsT ws rf j vs W)→wpList P l.toArray (r9 R (acV l.toArray a vs i) o.dst) [o] (acV l.toArray a vs i) W)
 (hend:∀(vs:Nat→Value) W,TyW n0 τs w W→(∀j,j<l.length→(∀i,i<l.length→j∉klT l ty sg i)→RsT ws rf j vs W)→Q .normal (acV l.toArray a vs l.length) W):(Code.region id l.toArray true).wp P Q a w:=by
 have hrf:∀j,j<l.length→∀i,rf.getD j j=i→i≠j→i∈dp.getD j []:=fun j hj i e hne=>by
  have h1:=List.all_eq_true.1 hrl j (List.mem_range.2 hj);rw[Bool.or_eq_true,beq_iff_eq,List.contains_iff_mem,e]at h1;exact h1.resolve_left hne
 have hlt:l.length≤ty.length:=of_decide_eq_true hwl;have Nw:ws.length=ty.length:=(by rw[←hty,List.length_map]);have hwt:∀i,i<l.length→∀j∈dp.getD i [],l.length≤j∨bF .any l.toArray l.length i j=true:=fun i hi j hj=>by
  have:=List.all_eq_true.1 (List.all_eq_true.1 hdp i (List.mem_range.2 hi)) j hj;rwa[Bool.or_eq_true,decide_eq_true_eq]at this
 have hst:∀j i W W' vs,j<ty.length→j≠i→bF .any l.toArray l.length j i=false→j∉klT l ty sg i→TyW n0 (sg.getD i []) W W'→RsT ws rf j vs W→RsT ws rf j vs W':=fun j i W W' vs hj hji hw hk hT h=>by
  unfold RsT at h⊢;cases hwj:ws[j]? with
  |none=>trivial
  |some r=>
   rw[hwj]at h;dsimp only at h⊢;refine r.st n0 _ _ _ _ (fun t ht hts=>hk ?_) hT h;unfold klT;refine List.mem_filter.2 ⟨List.mem_range.2 hj,?_⟩;rw[Bool.and_eq_true,Bool.and_eq_true,List.any_eq_true,bne_iff_ne,Bool.not_eq_true'];refine⟨⟨t,?_,List.contains_iff_mem.2 hts⟩,hji,hw⟩;rw[←hty,List.getD_eq_getElem?_getD,List.getElem?_map,hwj];exact ht
 refine l9 (fun L vs W=>TyW n0 τs w W∧∀j,j<ty.length→(l.length≤j∨L j=true)→(∀i,i<l.length→L i=true→j∉klT l ty sg i)→RsT ws rf j vs W) (fun i=>if i<l.length then(dp.getD i []).filter (fun j=>bF .any l.toArray l.length i j)else[]) (fun i=>if i<l.length then(List.range l.length).filter fun k=>bF .any l.toArray l.length k i else[]) hm hB ?_ ?_ ⟨(TyW.refl _ _ _).drew,fun j hj h _=> ?_⟩ ?_ fun L vs W hall hI=>hend vs W hI.1 fun j hj hk=>hI.2 j (by omega) (.inr (hall j hj)) fun i hi _=>hk i hi
 ·rw[List.all_eq_true];intro i hi;have hi:=List.mem_range.1 hi;rw[if_pos hi,List.all_eq_true];intro j hj;exact(List.mem_filter.1 hj).2
 ·rw[List.all_eq_true];intro i hi;have hi:=List.mem_range.1 hi;rw[if_pos hi,List.all_eq_true];intro k hk;exact(List.mem_filter.1 hk).2
 ·rcases h with h|h
  ·have h0:=hF (fun _=>undef) j h;unfold RsT at h0⊢;cases hwj:ws[j]? with
   |none=>trivial
   |some r=>
    rw[hwj]at h0;exact r.st n0 [] _ _ _ (fun t _ ht=>by cases ht) (TyW.refl _ _ _).drew h0
  ·cases h
 ·intro i o ho L vs W hLi hd hnd hI;have hi:i<l.length:=(List.getElem?_eq_some_iff.1 ho).1;rw[if_pos hi]at hd hnd;have hno:∀k,k<l.length→bF .any l.toArray l.length k i=true→L k=false:=fun k hk hw=>hnd k (List.mem_filter.2 ⟨List.mem_range.2 hk,hw⟩);have hword:∀j∈dp.getD i [],RsT ws rf j vs W:=fun j hj=>by
   by_cases hjl:j<ty.length;case neg=>
    unfold RsT;rw[List.getElem?_eq_none (by omega)];trivial
   refine hI.2 j hjl ((hwt i hi j hj).imp (fun h=>h) fun g=>hd j (List.mem_filter.2 ⟨hj,g⟩)) fun i' hi' hL' hk=> ?_;have h1:=List.all_eq_true.1 (List.all_eq_true.1 (List.all_eq_true.1 hkl i' (List.mem_range.2 hi')) j hk) i (List.mem_range.2 hi);rw[Bool.or_eq_true,Bool.or_eq_true,Bool.not_eq_true',beq_iff_eq,List.contains_iff_mem.2 hj]at h1;rcases h1 with(h1|h1)|h1
   ·cases h1
   ·subst h1;rw[hLi]at hL';cases hL'
   ·rw[hno i' hi' h1]at hL';cases hL'
  refine hstep i o ho vs W _ (fun v W' h1 h3=> ?_) hI.1 hword;refine⟨hI.1.two h3 fun t ht=> ?_,fun j hj hLj hk=> ?_⟩
  ·by_cases his:i<sg.length
   ·rw[List.getD_eq_getElem?_getD,List.getElem?_eq_getElem his]at ht;exact List.contains_iff_mem.1 (List.all_eq_true.1 (List.all_eq_true.1 hsg _ (List.getElem_mem his)) t ht)
   ·rw[List.getD_eq_getElem?_getD,List.getElem?_eq_none (by omega)]at ht;cases ht
  by_cases e:j=i
  ·subst e;exact h1
  ·have hLj:l.length≤j∨L j=true:=hLj.imp (fun h=>h) fun g=>(by simpa[e]using g);have hk':∀i',i'<l.length→L i'=true→j∉klT l ty sg i':=fun i' hi' hL'=>hk i' hi' (by show(L i'||_)=true;rw[hL'];rfl);have hw:=hI.2 j hj hLj hk';have hki:=hk i hi (by simp);have TR:bF .any l.toArray l.length j i=false:=by
    rw[←Bool.not_eq_true];intro RL;by_cases hjn:l.length≤j
    ·rw[KG l _ _ hjn]at RL;cases RL
    ·rcases hLj with h|hLj
     ·exact hjn h
     ·rw[hno j (by omega) RL]at hLj;cases hLj
   have hw2:RsT ws rf j (cK vs i v) W:=by
    by_cases hjn:l.length≤j
    ·have hrn:=of_decide_eq_true hrn;exact RsT.upd hw (by rw[List.getD_eq_getElem?_getD,List.getElem?_eq_none (by omega)];simp;omega) v
    ·refine RsT.upd hw (fun e2=> ?_) v;have hm:=hrf j (by omega) i e2 (fun e3=>e e3.symm);rcases hwt j (by omega) i hm with h|h
     ·omega
     ·rw[TR]at h;cases h
   exact hst j i W W' _ hj e TR hki h3 hw2
def yU:List Wrd→World→Prop
 |[],_=>True
 |r::t,w=>(∀v,r.p v w)∧yU t w
theorem yU.at_:∀{t:List Wrd} {w:World},yU t w→∀r∈t,∀v,r.p v w
 |[],_,_,r,hr,_=>by cases hr
 |q::t,w,h,r,hr,v=>by
  rw[List.mem_cons]at hr;rcases hr with rfl|hr
  ·exact h.1 v
  ·exact yU.at_ h.2 r hr v
def gW(ws:List Wrd)(rf:List Nat)(vs:Nat→Value)(W:World):List Nat→Prop
 |[]=>True
 |j::r=>RsT ws rf j vs W∧gW ws rf vs W r
theorem gW.of{ws:List Wrd}{rf:List Nat}{vs:Nat→Value}{W:World}:∀{d:List Nat},(∀j∈d,RsT ws rf j vs W)→gW ws rf vs W d
 |[],_=>trivial
 |j::r,h=>⟨h j (by simp),gW.of fun k hk=>h k (by simp[hk])⟩
def iO(P:Program)(ops:Array Oper)(a:Act)(n0:Nat)(ws:List Wrd)(dp:List (List Nat))(sg:List (List TypeId))(rf:List Nat)(τs:List TypeId)(w:World):Nat→List Oper→Prop
 |_,[]=>True
 |i,o::r=>(∀(vs:Nat→Value) (W:World) (R:Value→World→Prop),(∀v W',RsT ws rf i (cK vs i v) W'→TyW n0 (sg.getD i []) W W'→R v W')→TyW n0 τs w W→gW ws rf vs W (dp.getD i [])→wpList P ops (r9 R (acV ops a vs i) o.dst) [o] (acV ops a vs i) W)∧iO P ops a n0 ws dp sg rf τs w (i+1) r
theorem iO.at_{ops:Array Oper}{n0:Nat}{ws:List Wrd}{dp:List (List Nat)}{sg:List (List TypeId)}{rf:List Nat}{τs:List TypeId}{w:World}:∀{l:List Oper} {k i:Nat} {o:Oper},iO P ops a n0 ws dp sg rf τs w k l→l[i]?=some o→
 ∀(vs:Nat→Value) (W:World) (R:Value→World→Prop),(∀v W',RsT ws rf (k+i) (cK vs (k+i) v) W'→TyW n0 (sg.getD (k+i) []) W W'→R v W')→TyW n0 τs w W→gW ws rf vs W (dp.getD (k+i) [])→wpList P ops (r9 R (acV ops a vs (k+i)) o.dst) [o] (acV ops a vs (k+i)) W
 |[],_,_,_,_,h=>by simp at h
 |p::r,k,0,o,h,e=>by
  simp at e;subst e;exact h.1
 |p::r,k,i+1,o,h,e=>by
  have:=iO.at_ (i:=i) h.2 (by simpa using e);rwa[show k+1+i=k+(i+1) by omega]at this
theorem cZ {id:Nat} {w:World} {l:List Oper} (n0:Nat) (ws:List Wrd) (dp:List (List Nat)) (sg ty:List (List TypeId)) (rf:List Nat) (τs:List TypeId) (hn0:n0≤w.heap.size) (hm:P.follows .mixedOrders=true) (hB:fM l.toArray=true)
 (hdp:((List.range l.length).all fun i=>(dp.getD i []).all fun j=>decide (l.length≤j)||bF .any l.toArray l.length i j)=true) (hrl:(List.range l.length).all (fun j=>rf.getD j j==j||(dp.getD j []).contains (rf.getD j j))=true) (hwl:decide (l.length≤ty.length)=true)
 (hkl:((List.range l.length).all fun i=>(klT l ty sg i).all fun j=>(List.range l.length).all fun k=> !(dp.getD k []).contains j||k==i||bF .any l.toArray l.length i k)=true)
 (hty:ws.map (·.ty)=ty) (hF:yU (ws.drop l.length) w) (hrn:decide (rf.length≤l.length)=true) (hsg:(sg.all fun s=>s.all fun t=>τs.contains t)=true)
 (hstep:iO P l.toArray a n0 ws dp sg rf τs w 0 l)
 (hend:∀(vs:Nat→Value) W,TyW n0 τs w W→(∀j,j<l.length→((List.range l.length).all fun i=> !(klT l ty sg i).contains j)=true→RsT ws rf j vs W)→Q .normal (acV l.toArray a vs l.length) W):(Code.region id l.toArray true).wp P Q a w:=
 AU n0 ws dp sg ty rf τs hn0 hm hB hdp hrl hwl hkl hty (fun vs j hj=>by
  unfold RsT;cases hwj:ws[j]? with
  |none=>trivial
  |some r=>
   refine hF.at_ r ?_ _;have:(ws.drop l.length)[j-l.length]?=some r:=(by rw[List.getElem?_drop,show l.length+(j-l.length)=j by omega];exact hwj);exact List.mem_of_getElem? this) hrn hsg (fun i o ho vs W R hR hT hd=>by
  have:=hstep.at_ ho vs W R;rw[Nat.zero_add]at this;exact this hR hT (gW.of hd)) fun vs W hT hd=>hend vs W hT fun j hj hk=>hd j hj fun i hi hm=>by
  have:=List.all_eq_true.1 hk i (List.mem_range.2 hi);rw[List.contains_iff_mem.2 hm]at this;cases this
end
end Go.Inq
