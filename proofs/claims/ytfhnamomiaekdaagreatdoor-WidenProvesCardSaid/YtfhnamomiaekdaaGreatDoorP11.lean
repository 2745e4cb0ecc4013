/-
  A region that draws its order, where every operation floats: in every world of a set that all of them keep it yields the same. One walk in the row's own order serves every order.
-/
import Derived.Test.YtfhnamomiaekdaaGreatDoorP02
import Derived.Test.YtfhnamomiaekdaaGreatDoorP07
set_option linter.unusedVariables false
set_option linter.unusedSimpArgs false
namespace Go.Inq
open Go
section
variable{P:Program}{ops:Array Oper}{Q:Exit→Act→World→Prop}
def gJ(ops:Array Oper)(o:Oper):List Nat:=
 (o.op.operands.toList.filterMap fun| .tmp t=>some t|_=>none)++(match o.guard with|some (j,_)=>((ops[j]?).bind (·.dst)).toList|none=>[])
def dQ(ops:Array Oper):Bool:=
 Region.noSelect ops&&(List.range ops.size).all fun i=>match ops[i]? with
  |none=>true
  |some o=>(o.after.all fun e=> !Region.binds .any e||decide (e.on<i))&&
   (List.range ops.size).all fun j=>match ops[j]? with
    |none=>true
    |some oj=>match oj.dst with
     |none=>true
     |some t=>(i==j||o.dst !=some t)&&(!(gJ ops o).contains t||(decide (j<i)&&aU .any ops ops.size i j)||(decide (i<j)&&aU .any ops ops.size j i)||i==j)
theorem lC(h:dQ ops=true){i:Nat}{o:Oper}(ho:ops[i]?=some o):∀e∈o.after,Region.binds .any e=true→e.on<i:=by
 intro e he hb;unfold dQ at h;rw[Bool.and_eq_true,List.all_eq_true]at h;have h1:=h.2 i (List.mem_range.2 (Array.getElem?_eq_some_iff.1 ho).1);rw[ho]at h1;dsimp only at h1;rw[Bool.and_eq_true]at h1;have h2:=Array.all_eq_true_iff_forall_mem.1 h1.1 e he;rw[hb]at h2;simpa using h2
theorem jK(h:dQ ops=true){i j:Nat}{o oj:Oper}(ho:ops[i]?=some o)(hj:ops[j]?=some oj){t:Nat}(ht:oj.dst=some t):
 (i=j∨o.dst≠some t)∧(t∈gJ ops o→(j<i∧aU .any ops ops.size i j=true)∨(i<j∧aU .any ops ops.size j i=true)∨i=j):=by
 unfold dQ at h;rw[Bool.and_eq_true,List.all_eq_true]at h;have h1:=h.2 i (List.mem_range.2 (Array.getElem?_eq_some_iff.1 ho).1);rw[ho]at h1;dsimp only at h1;rw[Bool.and_eq_true,List.all_eq_true]at h1;have h2:=h1.2 j (List.mem_range.2 (Array.getElem?_eq_some_iff.1 hj).1);rw[hj]at h2;dsimp only at h2;rw[ht]at h2;dsimp only at h2;rw[Bool.and_eq_true]at h2;refine⟨?_,fun hm=> ?_⟩
 ·have:=h2.1;rw[Bool.or_eq_true,beq_iff_eq,bne_iff_ne]at this;exact this
 ·have h3:=h2.2;have hc:(gJ ops o).contains t=true:=(by simpa using hm);rw[hc]at h3;simp only[Bool.not_true,Bool.false_or,Bool.or_eq_true,Bool.and_eq_true,decide_eq_true_eq,beq_iff_eq]at h3;rcases h3 with(h3|h3)|h3
  ·exact .inl h3
  ·exact .inr (.inl h3)
  ·exact .inr (.inr h3)
structure Flo(ops:Array Oper)(a0:Act)(vs:Nat→Value)(L:Nat→Bool)(a:Act):Prop where
 defers:a.defers=a0.defers
 size:a.tmps.size=a0.tmps.size
 hit:∀j o t,ops[j]?=some o→o.dst=some t→L j=true→t<a0.tmps.size→a.tmps[t]?=some (vs j)
 miss:∀t,(∀j o,ops[j]?=some o→o.dst=some t→L j=false)→a.tmps[t]?=a0.tmps[t]?
variable{a0 a b:Act}{vs:Nat→Value}{L L':Nat→Bool}
theorem Flo.start(h:∀j,L j=false):Flo ops a0 vs L a0:=⟨rfl,rfl,(fun j _ _ _ _ hl=>absurd hl (by rw[h j];simp)),fun _ _=>rfl⟩
theorem Jd(a:Act)(d:Option Tmp)(v:Value):(a.put d v).tmps.size=a.tmps.size:=by
 cases d<;>simp[Act.put]
theorem put_defers(a:Act)(d:Option Tmp)(v:Value):(a.put d v).defers=a.defers:=by
 cases d<;>simp[Act.put]
theorem Je{d:Option Tmp}{t:Nat}(h:d≠some t)(a:Act)(v:Value):(a.put d v).tmps[t]?=a.tmps[t]?:=by
 cases d with
 |none=>rfl
 |some d=>
  have:d≠t:=fun e=>h (by rw[e]);simp[Act.put,Array.getElem?_setIfInBounds_ne this]
theorem put_eq{t:Nat}(a:Act)(v:Value)(h:t<a.tmps.size):(a.put (some t) v).tmps[t]?=some v:=by
 simp[Act.put,h]
theorem Flo.put(hB:dQ ops=true){i:Nat}{o:Oper}(ho:ops[i]?=some o)(h:Flo ops a0 vs L a)(hL:∀j,L' j=(L j||decide (j=i))):Flo ops a0 vs L' (a.put o.dst (vs i)):=by
 refine⟨by rw[put_defers,h.defers],by rw[Jd,h.size],fun j oj t hj ht hl hs=> ?_,fun t ht=> ?_⟩
 ·by_cases hji:j=i
  ·subst hji;have:oj=o:=Option.some.inj (hj.symm.trans ho);subst this;rw[ht,put_eq _ _ (by rw[h.size];exact hs)]
  ·have h1:L j=true:=(by rw[hL]at hl;simpa[hji]using hl);have hne:o.dst≠some t:=by
    rcases(jK hB ho hj ht).1 with e|e
    ·exact absurd e.symm hji
    ·exact e
   rw[Je hne];exact h.hit j oj t hj ht h1 hs
 ·have hne:o.dst≠some t:=fun e=>by
   have:=ht i o ho e;rw[hL]at this;simp at this
  rw[Je hne];refine h.miss t fun j oj hj hd=> ?_;have:=ht j oj hj hd;rw[hL]at this;rw[Bool.or_eq_false_iff]at this;exact this.1
theorem Flo.agree(h:Flo ops a0 vs L a)(h':Flo ops a0 vs L' b){t:Nat}(ht:∀j o,ops[j]?=some o→o.dst=some t→L j=L' j):a.tmps[t]?=b.tmps[t]?:=by
 by_cases hs:t<a0.tmps.size
 ·by_cases hx:∃j o,ops[j]?=some o∧o.dst=some t∧L j=true
  ·obtain⟨j,o,hj,hd,hl⟩:=hx;rw[h.hit j o t hj hd hl hs,h'.hit j o t hj hd (by rw[←ht j o hj hd];exact hl) hs]
  ·have hf:∀j o,ops[j]?=some o→o.dst=some t→L j=false:=fun j o hj hd=>by
    cases hl:L j with
    |false=>rfl
    |true=>exact absurd ⟨j,o,hj,hd,hl⟩ hx
   rw[h.miss t hf,h'.miss t fun j o hj hd=>by rw[←ht j o hj hd];exact hf j o hj hd]
 ·rw[Array.getElem?_eq_none (by rw[h.size];omega),Array.getElem?_eq_none (by rw[h'.size];omega)]
theorem tJ{d:Option Tmp}{u v:Value}(hs:a.tmps.size=b.tmps.size)(h:b.put d u=b.put d v):a.put d u=a.put d v:=by
 cases d with
 |none=>rfl
 |some t=>
  rcases Nat.lt_or_ge t b.tmps.size with ht|ht
  ·have h1:=put_eq b u ht;rw[h,put_eq b v ht]at h1;injection h1 with h1
   rw[h1]
  ·have:∀x:Value,a.put (some t) x=a:=fun x=>by
    unfold Act.put;dsimp only;rw[Array.setIfInBounds_eq_of_size_le (show a.tmps.size≤t by rw[hs];exact ht)]
   rw[this,this]
theorem Dg {S:World→Prop} {i:Nat} {o:Oper} {w:World} {v:Value} {K:Act→World→Prop} (ho:ops[i]?=some o) (hsel:∀cs b,o.op≠ .select cs b)
 (hr:∀t∈gJ ops o,a.tmps[t]?=b.tmps[t]?) (hs:a.tmps.size=b.tmps.size) (hK:∀w',S w'→K (a.put o.dst v) w')
 (h:wpList P ops (fun e a' w'=>e= .normal∧a'=b.put o.dst v∧S w') [o] b w):wpOp P ops Q i K a w:=by
 have hw:Region.wanted o (yielded ops a.tmps)=Region.wanted o (yielded ops b.tmps):=by
  unfold Region.wanted;cases hg:o.guard with
  |none=>rfl
  |some g=>
   obtain⟨j,x⟩:=g;dsimp only;have:yielded ops a.tmps j=yielded ops b.tmps j:=by
    unfold yielded;cases hd:(ops[j]?).bind (·.dst)with
    |none=>rfl
    |some t=>
     have hm:t∈gJ ops o:=by
      unfold gJ;rw[hg];refine List.mem_append.2 (.inr ?_);show t∈((ops[j]?).bind (·.dst)).toList;rw[hd];simp
     simp only[Option.bind_some];rw[hr t hm]
   rw[this]
 have he:execOp a.eval o=execOp b.eval o:=by
  refine execOp_congr o hsel fun x hx=> ?_;cases x with
  |tmp t=>
   have hm:t∈gJ ops o:=by
    unfold gJ;refine List.mem_append.2 (.inl ?_);rw[List.mem_filterMap];exact⟨.tmp t,by simpa using hx,rfl⟩
   have:=hr t hm;simp only[Act.eval,Array.getD_eq_getD_getElem?,this]
  |_=>rfl
 unfold wpOp;rw[ho];dsimp only;unfold wpList at h;rw[hw];by_cases hwd:Region.wanted o (yielded ops b.tmps)=true
 ·rw[if_pos hwd]at h⊢;left;rcases h with h|⟨_,_,_,h,_⟩
  ·unfold Oper.wp at*;rw[he];generalize(execOp b.eval o).run P w=r at h;have key:∀u w',wpList P ops (fun e a' w'=>e= .normal∧a'=b.put o.dst v∧S w') [] (b.put o.dst u) w'→K (a.put o.dst u) w':=fun u w' h=>by
    unfold wpList at h;rw[tJ hs h.2.1];exact hK w' h.2.2
   cases r with
   |halt x w'=>
    cases x<;>simp only[Oper.upon]at h⊢;exact absurd h.1 (by simp)
   |ok n w'=>
    cases n with
    |value u=>exact key u w' h
    |skip=>exact key undef w' h
    |defer d=>
     simp only[Oper.upon]at h;unfold wpList at h;have h1:=congrArg Act.defers h.2.1;rw[put_defers,put_defers]at h1;exact absurd (congrArg List.length h1) (by simp)
    |enter f args=>
     simp only[Oper.upon]at h⊢;refine Calls.mono h fun e w'' he=> ?_;cases e with
     |returned u=>exact key u w'' he
     |panicked c=>exact absurd he.1 (by simp)
     |outgrown=>
      obtain⟨_,_,h1,_⟩:=he;cases h1
    |row r args=>
     simp only[Oper.upon]at h⊢;exact Rows.mono h fun u w'' he=>key u w'' he
    |_=>simp only[Oper.upon]at h
  ·cases h
 ·rw[if_neg hwd]at h⊢;unfold wpList at h;rw[tJ hs h.2.1];exact hK w h.2.2
def lacks:Nat→(Nat→Bool)→Nat
 |0,_=>0
 |n+1,f=>lacks n f+if f n then 0 else 1
theorem nK(f:Nat→Bool):∀n,lacks n f=0→∀i,i<n→f i=true
 |0,_,i,hi=>absurd hi (by omega)
 |n+1,h,i,hi=>by
  unfold lacks at h;by_cases hn:f n=true
  ·by_cases hin:i=n
   ·rw[hin];exact hn
   ·exact nK f n (by omega) i (by omega)
  ·rw[if_neg hn]at h;omega
theorem uF{f g:Nat→Bool}:∀n,(∀j,j<n→f j=g j)→lacks n f=lacks n g
 |0,_=>rfl
 |n+1,h=>by unfold lacks;rw[uF n (fun j hj=>h j (by omega)),h n (by omega)]
theorem nM{f g:Nat→Bool}{i:Nat}(hf:f i=false)(hg:∀j,g j=(f j||decide (j=i))):∀n,i<n→lacks n f=lacks n g+1
 |0,h=>absurd h (by omega)
 |n+1,h=>by
  unfold lacks;by_cases hin:i=n
  ·subst hin;have h1:lacks i f=lacks i g:=uF i fun j hj=>(by rw[hg j];simp;intro;omega);rw[h1,hf,hg i];simp
  ·have h1:=nM hf hg n (by omega);have h2:g n=f n:=(by rw[hg n];simp;intro;omega);rw[h1,h2];omega
theorem lD:∀n,lacks n (fun _=>false)=n
 |0=>rfl
 |n+1=>by unfold lacks;rw[lD n];rfl
theorem Ae {S:World→Prop} (hB:dQ ops=true) {ac:Nat→Act} (hac:∀i,Flo ops a0 vs (fun j=>decide (j<i)) (ac i))
 (hstep:∀i o,ops[i]?=some o→∀w,S w→wpList P ops (fun e a' w'=>e= .normal∧a'=(ac i).put o.dst (vs i)∧S w') [o] (ac i) w)
 (hend:∀w,S w→Q .normal (ac ops.size) w):
 ∀(fuel:Nat) (listed:Array Bool) (a:Act) (w:World),Closed .any ops listed→listed.size=ops.size→lacks ops.size (fun j=>listed.getD j false)=fuel→Flo ops a0 vs (fun j=>listed.getD j false) a→S w→wpAny P .any ops Q fuel listed a w:=by
 have hnone:∀(listed:Array Bool),listed.size=ops.size→Region.ready .any ops listed=[]→∀i,i<ops.size→listed.getD i false=true:=by
  intro listed hsz hr i
  induction i using Nat.strongRecOn with
  |_ i ih=>
   intro hi;cases hl:listed.getD i false with
   |true=>rfl
   |false=>
    exfalso;have ho:ops[i]?=some ops[i]:=Array.getElem?_eq_getElem hi;have hm:i∈Region.ready .any ops listed:=by
     rw[mem_ready];refine⟨?_,ops[i],ho,fun e he hb=> ?_⟩
     ·have hi2:i<listed.size:=(by omega);simp only[Array.getD_eq_getD_getElem?,Array.getElem?_eq_getElem hi2,Option.getD_some]at hl⊢;exact hl
     ·have h1:=lC hB ho e he hb;exact ih e.on h1 (by omega)
    rw[hr]at hm;cases hm
 have hfin:∀(listed:Array Bool) (a:Act) (w:World),(∀i,i<ops.size→listed.getD i false=true)→Flo ops a0 vs (fun j=>listed.getD j false) a→S w→Q .normal a w:=by
  intro listed a w hall hf hS;have:a=ac ops.size:=by
   have h1:a.tmps=(ac ops.size).tmps:=by
    refine Array.ext_getElem? fun t=> ?_;refine hf.agree (hac ops.size) fun j o hj _=> ?_;have hjs:=(Array.getElem?_eq_some_iff.1 hj).1;rw[hall j hjs];simp[hjs]
   have h2:a.defers=(ac ops.size).defers:=(by rw[hf.defers,(hac ops.size).defers]);cases a;cases hx:ac ops.size;rw[hx]at h1 h2;simp only at h1 h2;rw[h1,h2]
  rw[this];exact hend w hS
 intro fuel
 induction fuel with
 |zero=>
  intro listed a w hcl hsz hlk hf hS;have hall:=nK _ _ hlk;refine⟨?_,hfin listed a w hall hf hS⟩;rw[List.eq_nil_iff_forall_not_mem];intro i hi;obtain⟨h1,o,ho,_⟩:=mem_ready.1 hi;have his:=(Array.getElem?_eq_some_iff.1 ho).1;have h2:=hall i his;have hi2:i<listed.size:=(by omega);simp only[Array.getD_eq_getD_getElem?,Array.getElem?_eq_getElem hi2,Option.getD_some]at h1 h2;rw[h1]at h2;cases h2
 |succ fuel ih=>
  intro listed a w hcl hsz hlk hf hS;refine⟨fun hr=>hfin listed a w (hnone listed hsz hr) hf hS,fun i hi=> ?_⟩;obtain⟨h1,o,ho,hall⟩:=mem_ready.1 hi;have his:=(Array.getElem?_eq_some_iff.1 ho).1;have hi2:i<listed.size:=(by omega);have hun:listed.getD i false=false:=by
   simp only[Array.getD_eq_getD_getElem?,Array.getElem?_eq_getElem hi2,Option.getD_some]at h1⊢;exact h1
  have hset:∀j,(listed.setIfInBounds i true).getD j false=(listed.getD j false||decide (j=i)):=fun j=>by
   by_cases hji:j=i
   ·subst hji;simp[Array.getD_eq_getD_getElem?,hi2]
   ·rw[getD_set_ne false (Ne.symm hji)];simp[hji]
  have hsel:=fun cs b=>Region.noSelect_spec (ops:=ops) (by unfold dQ at hB;rw[Bool.and_eq_true]at hB;exact hB.1) i o cs b ho;refine Dg (S:=S) (b:=ac i) (v:=vs i) ho hsel (fun t ht=> ?_) (by rw[hf.size,(hac i).size]) (fun w' hS'=> ?_) (hstep i o ho w hS)
  ·refine hf.agree (hac i) fun j oj hj hd=> ?_;rcases(jK hB ho hj hd).2 ht with⟨h2,h3⟩|⟨h2,h3⟩|h2
   ·rw[hcl.ready h3 hi];simp[h2]
   ·have h4:decide (j<i)=false:=(by simp;omega);rw[h4];cases hlj:listed.getD j false with
    |false=>rfl
    |true=>
     have:=hcl.waits _ _ _ h3 hlj;rw[hun]at this;cases this
   ·subst h2;rw[hun];simp
  ·refine ih (listed.setIfInBounds i true) _ w' (hcl.aK hi) (by rw[Array.size_setIfInBounds];exact hsz) ?_ (hf.put hB ho hset) hS';have:=nM (f:=fun j=>listed.getD j false) (g:=fun j=>(listed.setIfInBounds i true).getD j false) hun hset ops.size his;omega
def yY(P:Program)(ops:Array Oper)(S:World→Prop)(K:Act→Prop):List Oper→Act→Prop
 |[],a=>K a
 |o::os,a=>∃v,(∀w,S w→wpList P ops (fun e a' w'=>e= .normal∧a'=a.put o.dst v∧S w') [o] a w)∧yY P ops S K os (a.put o.dst v)
theorem uG{S:World→Prop}{K:Act→Prop}:∀(os:List Oper) (a:Act),yY P ops S K os a→∃(vs:Nat→Value) (ac:Nat→Act),ac 0=a∧
 (∀i o,os[i]?=some o→(∀w,S w→wpList P ops (fun e a' w'=>e= .normal∧a'=(ac i).put o.dst (vs i)∧S w') [o] (ac i) w)∧ac (i+1)=(ac i).put o.dst (vs i))∧(∀i,os.length≤i→ac i=ac os.length)∧K (ac os.length)
 |[],a,h=>⟨fun _=>undef,fun _=>a,rfl,fun i o h=>by simp at h,fun _ _=>rfl,h⟩
 |o::os,a,h=>by
  obtain⟨v,h1,h2⟩:=h;obtain⟨vs,ac,e0,hs,hl,hk⟩:=uG os _ h2;refine⟨fun i=>match i with|0=>v|i+1=>vs i,fun i=>match i with|0=>a|i+1=>ac i,rfl,fun i o' ho=> ?_,fun i hi=> ?_,hk⟩
  ·cases i with
   |zero=>
    simp only[gZ,Option.some.injEq]at ho;subst ho;exact⟨h1,e0⟩
   |succ i=>exact hs i o' (by simpa using ho)
  ·cases i with
   |zero=>simp at hi
   |succ i=>exact hl i (by simpa using hi)
theorem bK {id:Nat} {w:World} {l:List Oper} (S:World→Prop) (hm:P.follows .mixedOrders=true) (hB:dQ l.toArray=true) (hS:S w.drew)
 (h:yY P l.toArray S (fun a'=>∀w',S w'→Q .normal a' w') l a):(Code.region id l.toArray true).wp P Q a w:=by
 obtain⟨vs,ac,e0,hs,hl,hk⟩:=uG _ _ h;have hsz:l.toArray.size=l.length:=(by simp);have hget:∀i:Nat,l.toArray[i]?=l[i]?:=fun i=>List.getElem?_toArray ..;have hac:∀i,Flo l.toArray a vs (fun j=>decide (j<i)) (ac i):=by
  intro i
  induction i with
  |zero=>rw[e0];exact Flo.start fun j=>by simp
  |succ i ih=>
   cases hx:l[i]? with
   |none=>
    have hle:l.length≤i:=by
     rcases Nat.lt_or_ge i l.length with h1|h1
     ·rw[List.getElem?_eq_getElem h1]at hx;cases hx
     ·exact h1
    rw[hl (i+1) (by omega),←hl i hle];refine⟨ih.defers,ih.size,fun j o t hj hd hlt hs=>ih.hit j o t hj hd ?_ hs,fun t ht=>ih.miss t fun j o hj hd=> ?_⟩
    ·have:=(Array.getElem?_eq_some_iff.1 hj).1;simp at this⊢;omega
    ·have:=ht j o hj hd;simp at this⊢;omega
   |some o=>
    rw[(hs i o hx).2];refine ih.put hB (by rw[hget];exact hx) fun j=> ?_;rw[Bool.eq_iff_iff];simp;omega
 refine wp_region_any hm ?_;refine Ae (S:=S) hB hac (fun i o ho=>(hs i o (by rw[←hget];exact ho)).1) (fun w hw=>by rw[hsz];exact hk w hw) _ _ a _ (Closed.start _ _ _) (by simp) ?_ (Flo.start fun j=>getD_replicate_false _ _) hS;have:(fun j=>(Array.replicate l.toArray.size false).getD j false)=fun _=>false:=funext fun j=>getD_replicate_false _ _;rw[this,lD]
end
section
variable{P:Program}{ops:Array Oper}{Q:Exit→Act→World→Prop}{a b a0:Act}
theorem Flo.congr{vs vs':Nat→Value}{L:Nat→Bool}(h:Flo ops a0 vs L a)(hv:∀j,L j=true→vs j=vs' j):Flo ops a0 vs' L a:=
 ⟨h.defers,h.size,fun j o t hj hd hl hs=>by rw[←hv j hl];exact h.hit j o t hj hd hl hs,h.miss⟩
theorem Af {i:Nat} {o:Oper} {w:World} {R:Value→World→Prop} {K:Act→World→Prop} (ho:ops[i]?=some o) (hsel:∀cs b,o.op≠ .select cs b)
 (hr:∀t∈gJ ops o,a.tmps[t]?=b.tmps[t]?) (hs:a.tmps.size=b.tmps.size) (hK:∀v w',R v w'→K (a.put o.dst v) w')
 (h:wpList P ops (fun e a' w'=>e= .normal∧∃v,a'=b.put o.dst v∧R v w') [o] b w):wpOp P ops Q i K a w:=by
 have hw:Region.wanted o (yielded ops a.tmps)=Region.wanted o (yielded ops b.tmps):=by
  unfold Region.wanted;cases hg:o.guard with
  |none=>rfl
  |some g=>
   obtain⟨j,x⟩:=g;dsimp only;have:yielded ops a.tmps j=yielded ops b.tmps j:=by
    unfold yielded;cases hd:(ops[j]?).bind (·.dst)with
    |none=>rfl
    |some t=>
     have hm:t∈gJ ops o:=by
      unfold gJ;rw[hg];refine List.mem_append.2 (.inr ?_);show t∈((ops[j]?).bind (·.dst)).toList;rw[hd];simp
     simp only[Option.bind_some];rw[hr t hm]
   rw[this]
 have he:execOp a.eval o=execOp b.eval o:=by
  refine execOp_congr o hsel fun x hx=> ?_;cases x with
  |tmp t=>
   have hm:t∈gJ ops o:=by
    unfold gJ;refine List.mem_append.2 (.inl ?_);rw[List.mem_filterMap];exact⟨.tmp t,by simpa using hx,rfl⟩
   have:=hr t hm;simp only[Act.eval,Array.getD_eq_getD_getElem?,this]
  |_=>rfl
 unfold wpOp;rw[ho];dsimp only;unfold wpList at h;rw[hw];by_cases hwd:Region.wanted o (yielded ops b.tmps)=true
 ·rw[if_pos hwd]at h⊢;left;rcases h with h|⟨_,_,_,h,_⟩
  ·unfold Oper.wp at*;rw[he];generalize(execOp b.eval o).run P w=r at h;have key:∀u w',wpList P ops (fun e a' w'=>e= .normal∧∃v,a'=b.put o.dst v∧R v w') [] (b.put o.dst u) w'→K (a.put o.dst u) w':=fun u w' h=>by
    unfold wpList at h;obtain⟨_,v,h1,h2⟩:=h;rw[tJ hs h1];exact hK v w' h2
   cases r with
   |halt x w'=>
    cases x<;>simp only[Oper.upon]at h⊢;exact absurd h.1 (by simp)
   |ok n w'=>
    cases n with
    |value u=>exact key u w' h
    |skip=>exact key undef w' h
    |defer d=>
     simp only[Oper.upon]at h;unfold wpList at h;obtain⟨_,v,h1,_⟩:=h;have h1:=congrArg Act.defers h1;rw[put_defers,put_defers]at h1;exact absurd (congrArg List.length h1) (by simp)
    |enter f args=>
     simp only[Oper.upon]at h⊢;refine Calls.mono h fun e w'' he=> ?_;cases e with
     |returned u=>exact key u w'' he
     |panicked c=>exact absurd he.1 (by simp)
     |outgrown=>
      obtain⟨_,_,h1,_⟩:=he;cases h1
    |row r args=>
     simp only[Oper.upon]at h⊢;exact Rows.mono h fun u w'' he=>key u w'' he
    |_=>simp only[Oper.upon]at h
  ·cases h
 ·rw[if_neg hwd]at h⊢;unfold wpList at h;obtain⟨_,v,h1,h2⟩:=h;rw[tJ hs h1];exact hK v w h2
def acV(ops:Array Oper)(a0:Act)(vs:Nat→Value):Nat→Act
 |0=>a0
 |i+1=>match ops[i]? with
  |some o=>(acV ops a0 vs i).put o.dst (vs i)
  |none=>acV ops a0 vs i
theorem pY(hB:dQ ops=true)(vs:Nat→Value):∀i,Flo ops a0 vs (fun j=>decide (j<i)) (acV ops a0 vs i)
 |0=>Flo.start fun j=>by simp
 |i+1=>by
  unfold acV;have ih:=pY hB vs i;cases hx:ops[i]? with
  |none=>
   have hle:ops.size≤i:=by
    rcases Nat.lt_or_ge i ops.size with h1|h1
    ·rw[Array.getElem?_eq_getElem h1]at hx;cases hx
    ·exact h1
   dsimp only;refine⟨ih.defers,ih.size,fun j o t hj hd hlt hs=>ih.hit j o t hj hd ?_ hs,fun t ht=>ih.miss t fun j o hj hd=> ?_⟩
   ·have:=(Array.getElem?_eq_some_iff.1 hj).1;simp at this⊢;omega
   ·have:=ht j o hj hd;simp at this⊢;omega
  |some o=>
   dsimp only;refine ih.put hB hx fun j=> ?_;rw[Bool.eq_iff_iff];simp;omega
def dx(vs:Nat→Value)(i:Nat)(v:Value):Nat→Value:=fun j=>if j=i then v else vs j
theorem F6 {Rs:Nat→(Nat→Value)→World→Prop} {S:World→Prop} {St:Nat→World→World→Prop} (hB:dQ ops=true) (dp:Nat→List Nat) (hdp:∀i j,j∈dp i→aU .any ops ops.size i j=true)
 (kl:Nat→List Nat) (hkl:∀i j k,i<ops.size→k<ops.size→j∈kl i→j∈dp k→k=i∨aU .any ops ops.size i k=true)
 (hcg:∀j vs vs' w,(∀k,k=j∨k∈dp j→vs k=vs' k)→Rs j vs w→Rs j vs' w) (hR:∀i j vs w w',j≠i→j∉kl i→Rs j vs w→St i w w'→Rs j vs w')
 (hstep:∀i o,ops[i]?=some o→∀(vs:Nat→Value) w,S w→(∀j∈dp i,Rs j vs w)→wpList P ops (fun e a' w'=>e= .normal∧∃v,a'=(acV ops a0 vs i).put o.dst v∧Rs i (dx vs i v) w'∧S w'∧St i w w') [o] (acV ops a0 vs i) w)
 (hend:∀(vs:Nat→Value) w,S w→(∀j,j<ops.size→(∀i,i<ops.size→j∉kl i)→Rs j vs w)→Q .normal (acV ops a0 vs ops.size) w):
 ∀(fuel:Nat) (listed:Array Bool) (a:Act) (w:World) (vs:Nat→Value),Closed .any ops listed→listed.size=ops.size→lacks ops.size (fun j=>listed.getD j false)=fuel→Flo ops a0 vs (fun j=>listed.getD j false) a→S w→
  (∀j,listed.getD j false=true→(∀i,listed.getD i false=true→j∉kl i)→Rs j vs w)→wpAny P .any ops Q fuel listed a w:=by
 have hnone:∀(listed:Array Bool),listed.size=ops.size→Region.ready .any ops listed=[]→∀i,i<ops.size→listed.getD i false=true:=by
  intro listed hsz hr i
  induction i using Nat.strongRecOn with
  |_ i ih=>
   intro hi;cases hl:listed.getD i false with
   |true=>rfl
   |false=>
    exfalso;have ho:ops[i]?=some ops[i]:=Array.getElem?_eq_getElem hi;have hm:i∈Region.ready .any ops listed:=by
     rw[mem_ready];refine⟨?_,ops[i],ho,fun e he hb=> ?_⟩
     ·have hi2:i<listed.size:=(by omega);simp only[Array.getD_eq_getD_getElem?,Array.getElem?_eq_getElem hi2,Option.getD_some]at hl⊢;exact hl
     ·have h1:=lC hB ho e he hb;exact ih e.on h1 (by omega)
    rw[hr]at hm;cases hm
 have hfin:∀(listed:Array Bool) (a:Act) (w:World) (vs:Nat→Value),listed.size=ops.size→(∀i,i<ops.size→listed.getD i false=true)→Flo ops a0 vs (fun j=>listed.getD j false) a→S w→(∀j,listed.getD j false=true→(∀i,listed.getD i false=true→j∉kl i)→Rs j vs w)→Q .normal a w:=by
  intro listed a w vs Pb hall hf hS hRs;have hac:=pY (a0:=a0) hB vs ops.size;have:a=acV ops a0 vs ops.size:=by
   have h1:a.tmps=(acV ops a0 vs ops.size).tmps:=by
    refine Array.ext_getElem? fun t=> ?_;refine hf.agree hac fun j o hj _=> ?_;have hjs:=(Array.getElem?_eq_some_iff.1 hj).1;rw[hall j hjs];simp[hjs]
   have h2:a.defers=(acV ops a0 vs ops.size).defers:=(by rw[hf.defers,hac.defers]);cases a;cases hx:acV ops a0 vs ops.size;rw[hx]at h1 h2;simp only at h1 h2;rw[h1,h2]
  rw[this];refine hend vs w hS fun j hj hk=>hRs j (hall j hj) fun i hi=>hk i ?_;rcases Nat.lt_or_ge i ops.size with h|h
  ·exact h
  ·rw[Array.getD_eq_getD_getElem?,Array.getElem?_eq_none (by omega)]at hi;cases hi
 intro fuel
 induction fuel with
 |zero=>
  intro listed a w vs hcl hsz hlk hf hS hRs;have hall:=nK _ _ hlk;refine⟨?_,hfin listed a w vs hsz hall hf hS hRs⟩;rw[List.eq_nil_iff_forall_not_mem];intro i hi;obtain⟨h1,o,ho,_⟩:=mem_ready.1 hi;have his:=(Array.getElem?_eq_some_iff.1 ho).1;have h2:=hall i his;have hi2:i<listed.size:=(by omega);simp only[Array.getD_eq_getD_getElem?,Array.getElem?_eq_getElem hi2,Option.getD_some]at h1 h2;rw[h1]at h2;cases h2
 |succ fuel ih=>
  intro listed a w vs hcl hsz hlk hf hS hRs;refine⟨fun hr=>hfin listed a w vs hsz (hnone listed hsz hr) hf hS hRs,fun i hi=> ?_⟩;obtain⟨h1,o,ho,hall⟩:=mem_ready.1 hi;have his:=(Array.getElem?_eq_some_iff.1 ho).1;have hi2:i<listed.size:=(by omega);have hun:listed.getD i false=false:=by
   simp only[Array.getD_eq_getD_getElem?,Array.getElem?_eq_getElem hi2,Option.getD_some]at h1⊢;exact h1
  have hset:∀j,(listed.setIfInBounds i true).getD j false=(listed.getD j false||decide (j=i)):=fun j=>by
   by_cases hji:j=i
   ·subst hji;simp[Array.getD_eq_getD_getElem?,hi2]
   ·rw[getD_set_ne false (Ne.symm hji)];simp[hji]
  have hsel:=fun cs b=>Region.noSelect_spec (ops:=ops) (by unfold dQ at hB;rw[Bool.and_eq_true]at hB;exact hB.1) i o cs b ho;have hac:=pY (a0:=a0) hB vs i;refine Af (b:=acV ops a0 vs i) (R:=fun v w'=>Rs i (dx vs i v) w'∧S w'∧St i w w') ho hsel (fun t ht=> ?_) (by rw[hf.size,hac.size]) (fun v w' hS'=> ?_) (hstep i o ho vs w hS fun j hj=>hRs j (hcl.ready (hdp i j hj) hi) fun i' hi' hk=>by
   have Pf:i'<ops.size:=by
    rcases Nat.lt_or_ge i' ops.size with h|h
    ·exact h
    ·rw[Array.getD_eq_getD_getElem?,Array.getElem?_eq_none (by omega)]at hi';cases hi'
   rcases hkl i' j i Pf his hk hj with e|e
   ·subst e;rw[hun]at hi';cases hi'
   ·have:=hcl.waits _ _ _ e hi';rw[hun]at this;cases this)
  ·refine hf.agree hac fun j oj hj hd=> ?_;rcases(jK hB ho hj hd).2 ht with⟨h2,h3⟩|⟨h2,h3⟩|h2
   ·rw[hcl.ready h3 hi];simp[h2]
   ·have h4:decide (j<i)=false:=(by simp;omega);rw[h4];cases hlj:listed.getD j false with
    |false=>rfl
    |true=>
     have:=hcl.waits _ _ _ h3 hlj;rw[hun]at this;cases this
   ·subst h2;rw[hun];simp
  ·obtain⟨hv,hS2,hst⟩:=hS';have hf2:Flo ops a0 (dx vs i v) (fun j=>listed.getD j false) a:=hf.congr fun j hj=>by
    unfold dx;rw[if_neg];rintro rfl;rw[hun]at hj;cases hj
   have hput:=hf2.put hB ho hset;have hvi:dx vs i v i=v:=(by simp[dx]);rw[hvi]at hput;refine ih (listed.setIfInBounds i true) _ w' (dx vs i v) (hcl.aK hi) (by rw[Array.size_setIfInBounds];exact hsz) ?_ hput hS2 fun j hj hkj=> ?_
   ·have:=nM (f:=fun j=>listed.getD j false) (g:=fun j=>(listed.setIfInBounds i true).getD j false) hun hset ops.size his;omega
   ·rw[hset]at hj;by_cases hji:j=i
    ·subst hji;exact hv
    ·have hjl:listed.getD j false=true:=(by simpa[hji]using hj);refine hcg j vs _ _ (fun k hk=> ?_) (hR i j _ _ _ hji (hkj i (by rw[hset];simp)) (hRs j hjl fun i' hi'=>hkj i' (by rw[hset,hi'];rfl)) hst);unfold dx;rw[if_neg];rintro rfl;rcases hk with e|hk
     ·exact hji e.symm
     ·have:=hcl.waits _ _ _ (hdp j k hk) hjl;rw[hun]at this;cases this
def oL(R:Value→World→Prop)(a:Act)(d:Option Tmp):Exit→Act→World→Prop:=fun e a' w'=>e= .normal∧∃v,a'=a.put d v∧R v w'
theorem dV {id:Nat} {w:World} {l:List Oper} (Rs:Nat→(Nat→Value)→World→Prop) (S:World→Prop) (St:Nat→World→World→Prop) (dp:Nat→List Nat) (hm:P.follows .mixedOrders=true) (hB:dQ l.toArray=true)
 (hdp:((List.range l.length).all fun i=>(dp i).all fun j=>aU .any l.toArray l.length i j)=true) (Mt:∀i,l.length≤i→dp i=[])
 (kl:Nat→List Nat) (hkl:((List.range l.length).all fun i=>(kl i).all fun j=>(List.range l.length).all fun k=> !(dp k).contains j||k==i||aU .any l.toArray l.length i k)=true)
 (hcg:∀j vs vs' w,(∀k,k=j∨k∈dp j→vs k=vs' k)→Rs j vs w→Rs j vs' w) (hR:∀i j vs w w',j≠i→j∉kl i→Rs j vs w→St i w w'→Rs j vs w') (hS:S w.drew)
 (hstep:∀i o,l[i]?=some o→∀(vs:Nat→Value) w,S w→(∀j∈dp i,Rs j vs w)→wpList P l.toArray (oL (fun v w'=>Rs i (dx vs i v) w'∧S w'∧St i w w') (acV l.toArray a vs i) o.dst) [o] (acV l.toArray a vs i) w)
 (hend:∀(vs:Nat→Value) w,S w→(∀j,j<l.length→(∀i,i<l.length→j∉kl i)→Rs j vs w)→Q .normal (acV l.toArray a vs l.length) w):(Code.region id l.toArray true).wp P Q a w:=by
 have hsz:l.toArray.size=l.length:=(by simp);have hget:∀i:Nat,l.toArray[i]?=l[i]?:=fun i=>List.getElem?_toArray ..;refine wp_region_any hm ?_;refine F6 (Rs:=Rs) (S:=S) (St:=St) hB dp (fun i j hj=> ?_) kl (fun i j k hi hk hj hd=> ?_) hcg hR (fun i o ho=>hstep i o (by rw[←hget];exact ho)) (fun vs w h1 h2=>by rw[hsz];exact hend vs w h1 (by rw[←hsz];exact h2)) _ _ a _ (fun _=>undef) (Closed.start _ _ _) (by simp) ?_ (Flo.start fun j=>getD_replicate_false _ _) hS (fun j hj _=>by rw[getD_replicate_false]at hj;cases hj)
 ·rw[hsz];rcases Nat.lt_or_ge i l.length with h|h
  ·exact List.all_eq_true.1 (List.all_eq_true.1 hdp i (List.mem_range.2 h)) j hj
  ·rw[Mt i h]at hj;cases hj
 ·rw[hsz]at hi hk⊢;have h1:=List.all_eq_true.1 (List.all_eq_true.1 (List.all_eq_true.1 hkl i (List.mem_range.2 hi)) j hj) k (List.mem_range.2 hk);rw[Bool.or_eq_true,Bool.or_eq_true,Bool.not_eq_true',beq_iff_eq]at h1;rcases h1 with(h1|h1)|h1
  ·rw[List.contains_iff_mem.2 hd]at h1;cases h1
  ·exact .inl h1
  ·exact .inr h1
 ·have:(fun j=>(Array.replicate l.toArray.size false).getD j false)=fun _=>false:=funext fun j=>getD_replicate_false _ _;rw[this,lD]
end
end Go.Inq
namespace Go.Inq
open Go Go.RowKit
def uH(t:TypeId)(n:Nat)(b:Nat)(W W':World):Prop:=
 (W'.os=W.os∧W'.tape=W.tape∧W'.output=W.output∧W.heap.size≤W'.heap.size)∧∀k,k<W.heap.size→W'.heap[k]?=W.heap[k]?∨(b≤k∧∃cs cs',W.heap[k]?=some (.cells cs t (0,0))∧W'.heap[k]?=some (.cells cs' t (0,0))∧cs'.size=n)
section
variable{t:TypeId}{n b:Nat}{W W':World}
theorem uH.of_below(h:Below W.heap.size W W'):uH t n b W W':=⟨⟨h.os,h.tape,h.output,h.size⟩,fun k hk=> .inl (h.block k hk)⟩
theorem uH.blk{g:Nat}{t':TypeId}{cs:Array Value}(h:uH t n b W W')(hk:Blk W g t' cs)(ht:t'≠t):Blk W' g t' cs:=by
 rcases h.2 g hk.lt with e|⟨_,cs1,_,e,_⟩
 ·exact e.trans hk
 ·rw[show W.heap[g]?=_ from hk]at e;injection e with e
  injection e with _ e
  exact absurd e ht
theorem uH.aK{g:Nat}{cs:Array Value}(hk:Blk W g t cs)(hg:b≤g)(hb:Below W.heap.size W' W'){cs':Array Value}(hk':Blk W' g t cs')(hs:cs'.size=n)(h0:W'.os=W.os∧W'.tape=W.tape∧W'.output=W.output∧W.heap.size≤W'.heap.size)(ho:∀k,k≠g→W'.heap[k]?=W.heap[k]?):uH t n b W W':=
 ⟨h0,fun k _=>by
  by_cases e:k=g
  ·subst e;exact .inr ⟨hg,cs,cs',hk,hk',hs⟩
  ·exact .inl (ho k e)⟩
end
def Jf(t:TypeId)(b:Nat)(v:Value)(W:World):Prop:=∃g,b≤g∧v= .pointer (some ⟨g,0,none⟩)∧∃x y z u,Blk W g t #[x,y,z,u]
theorem Jf.var{t:TypeId}{b b':Nat}{v:Value}{W W':World}(h:Jf t b v W)(hs:uH t 4 b' W W'):Jf t b v W':=by
 obtain⟨g,h1,h2,x,y,z,u,h3⟩:=h;rcases hs.2 g h3.lt with e|⟨_,cs,cs',_,e2,e3⟩
 ·exact⟨g,h1,h2,x,y,z,u,e.trans h3⟩
 ·refine⟨g,h1,h2,cs'[0]'(by omega),cs'[1]'(by omega),cs'[2]'(by omega),cs'[3]'(by omega),?_⟩;have:cs'=#[cs'[0]'(by omega),cs'[1]'(by omega),cs'[2]'(by omega),cs'[3]'(by omega)]:=by
   refine Array.ext (by simp[e3]) fun i h1 h2=> ?_;simp at h2
   match i,h2 with
   |0,_=>rfl
   |1,_=>rfl
   |2,_=>rfl
   |3,_=>rfl
  unfold Blk;rw[←this];exact e2
end Go.Inq
namespace Go.Inq
open Go
section
variable{P:Program}{ops:Array Oper}{Q:Exit→Act→World→Prop}{md:Region.Mode}
def dR(i:Nat)(tss:List (List Nat)):List (List Nat):=
 tss.filterMap fun r=>match r with
  |t::r'=>if t=i then some r' else none
  |[]=>none
def uI(P:Program)(ops:Array Oper)(Q:Exit→Act→World→Prop):Nat→List (List Nat)→Act→World→Prop
 |0,_,a,w=>Q .normal a w
 |n+1,tss,a,w=>∀i∈tss.filterMap List.head?,wpOp P ops Q i (uI P ops Q n (dR i tss)) a w
def qY(md:Region.Mode)(ops:Array Oper)(us:List Nat):Nat→List (List Nat)→Array Bool→Bool
 |0,_,listed=>(Region.ready md ops listed).isEmpty
 |n+1,tss,listed=>
  (match tss.filterMap List.head? with
   |t::r=>r.all (·==t)&&us.contains t&&(Region.ready md ops listed).contains t&&Region.free md ops listed t&&(match ops[t]? with|some o=>kV o.op|none=>false)&&
    qY md ops us n (dR t tss) (listed.setIfInBounds t true)
   |[]=>false)||
  (!(Region.ready md ops listed).isEmpty&&(Region.ready md ops listed).all fun i=>(tss.filterMap List.head?).contains i&&us.contains i&&qY md ops us n (dR i tss) (listed.setIfInBounds i true))
def iR:Op→Bool
 | .move _| .assign _| .pick .. | .build .. | .indexAddr .. | .extract .. | .makeFunc .. | .nilCheck _| .load .. =>true
 |_=>false
theorem yZ{ρ:Operand→Value}{o:Oper}(h:iR o.op=true){w w':World}{n:Next}(hr:(execOp ρ o).run P w= .ok n w'):w'=w∧∃v,n= .value v:=by
 by_cases hl:jT o.op=true
 ·cases ho:o.op<;>rw[ho]at hl<;>simp[jT]at hl;case load t x=>
   have e:execOp ρ o=(do Pure.pure (.value (←Instr.loadAt t (ρ x)))):=(by unfold execOp;rw[ho]);have hv:=iP (P:=P) (ρ:=ρ) (o:=o) (by rw[ho];rfl) hr;rw[e]at hr;exact⟨(Stb.bind (Stb.loadAt _ _) (fun _=>(Clear.pure _).stb) P _ _ _ hr).1,hv⟩
 ·have hw:worldless P o.op=true:=(by cases ho:o.op<;>rw[ho]at h hl<;>simp[iR,jT]at h hl<;>rfl);have hv:=iP (P:=P) (ρ:=ρ) (o:=o) (by cases ho:o.op<;>rw[ho]at h hl<;>simp[iR,jT]at h hl<;>rfl) hr;refine⟨?_,hv⟩;have:=(jc hw hr w).symm.trans hr;injection this with _ e
  exact e.symm
theorem Dh{t:Nat}{o:Oper}{a:Act}{w:World}{K:Act→World→Prop}(ho:ops[t]?=some o)(hc:iR o.op=true)(h:wpOp P ops Q t K a w):wpOp P ops Q t (fun a' w'=>w'=w∧K a' w') a w:=by
 unfold wpOp at*;rw[ho]at h⊢;dsimp only at*;by_cases hw:Region.wanted o (yielded ops a.tmps)=true
 ·rw[if_pos hw]at h⊢;refine h.imp (fun h=> ?_) id;unfold Oper.wp at*;generalize hr:(execOp a.eval o).run P w=r at*;cases r with
  |halt x w'=>cases x<;>simp only[Oper.upon]at h⊢<;>exact h
  |ok n w'=>
   obtain⟨he,v,rfl⟩:=yZ hc hr;exact⟨he,h⟩
 ·rw[if_neg hw]at h⊢;exact⟨rfl,h⟩
def fP(ops:Array Oper)(us:List Nat)(j:Nat):Nat:=
 if us.contains j then(match ops[j]? with|some o=>if fG o.op then 1 else if iR o.op then 0 else 2|none=>0)else 0
theorem F7{us:List Nat}{t:Nat}(hf:us.contains t=true){K:Act→World→Prop}{a:Act}{w:World}(h:wpOp P ops Q t K a w):
 wpOp P ops Q t (fun a' w'=>((fP ops us t=0→w'=w)∧(fP ops us t=1→Ext w w'))∧K a' w') a w:=by
 cases ho:ops[t]? with
 |none=>unfold wpOp at*;rw[ho]at h⊢;exact⟨⟨fun _=>rfl,fun _=>Ext.refl _⟩,h⟩
 |some o=>
  have e:fP ops us t=if fG o.op then 1 else if iR o.op then 0 else 2:=(by unfold fP;rw[if_pos hf,ho]);rw[e];by_cases hal:fG o.op=true
  ·rw[if_pos hal];exact wpOp_mono (fun a' w' h=>⟨⟨fun h0=>absurd h0 (by simp),fun _=>h.1⟩,h.2⟩) (tV ho hal h)
  ·rw[if_neg hal];by_cases hst:iR o.op=true
   ·rw[if_pos hst];exact wpOp_mono (fun a' w' h=>⟨⟨fun _=>h.1,fun h1=>absurd h1 (by simp)⟩,h.2⟩) (Dh ho hst h)
   ·rw[if_neg hst];exact wpOp_mono (fun a' w' h=>⟨⟨fun h0=>absurd h0 (by simp),fun h1=>absurd h1 (by simp)⟩,h⟩) h
theorem oM{us:List Nat}(hQ:∀c a (d:Option Tmp) v w,Q (.panic c) (a.put d v) w→Q (.panic c) a w)(hs:Region.noSelect ops=true):∀(n:Nat) (tss:List (List Nat)) (listed:Array Bool) (a:Act) (w:World),Closed md ops listed→qY md ops us n tss listed=true→
 uI P ops Q n tss a w→mo P md ops Q (fP ops us) n listed a w
 |0,_,_,_,_,_,hB,h=>⟨by simpa[qY]using hB,h⟩
 |n+1,tss,listed,a,w,hcl,hB,h=>by
  unfold qY at hB;rw[Bool.or_eq_true]at hB;unfold uI at h;rcases hB with hB|hB
  ·split at hB
   ·rename_i t r Mv;simp only[Bool.and_eq_true]at hB;obtain⟨⟨⟨⟨⟨_,hu⟩,hr⟩,hfr⟩,hc⟩,hB⟩:=hB;have hr':t∈Region.ready md ops listed:=(by simpa using hr);have h1:=h t (by rw[Mv];simp);cases ho:ops[t]? with
    |none=>rw[ho]at hc;cases hc
    |some o=>
     rw[ho]at hc;obtain⟨v,hy,hK⟩:=mq ho hc h1;exact dz (S:=fun _=>True) ho (Region.noSelect_spec hs) (fun c a w=>hQ c a _ _ w) (fun _ _ _ _ _ _ _ _ _=>trivial) _ listed a w hcl (Region.free_spec ho hfr) hr' hy trivial
      (oM hQ hs n _ _ _ w (hcl.aK hr') hB hK)
   ·cases hB
  ·simp only[Bool.and_eq_true,List.all_eq_true]at hB;refine⟨fun h0=>(by rw[h0]at hB;simp at hB),fun i hi=> ?_⟩;obtain⟨⟨hh,hu⟩,hB2⟩:=hB.2 i hi;have h1:=h i (by simpa using hh);exact wpOp_mono (fun a' w' h'=>⟨h'.1,oM hQ hs n _ _ a' w' (hcl.aK hi) hB2 h'.2⟩) (F7 hu h1)
def tK(P:Program)(md:Region.Mode)(ops:Array Oper)(us:List Nat)(tss:List (List Nat)):List Nat→Array Bool→Bool
 |[],listed=>qY md ops us us.length tss listed
 |i::es,listed=>(Region.ready md ops listed).contains i&&Region.free md ops listed i&& !us.contains i&&
  (match ops[i]? with
   |some o=>kU o.op&&(worldless P o.op||(us.all fun j=>aU md ops ops.size j i||((match ops[j]? with|some oj=>iR oj.op&& !fG oj.op|none=>false)||(jT o.op&&(match ops[j]? with|some oj=>fG oj.op|none=>false)))))
   |none=>false)&&
  tK P md ops us tss es (listed.setIfInBounds i true)
theorem rV{us:List Nat}{j:Nat}(hfj:us.contains j=true)(h:(match ops[j]? with|some oj=>iR oj.op&& !fG oj.op|none=>false)=true):fP ops us j=0:=by
 unfold fP;rw[if_pos hfj];cases hoj:ops[j]? with
 |none=>rfl
 |some oj=>
  rw[hoj]at h;simp only[Bool.and_eq_true,Bool.not_eq_true']at h;simp[h.1,h.2]
theorem oh{w:World}(hQ:∀c a (d:Option Tmp) v w,Q (.panic c) (a.put d v) w→Q (.panic c) a w)(hs:Region.noSelect ops=true)(us:List Nat)(tss:List (List Nat)):∀(es:List Nat) (listed:Array Bool) (a:Act),Closed md ops listed→
 tK P md ops us tss es listed=true→wpStill P ops w (fun a'=>uI P ops Q us.length tss a' w) (es.filterMap (ops[·]?)) a→mo P md ops Q (fP ops us) (es.length+us.length) listed a w
 |[],listed,a,hcl,hB,h=>by
  simp only[List.length_nil,Nat.zero_add];exact oM hQ hs us.length tss listed a w hcl hB h
 |i::es,listed,a,hcl,hB,h=>by
  simp only[tK,Bool.and_eq_true]at hB;obtain⟨⟨⟨⟨hr,hf⟩,hnt⟩,hk⟩,hrest⟩:=hB;have hr':i∈Region.ready md ops listed:=(by simpa using hr);cases ho:ops[i]? with
  |none=>rw[ho]at hk;cases hk
  |some o=>
   rw[ho]at hk;simp only[Bool.and_eq_true,Bool.or_eq_true]at hk;rw[List.filterMap_cons_some ho]at h;obtain⟨v,hy,hy0,hyl,hK⟩:=jE (K:=wpStill P ops w (fun a'=>uI P ops Q us.length tss a' w) (es.filterMap (ops[·]?))) hk.1 h;have IH:=oh hQ hs us tss es (listed.setIfInBounds i true) _ (hcl.aK hr') hrest hK;rw[List.length_cons,show es.length+1+us.length=(es.length+us.length)+1 by omega];rcases hk.2 with hl|hl
   ·exact dz (S:=fun _=>True) ho (Region.noSelect_spec hs) (fun c a w=>hQ c a _ _ w) (fun _ _ _ _ _ _ _ _ _=>trivial) _ listed a w hcl (Region.free_spec ho hf) hr' (hy0 hl) trivial IH
   ·by_cases hld:jT o.op=true
    ·refine dz (S:=fun u=>Ext w u) ho (Region.noSelect_spec hs) (fun c a w=>hQ c a _ _ w) (fun listed' j hcl' hj hun u u' hu hc=> ?_) _ listed a w hcl (Region.free_spec ho hf) hr' (hyl hld) (Ext.refl _) IH;cases hfj:us.contains j with
     |false=>
      have:fP ops us j=0:=(by unfold fP;rw[if_neg (by rw[hfj];simp)]);rw[hc.1 this];exact hu
     |true=>
      have hwj:=List.all_eq_true.1 hl j (by simpa using hfj);simp only[Bool.or_eq_true,Bool.and_eq_true]at hwj;rcases hwj with hwj|hwj|⟨_,hwj⟩
      ·rw[hcl'.ready hwj hj]at hun;cases hun
      ·rw[hc.1 (rV hfj hwj)];exact hu
      ·cases hoj:ops[j]? with
       |none=>rw[hoj]at hwj;cases hwj
       |some oj=>
        rw[hoj]at hwj;have:fP ops us j=1:=(by unfold fP;rw[if_pos hfj,hoj];simp[hwj]);exact hu.trans (hc.2 this)
    ·refine dz (S:=fun u=>u=w) ho (Region.noSelect_spec hs) (fun c a w=>hQ c a _ _ w) (fun listed' j hcl' hj hun u u' hu hc=> ?_) _ listed a w hcl (Region.free_spec ho hf) hr' hy rfl IH;cases hfj:us.contains j with
     |false=>
      have:fP ops us j=0:=(by unfold fP;rw[if_neg (by rw[hfj];simp)]);rw[hc.1 this];exact hu
     |true=>
      have hwj:=List.all_eq_true.1 hl j (by simpa using hfj);simp only[Bool.or_eq_true,Bool.and_eq_true]at hwj;rcases hwj with hwj|hwj|⟨h2,_⟩
      ·rw[hcl'.ready hwj hj]at hun;cases hun
      ·rw[hc.1 (rV hfj hwj)];exact hu
      ·exact absurd h2 hld
def Jg(P:Program)(ops:Array Oper)(es us:List Nat)(tss:List (List Nat)):Bool:=
 Region.noSelect ops&&(es.length+us.length==ops.size)&&tK P .any ops us tss es (Array.replicate ops.size false)
theorem jl {id:Nat} {a:Act} {w:World} {l:List Oper} (es us:List Nat) (tss:List (List Nat)) (hm:P.follows .mixedOrders=true) (hB:Jg P l.toArray es us tss=true)
 (hQ:∀c a (d:Option Tmp) v w,Q (.panic c) (a.put d v) w→Q (.panic c) a w)
 (h:wpStill P l.toArray w.drew (fun a'=>uI P l.toArray Q us.length tss a' w.drew) (es.filterMap (l[·]?)) a):(Code.region id l.toArray true).wp P Q a w:=by
 simp only[Jg,Bool.and_eq_true,beq_iff_eq]at hB;obtain⟨⟨hs,hn⟩,hE⟩:=hB;refine wp_region_any hm (oH (cls:=fP l.toArray us) _ _ _ _ ?_);rw[←hn];refine oh (w:=w.drew) hQ hs us tss es _ a (Closed.start _ _ _) (by rw[hn];exact hE) ?_;have e1:(fun(i:Nat)=>l.toArray[i]?)=fun(i:Nat)=>l[i]?:=(by funext i;simp);rw[e1];exact h
theorem dW{i:Nat}{o:Oper}{K:Act→World→Prop}{a:Act}{w:World}(ho:ops[i]?=some o)(h:wpList P ops (Exit.then K Q) [o] a w):wpOp P ops Q i K a w:=by
 unfold wpOp;rw[ho];unfold wpList at h;dsimp only;split at h
 ·rename_i hw;rw[if_pos hw];refine h.imp (fun h=> ?_) id;unfold Oper.wp at h⊢;generalize(execOp a.eval o).run P w=r at h⊢;cases r with
  |halt x w'=>cases x<;>exact h
  |ok n w'=>cases n<;>exact h
 ·rename_i hw;rw[if_neg hw];exact h
theorem dK:∀(ts:List Nat) (n:Nat) (a:Act) (w:World),ts.length=n→wpList P ops Q (ts.filterMap (ops[·]?)) a w→uI P ops Q n [ts] a w
 |[],n,a,w,hn,h=>by
  subst hn;exact h
 |t::ts,n,a,w,hn,h=>by
  subst hn;intro i hi;have:i=t:=(by simpa using hi);subst this;have e:dR i [i::ts]=[ts]:=(by simp[dR]);rw[e];cases ho:ops[i]? with
  |none=>
   unfold wpOp;rw[ho];rw[List.filterMap_cons_none ho]at h;exact dK ts _ a w rfl h
  |some o=>
   rw[List.filterMap_cons_some ho]at h;unfold wpOp;rw[ho];unfold wpList at h;dsimp only;split at h
   ·rename_i hw;rw[if_pos hw];exact h.imp (Oper.wp_mono fun a w=>dK ts _ a w rfl) id
   ·rename_i hw;rw[if_neg hw];exact dK ts _ _ _ rfl h
end
end Go.Inq
