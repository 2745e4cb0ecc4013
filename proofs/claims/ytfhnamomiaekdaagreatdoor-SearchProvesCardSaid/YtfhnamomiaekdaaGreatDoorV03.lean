/-
  A region that draws its order, where every operation floats: in every world of a set that all of them keep it yields the same. One walk in the row's own order serves every order.
-/
import Derived.Laws.CopyOwn
import Derived.Test.YtfhnamomiaekdaaGreatDoorV02
set_option linter.unusedVariables false
set_option linter.unusedSimpArgs false
namespace Go.Inq
open Go
section
variable{P:Program}{ops:Array Oper}{Q:Exit→Act→World→Prop}
def iK(ops:Array Oper)(o:Oper):List Nat:=
 (o.op.operands.toList.filterMap fun| .tmp t=>some t|_=>none)++(match o.guard with|some (j,_)=>((ops[j]?).bind (·.dst)).toList|none=>[])
def eH(ops:Array Oper):Bool:=
 Region.noSelect ops&&(List.range ops.size).all fun i=>match ops[i]? with
  |none=>true
  |some o=>(o.after.all fun e=> !Region.binds .any e||decide (e.on<i))&&
   (List.range ops.size).all fun j=>match ops[j]? with
    |none=>true
    |some oj=>match oj.dst with
     |none=>true
     |some t=>(i==j||o.dst !=some t)&&(!(iK ops o).contains t||(decide (j<i)&&bf .any ops ops.size i j)||(decide (i<j)&&bf .any ops ops.size j i)||i==j)
theorem nC(h:eH ops=true){i:Nat}{o:Oper}(ho:ops[i]?=some o):∀e∈o.after,Region.binds .any e=true→e.on<i:=by
 intro e he hb;unfold eH at h;rw[Bool.and_eq_true,List.all_eq_true]at h;have h1:=h.2 i (List.mem_range.2 (Array.getElem?_eq_some_iff.1 ho).1);rw[ho]at h1;dsimp only at h1;rw[Bool.and_eq_true]at h1;have h2:=Array.all_eq_true_iff_forall_mem.1 h1.1 e he;rw[hb]at h2;simpa using h2
theorem lG(h:eH ops=true){i j:Nat}{o oj:Oper}(ho:ops[i]?=some o)(hj:ops[j]?=some oj){t:Nat}(ht:oj.dst=some t):
 (i=j∨o.dst≠some t)∧(t∈iK ops o→(j<i∧bf .any ops ops.size i j=true)∨(i<j∧bf .any ops ops.size j i=true)∨i=j):=by
 unfold eH at h;rw[Bool.and_eq_true,List.all_eq_true]at h;have h1:=h.2 i (List.mem_range.2 (Array.getElem?_eq_some_iff.1 ho).1);rw[ho]at h1;dsimp only at h1;rw[Bool.and_eq_true,List.all_eq_true]at h1;have h2:=h1.2 j (List.mem_range.2 (Array.getElem?_eq_some_iff.1 hj).1);rw[hj]at h2;dsimp only at h2;rw[ht]at h2;dsimp only at h2;rw[Bool.and_eq_true]at h2;refine⟨?_,fun hm=> ?_⟩
 ·have:=h2.1;rw[Bool.or_eq_true,beq_iff_eq,bne_iff_ne]at this;exact this
 ·have h3:=h2.2;have hc:(iK ops o).contains t=true:=(by simpa using hm);rw[hc]at h3;simp only[Bool.not_true,Bool.false_or,Bool.or_eq_true,Bool.and_eq_true,decide_eq_true_eq,beq_iff_eq]at h3;rcases h3 with(h3|h3)|h3
  ·exact .inl h3
  ·exact .inr (.inl h3)
  ·exact .inr (.inr h3)
structure Flo(ops:Array Oper)(a0:Act)(vs:Nat→Value)(L:Nat→Bool)(a:Act):Prop where
 defers:a.defers=a0.defers
 size:a.tmps.size=a0.tmps.size
 hit:∀j o t,ops[j]?=some o→o.dst=some t→L j=true→t<a0.tmps.size→a.tmps[t]?=some (vs j)
 miss:∀t,(∀j o,ops[j]?=some o→o.dst=some t→L j=false)→a.tmps[t]?=a0.tmps[t]?
variable{a0 a b:Act}{vs:Nat→Value}{L L':Nat→Bool}
theorem Flo.start(h:∀j,L j=false):Flo ops a0 vs L a0:=⟨rfl,rfl,(fun j _ _ _ _ hl=>absurd hl (by rw[h j];simp)),fun _ _=>rfl⟩
theorem M6(a:Act)(d:Option Tmp)(v:Value):(a.put d v).tmps.size=a.tmps.size:=by
 cases d<;>simp[Act.put]
theorem put_defers(a:Act)(d:Option Tmp)(v:Value):(a.put d v).defers=a.defers:=by
 cases d<;>simp[Act.put]
theorem M7{d:Option Tmp}{t:Nat}(h:d≠some t)(a:Act)(v:Value):(a.put d v).tmps[t]?=a.tmps[t]?:=by
 cases d with
 |none=>rfl
 |some d=>
  have:d≠t:=fun e=>h (by rw[e]);simp[Act.put,Array.getElem?_setIfInBounds_ne this]
theorem put_eq{t:Nat}(a:Act)(v:Value)(h:t<a.tmps.size):(a.put (some t) v).tmps[t]?=some v:=by
 simp[Act.put,h]
theorem Flo.put(hB:eH ops=true){i:Nat}{o:Oper}(ho:ops[i]?=some o)(h:Flo ops a0 vs L a)(hL:∀j,L' j=(L j||decide (j=i))):Flo ops a0 vs L' (a.put o.dst (vs i)):=by
 refine⟨by rw[put_defers,h.defers],by rw[M6,h.size],fun j oj t hj ht hl hs=> ?_,fun t ht=> ?_⟩
 ·by_cases hji:j=i
  ·subst hji;have:oj=o:=Option.some.inj (hj.symm.trans ho);subst this;rw[ht,put_eq _ _ (by rw[h.size];exact hs)]
  ·have h1:L j=true:=(by rw[hL]at hl;simpa[hji]using hl);have hne:o.dst≠some t:=by
    rcases(lG hB ho hj ht).1 with e|e
    ·exact absurd e.symm hji
    ·exact e
   rw[M7 hne];exact h.hit j oj t hj ht h1 hs
 ·have hne:o.dst≠some t:=fun e=>by
   have:=ht i o ho e;rw[hL]at this;simp at this
  rw[M7 hne];refine h.miss t fun j oj hj hd=> ?_;have:=ht j oj hj hd;rw[hL]at this;rw[Bool.or_eq_false_iff]at this;exact this.1
theorem Flo.agree(h:Flo ops a0 vs L a)(h':Flo ops a0 vs L' b){t:Nat}(ht:∀j o,ops[j]?=some o→o.dst=some t→L j=L' j):a.tmps[t]?=b.tmps[t]?:=by
 by_cases hs:t<a0.tmps.size
 ·by_cases hx:∃j o,ops[j]?=some o∧o.dst=some t∧L j=true
  ·obtain⟨j,o,hj,hd,hl⟩:=hx;rw[h.hit j o t hj hd hl hs,h'.hit j o t hj hd (by rw[←ht j o hj hd];exact hl) hs]
  ·have hf:∀j o,ops[j]?=some o→o.dst=some t→L j=false:=fun j o hj hd=>by
    cases hl:L j with
    |false=>rfl
    |true=>exact absurd ⟨j,o,hj,hd,hl⟩ hx
   rw[h.miss t hf,h'.miss t fun j o hj hd=>by rw[←ht j o hj hd];exact hf j o hj hd]
 ·rw[Array.getElem?_eq_none (by rw[h.size];omega),Array.getElem?_eq_none (by rw[h'.size];omega)]
theorem yj{d:Option Tmp}{u v:Value}(hs:a.tmps.size=b.tmps.size)(h:b.put d u=b.put d v):a.put d u=a.put d v:=by
 cases d with
 |none=>rfl
 |some t=>
  rcases Nat.lt_or_ge t b.tmps.size with ht|ht
  ·have h1:=put_eq b u ht;rw[h,put_eq b v ht]at h1;injection h1 with h1
   rw[h1]
  ·have:∀x:Value,a.put (some t) x=a:=fun x=>by
    unfold Act.put;dsimp only;rw[Array.setIfInBounds_eq_of_size_le (show a.tmps.size≤t by rw[hs];exact ht)]
   rw[this,this]
theorem Gt {S:World→Prop} {i:Nat} {o:Oper} {w:World} {v:Value} {K:Act→World→Prop} (ho:ops[i]?=some o) (hsel:∀cs b,o.op≠ .select cs b)
 (hr:∀t∈iK ops o,a.tmps[t]?=b.tmps[t]?) (hs:a.tmps.size=b.tmps.size) (hK:∀w',S w'→K (a.put o.dst v) w')
 (h:wpList P ops (fun e a' w'=>e= .normal∧a'=b.put o.dst v∧S w') [o] b w):wpOp P ops Q i K a w:=by
 have hw:Region.wanted o (yielded ops a.tmps)=Region.wanted o (yielded ops b.tmps):=by
  unfold Region.wanted;cases hg:o.guard with
  |none=>rfl
  |some g=>
   obtain⟨j,x⟩:=g;dsimp only;have:yielded ops a.tmps j=yielded ops b.tmps j:=by
    unfold yielded;cases hd:(ops[j]?).bind (·.dst)with
    |none=>rfl
    |some t=>
     have hm:t∈iK ops o:=by
      unfold iK;rw[hg];refine List.mem_append.2 (.inr ?_);show t∈((ops[j]?).bind (·.dst)).toList;rw[hd];simp
     simp only[Option.bind_some];rw[hr t hm]
   rw[this]
 have he:execOp a.eval o=execOp b.eval o:=by
  refine execOp_congr o hsel fun x hx=> ?_;cases x with
  |tmp t=>
   have hm:t∈iK ops o:=by
    unfold iK;refine List.mem_append.2 (.inl ?_);rw[List.mem_filterMap];exact⟨.tmp t,by simpa using hx,rfl⟩
   have:=hr t hm;simp only[Act.eval,Array.getD_eq_getD_getElem?,this]
  |_=>rfl
 unfold wpOp;rw[ho];dsimp only;unfold wpList at h;rw[hw];by_cases hwd:Region.wanted o (yielded ops b.tmps)=true
 ·rw[if_pos hwd]at h⊢;left;rcases h with h|⟨_,_,_,h,_⟩
  ·unfold Oper.wp at*;rw[he];generalize(execOp b.eval o).run P w=r at h;have key:∀u w',wpList P ops (fun e a' w'=>e= .normal∧a'=b.put o.dst v∧S w') [] (b.put o.dst u) w'→K (a.put o.dst u) w':=fun u w' h=>by
    unfold wpList at h;rw[yj hs h.2.1];exact hK w' h.2.2
   cases r with
   |halt x w'=>
    cases x<;>simp only[Oper.upon]at h⊢;exact absurd h.1 (by simp)
   |ok n w'=>
    cases n with
    |value u=>exact key u w' h
    |skip=>exact key undef w' h
    |defer d=>
     simp only[Oper.upon]at h;unfold wpList at h;have h1:=congrArg Act.defers h.2.1;rw[put_defers,put_defers]at h1;exact absurd (congrArg List.length h1) (by simp)
    |enter f args=>
     simp only[Oper.upon]at h⊢;refine Calls.mono h fun e w'' he=> ?_;cases e with
     |returned u=>exact key u w'' he
     |panicked c=>exact absurd he.1 (by simp)
     |outgrown=>
      obtain⟨_,_,h1,_⟩:=he;cases h1
    |row r args=>
     simp only[Oper.upon]at h⊢;exact Rows.mono h fun u w'' he=>key u w'' he
    |_=>simp only[Oper.upon]at h
  ·cases h
 ·rw[if_neg hwd]at h⊢;unfold wpList at h;rw[yj hs h.2.1];exact hK w h.2.2
def lacks:Nat→(Nat→Bool)→Nat
 |0,_=>0
 |n+1,f=>lacks n f+if f n then 0 else 1
theorem qD(f:Nat→Bool):∀n,lacks n f=0→∀i,i<n→f i=true
 |0,_,i,hi=>absurd hi (by omega)
 |n+1,h,i,hi=>by
  unfold lacks at h;by_cases hn:f n=true
  ·by_cases hin:i=n
   ·rw[hin];exact hn
   ·exact qD f n (by omega) i (by omega)
  ·rw[if_neg hn]at h;omega
theorem yQ{f g:Nat→Bool}:∀n,(∀j,j<n→f j=g j)→lacks n f=lacks n g
 |0,_=>rfl
 |n+1,h=>by unfold lacks;rw[yQ n (fun j hj=>h j (by omega)),h n (by omega)]
theorem qE{f g:Nat→Bool}{i:Nat}(hf:f i=false)(hg:∀j,g j=(f j||decide (j=i))):∀n,i<n→lacks n f=lacks n g+1
 |0,h=>absurd h (by omega)
 |n+1,h=>by
  unfold lacks;by_cases hin:i=n
  ·subst hin;have h1:lacks i f=lacks i g:=yQ i fun j hj=>(by rw[hg j];simp;intro;omega);rw[h1,hf,hg i];simp
  ·have h1:=qE hf hg n (by omega);have h2:g n=f n:=(by rw[hg n];simp;intro;omega);rw[h1,h2];omega
theorem nE:∀n,lacks n (fun _=>false)=n
 |0=>rfl
 |n+1=>by unfold lacks;rw[nE n];rfl
theorem Ej {S:World→Prop} (hB:eH ops=true) {ac:Nat→Act} (hac:∀i,Flo ops a0 vs (fun j=>decide (j<i)) (ac i))
 (hstep:∀i o,ops[i]?=some o→∀w,S w→wpList P ops (fun e a' w'=>e= .normal∧a'=(ac i).put o.dst (vs i)∧S w') [o] (ac i) w)
 (hend:∀w,S w→Q .normal (ac ops.size) w):
 ∀(fuel:Nat) (listed:Array Bool) (a:Act) (w:World),Closed .any ops listed→listed.size=ops.size→lacks ops.size (fun j=>listed.getD j false)=fuel→Flo ops a0 vs (fun j=>listed.getD j false) a→S w→wpAny P .any ops Q fuel listed a w:=by
 have hnone:∀(listed:Array Bool),listed.size=ops.size→Region.ready .any ops listed=[]→∀i,i<ops.size→listed.getD i false=true:=by
  intro listed hsz hr i
  induction i using Nat.strongRecOn with
  |_ i ih=>
   intro hi;cases hl:listed.getD i false with
   |true=>rfl
   |false=>
    exfalso;have ho:ops[i]?=some ops[i]:=Array.getElem?_eq_getElem hi;have hm:i∈Region.ready .any ops listed:=by
     rw[mem_ready];refine⟨?_,ops[i],ho,fun e he hb=> ?_⟩
     ·have hi2:i<listed.size:=(by omega);simp only[Array.getD_eq_getD_getElem?,Array.getElem?_eq_getElem hi2,Option.getD_some]at hl⊢;exact hl
     ·have h1:=nC hB ho e he hb;exact ih e.on h1 (by omega)
    rw[hr]at hm;cases hm
 have hfin:∀(listed:Array Bool) (a:Act) (w:World),(∀i,i<ops.size→listed.getD i false=true)→Flo ops a0 vs (fun j=>listed.getD j false) a→S w→Q .normal a w:=by
  intro listed a w hall hf hS;have:a=ac ops.size:=by
   have h1:a.tmps=(ac ops.size).tmps:=by
    refine Array.ext_getElem? fun t=> ?_;refine hf.agree (hac ops.size) fun j o hj _=> ?_;have hjs:=(Array.getElem?_eq_some_iff.1 hj).1;rw[hall j hjs];simp[hjs]
   have h2:a.defers=(ac ops.size).defers:=(by rw[hf.defers,(hac ops.size).defers]);cases a;cases hx:ac ops.size;rw[hx]at h1 h2;simp only at h1 h2;rw[h1,h2]
  rw[this];exact hend w hS
 intro fuel
 induction fuel with
 |zero=>
  intro listed a w hcl hsz hlk hf hS;have hall:=qD _ _ hlk;refine⟨?_,hfin listed a w hall hf hS⟩;rw[List.eq_nil_iff_forall_not_mem];intro i hi;obtain⟨h1,o,ho,_⟩:=mem_ready.1 hi;have his:=(Array.getElem?_eq_some_iff.1 ho).1;have h2:=hall i his;have hi2:i<listed.size:=(by omega);simp only[Array.getD_eq_getD_getElem?,Array.getElem?_eq_getElem hi2,Option.getD_some]at h1 h2;rw[h1]at h2;cases h2
 |succ fuel ih=>
  intro listed a w hcl hsz hlk hf hS;refine⟨fun hr=>hfin listed a w (hnone listed hsz hr) hf hS,fun i hi=> ?_⟩;obtain⟨h1,o,ho,hall⟩:=mem_ready.1 hi;have his:=(Array.getElem?_eq_some_iff.1 ho).1;have hi2:i<listed.size:=(by omega);have hun:listed.getD i false=false:=by
   simp only[Array.getD_eq_getD_getElem?,Array.getElem?_eq_getElem hi2,Option.getD_some]at h1⊢;exact h1
  have hset:∀j,(listed.setIfInBounds i true).getD j false=(listed.getD j false||decide (j=i)):=fun j=>by
   by_cases hji:j=i
   ·subst hji;simp[Array.getD_eq_getD_getElem?,hi2]
   ·rw[getD_set_ne false (Ne.symm hji)];simp[hji]
  have hsel:=fun cs b=>Region.noSelect_spec (ops:=ops) (by unfold eH at hB;rw[Bool.and_eq_true]at hB;exact hB.1) i o cs b ho;refine Gt (S:=S) (b:=ac i) (v:=vs i) ho hsel (fun t ht=> ?_) (by rw[hf.size,(hac i).size]) (fun w' hS'=> ?_) (hstep i o ho w hS)
  ·refine hf.agree (hac i) fun j oj hj hd=> ?_;rcases(lG hB ho hj hd).2 ht with⟨h2,h3⟩|⟨h2,h3⟩|h2
   ·rw[hcl.ready h3 hi];simp[h2]
   ·have h4:decide (j<i)=false:=(by simp;omega);rw[h4];cases hlj:listed.getD j false with
    |false=>rfl
    |true=>
     have:=hcl.waits _ _ _ h3 hlj;rw[hun]at this;cases this
   ·subst h2;rw[hun];simp
  ·refine ih (listed.setIfInBounds i true) _ w' (hcl.aM hi) (by rw[Array.size_setIfInBounds];exact hsz) ?_ (hf.put hB ho hset) hS';have:=qE (f:=fun j=>listed.getD j false) (g:=fun j=>(listed.setIfInBounds i true).getD j false) hun hset ops.size his;omega
def CX(P:Program)(ops:Array Oper)(S:World→Prop)(K:Act→Prop):List Oper→Act→Prop
 |[],a=>K a
 |o::os,a=>∃v,(∀w,S w→wpList P ops (fun e a' w'=>e= .normal∧a'=a.put o.dst v∧S w') [o] a w)∧CX P ops S K os (a.put o.dst v)
theorem yR{S:World→Prop}{K:Act→Prop}:∀(os:List Oper) (a:Act),CX P ops S K os a→∃(vs:Nat→Value) (ac:Nat→Act),ac 0=a∧
 (∀i o,os[i]?=some o→(∀w,S w→wpList P ops (fun e a' w'=>e= .normal∧a'=(ac i).put o.dst (vs i)∧S w') [o] (ac i) w)∧ac (i+1)=(ac i).put o.dst (vs i))∧(∀i,os.length≤i→ac i=ac os.length)∧K (ac os.length)
 |[],a,h=>⟨fun _=>undef,fun _=>a,rfl,fun i o h=>by simp at h,fun _ _=>rfl,h⟩
 |o::os,a,h=>by
  obtain⟨v,h1,h2⟩:=h;obtain⟨vs,ac,e0,hs,hl,hk⟩:=yR os _ h2;refine⟨fun i=>match i with|0=>v|i+1=>vs i,fun i=>match i with|0=>a|i+1=>ac i,rfl,fun i o' ho=> ?_,fun i hi=> ?_,hk⟩
  ·cases i with
   |zero=>
    simp only[gZ,Option.some.injEq]at ho;subst ho;exact⟨h1,e0⟩
   |succ i=>exact hs i o' (by simpa using ho)
  ·cases i with
   |zero=>simp at hi
   |succ i=>exact hl i (by simpa using hi)
theorem bD {id:Nat} {w:World} {l:List Oper} (S:World→Prop) (hm:P.follows .mixedOrders=true) (hB:eH l.toArray=true) (hS:S w.drew)
 (h:CX P l.toArray S (fun a'=>∀w',S w'→Q .normal a' w') l a):(Code.region id l.toArray true).wp P Q a w:=by
 obtain⟨vs,ac,e0,hs,hl,hk⟩:=yR _ _ h;have hsz:l.toArray.size=l.length:=(by simp);have hget:∀i:Nat,l.toArray[i]?=l[i]?:=fun i=>List.getElem?_toArray ..;have hac:∀i,Flo l.toArray a vs (fun j=>decide (j<i)) (ac i):=by
  intro i
  induction i with
  |zero=>rw[e0];exact Flo.start fun j=>by simp
  |succ i ih=>
   cases hx:l[i]? with
   |none=>
    have hle:l.length≤i:=by
     rcases Nat.lt_or_ge i l.length with h1|h1
     ·rw[List.getElem?_eq_getElem h1]at hx;cases hx
     ·exact h1
    rw[hl (i+1) (by omega),←hl i hle];refine⟨ih.defers,ih.size,fun j o t hj hd hlt hs=>ih.hit j o t hj hd ?_ hs,fun t ht=>ih.miss t fun j o hj hd=> ?_⟩
    ·have:=(Array.getElem?_eq_some_iff.1 hj).1;simp at this⊢;omega
    ·have:=ht j o hj hd;simp at this⊢;omega
   |some o=>
    rw[(hs i o hx).2];refine ih.put hB (by rw[hget];exact hx) fun j=> ?_;rw[Bool.eq_iff_iff];simp;omega
 refine wp_region_any hm ?_;refine Ej (S:=S) hB hac (fun i o ho=>(hs i o (by rw[←hget];exact ho)).1) (fun w hw=>by rw[hsz];exact hk w hw) _ _ a _ (Closed.start _ _ _) (by simp) ?_ (Flo.start fun j=>getD_replicate_false _ _) hS;have:(fun j=>(Array.replicate l.toArray.size false).getD j false)=fun _=>false:=funext fun j=>getD_replicate_false _ _;rw[this,nE]
end
section
variable{P:Program}{ops:Array Oper}{Q:Exit→Act→World→Prop}{a b a0:Act}
theorem Flo.congr{vs vs':Nat→Value}{L:Nat→Bool}(h:Flo ops a0 vs L a)(hv:∀j,L j=true→vs j=vs' j):Flo ops a0 vs' L a:=
 ⟨h.defers,h.size,fun j o t hj hd hl hs=>by rw[←hv j hl];exact h.hit j o t hj hd hl hs,h.miss⟩
theorem El {i:Nat} {o:Oper} {w:World} {R:Value→World→Prop} {K:Act→World→Prop} (ho:ops[i]?=some o) (hsel:∀cs b,o.op≠ .select cs b)
 (hr:∀t∈iK ops o,a.tmps[t]?=b.tmps[t]?) (hs:a.tmps.size=b.tmps.size) (hK:∀v w',R v w'→K (a.put o.dst v) w')
 (h:wpList P ops (fun e a' w'=>e= .normal∧∃v,a'=b.put o.dst v∧R v w') [o] b w):wpOp P ops Q i K a w:=by
 have hw:Region.wanted o (yielded ops a.tmps)=Region.wanted o (yielded ops b.tmps):=by
  unfold Region.wanted;cases hg:o.guard with
  |none=>rfl
  |some g=>
   obtain⟨j,x⟩:=g;dsimp only;have:yielded ops a.tmps j=yielded ops b.tmps j:=by
    unfold yielded;cases hd:(ops[j]?).bind (·.dst)with
    |none=>rfl
    |some t=>
     have hm:t∈iK ops o:=by
      unfold iK;rw[hg];refine List.mem_append.2 (.inr ?_);show t∈((ops[j]?).bind (·.dst)).toList;rw[hd];simp
     simp only[Option.bind_some];rw[hr t hm]
   rw[this]
 have he:execOp a.eval o=execOp b.eval o:=by
  refine execOp_congr o hsel fun x hx=> ?_;cases x with
  |tmp t=>
   have hm:t∈iK ops o:=by
    unfold iK;refine List.mem_append.2 (.inl ?_);rw[List.mem_filterMap];exact⟨.tmp t,by simpa using hx,rfl⟩
   have:=hr t hm;simp only[Act.eval,Array.getD_eq_getD_getElem?,this]
  |_=>rfl
 unfold wpOp;rw[ho];dsimp only;unfold wpList at h;rw[hw];by_cases hwd:Region.wanted o (yielded ops b.tmps)=true
 ·rw[if_pos hwd]at h⊢;left;rcases h with h|⟨_,_,_,h,_⟩
  ·unfold Oper.wp at*;rw[he];generalize(execOp b.eval o).run P w=r at h;have key:∀u w',wpList P ops (fun e a' w'=>e= .normal∧∃v,a'=b.put o.dst v∧R v w') [] (b.put o.dst u) w'→K (a.put o.dst u) w':=fun u w' h=>by
    unfold wpList at h;obtain⟨_,v,h1,h2⟩:=h;rw[yj hs h1];exact hK v w' h2
   cases r with
   |halt x w'=>
    cases x<;>simp only[Oper.upon]at h⊢;exact absurd h.1 (by simp)
   |ok n w'=>
    cases n with
    |value u=>exact key u w' h
    |skip=>exact key undef w' h
    |defer d=>
     simp only[Oper.upon]at h;unfold wpList at h;obtain⟨_,v,h1,_⟩:=h;have h1:=congrArg Act.defers h1;rw[put_defers,put_defers]at h1;exact absurd (congrArg List.length h1) (by simp)
    |enter f args=>
     simp only[Oper.upon]at h⊢;refine Calls.mono h fun e w'' he=> ?_;cases e with
     |returned u=>exact key u w'' he
     |panicked c=>exact absurd he.1 (by simp)
     |outgrown=>
      obtain⟨_,_,h1,_⟩:=he;cases h1
    |row r args=>
     simp only[Oper.upon]at h⊢;exact Rows.mono h fun u w'' he=>key u w'' he
    |_=>simp only[Oper.upon]at h
  ·cases h
 ·rw[if_neg hwd]at h⊢;unfold wpList at h;obtain⟨_,v,h1,h2⟩:=h;rw[yj hs h1];exact hK v w h2
def acV(ops:Array Oper)(a0:Act)(vs:Nat→Value):Nat→Act
 |0=>a0
 |i+1=>match ops[i]? with
  |some o=>(acV ops a0 vs i).put o.dst (vs i)
  |none=>acV ops a0 vs i
theorem tO(hB:eH ops=true)(vs:Nat→Value):∀i,Flo ops a0 vs (fun j=>decide (j<i)) (acV ops a0 vs i)
 |0=>Flo.start fun j=>by simp
 |i+1=>by
  unfold acV;have ih:=tO hB vs i;cases hx:ops[i]? with
  |none=>
   have hle:ops.size≤i:=by
    rcases Nat.lt_or_ge i ops.size with h1|h1
    ·rw[Array.getElem?_eq_getElem h1]at hx;cases hx
    ·exact h1
   dsimp only;refine⟨ih.defers,ih.size,fun j o t hj hd hlt hs=>ih.hit j o t hj hd ?_ hs,fun t ht=>ih.miss t fun j o hj hd=> ?_⟩
   ·have:=(Array.getElem?_eq_some_iff.1 hj).1;simp at this⊢;omega
   ·have:=ht j o hj hd;simp at this⊢;omega
  |some o=>
   dsimp only;refine ih.put hB hx fun j=> ?_;rw[Bool.eq_iff_iff];simp;omega
def bW(vs:Nat→Value)(i:Nat)(v:Value):Nat→Value:=fun j=>if j=i then v else vs j
theorem Km {Rs:Nat→(Nat→Value)→World→Prop} {S:World→Prop} {St:Nat→World→World→Prop} (hB:eH ops=true) (dp:Nat→List Nat) (hdp:∀i j,j∈dp i→bf .any ops ops.size i j=true)
 (kl:Nat→List Nat) (hkl:∀i j k,i<ops.size→k<ops.size→j∈kl i→j∈dp k→k=i∨bf .any ops ops.size i k=true)
 (hcg:∀j vs vs' w,(∀k,k=j∨k∈dp j→vs k=vs' k)→Rs j vs w→Rs j vs' w) (hR:∀i j vs w w',j≠i→j∉kl i→Rs j vs w→St i w w'→Rs j vs w')
 (hstep:∀i o,ops[i]?=some o→∀(vs:Nat→Value) w,S w→(∀j∈dp i,Rs j vs w)→wpList P ops (fun e a' w'=>e= .normal∧∃v,a'=(acV ops a0 vs i).put o.dst v∧Rs i (bW vs i v) w'∧S w'∧St i w w') [o] (acV ops a0 vs i) w)
 (hend:∀(vs:Nat→Value) w,S w→(∀j,j<ops.size→(∀i,i<ops.size→j∉kl i)→Rs j vs w)→Q .normal (acV ops a0 vs ops.size) w):
 ∀(fuel:Nat) (listed:Array Bool) (a:Act) (w:World) (vs:Nat→Value),Closed .any ops listed→listed.size=ops.size→lacks ops.size (fun j=>listed.getD j false)=fuel→Flo ops a0 vs (fun j=>listed.getD j false) a→S w→
  (∀j,listed.getD j false=true→(∀i,listed.getD i false=true→j∉kl i)→Rs j vs w)→wpAny P .any ops Q fuel listed a w:=by
 have hnone:∀(listed:Array Bool),listed.size=ops.size→Region.ready .any ops listed=[]→∀i,i<ops.size→listed.getD i false=true:=by
  intro listed hsz hr i
  induction i using Nat.strongRecOn with
  |_ i ih=>
   intro hi;cases hl:listed.getD i false with
   |true=>rfl
   |false=>
    exfalso;have ho:ops[i]?=some ops[i]:=Array.getElem?_eq_getElem hi;have hm:i∈Region.ready .any ops listed:=by
     rw[mem_ready];refine⟨?_,ops[i],ho,fun e he hb=> ?_⟩
     ·have hi2:i<listed.size:=(by omega);simp only[Array.getD_eq_getD_getElem?,Array.getElem?_eq_getElem hi2,Option.getD_some]at hl⊢;exact hl
     ·have h1:=nC hB ho e he hb;exact ih e.on h1 (by omega)
    rw[hr]at hm;cases hm
 have hfin:∀(listed:Array Bool) (a:Act) (w:World) (vs:Nat→Value),listed.size=ops.size→(∀i,i<ops.size→listed.getD i false=true)→Flo ops a0 vs (fun j=>listed.getD j false) a→S w→(∀j,listed.getD j false=true→(∀i,listed.getD i false=true→j∉kl i)→Rs j vs w)→Q .normal a w:=by
  intro listed a w vs Uq hall hf hS hRs;have hac:=tO (a0:=a0) hB vs ops.size;have:a=acV ops a0 vs ops.size:=by
   have h1:a.tmps=(acV ops a0 vs ops.size).tmps:=by
    refine Array.ext_getElem? fun t=> ?_;refine hf.agree hac fun j o hj _=> ?_;have hjs:=(Array.getElem?_eq_some_iff.1 hj).1;rw[hall j hjs];simp[hjs]
   have h2:a.defers=(acV ops a0 vs ops.size).defers:=(by rw[hf.defers,hac.defers]);cases a;cases hx:acV ops a0 vs ops.size;rw[hx]at h1 h2;simp only at h1 h2;rw[h1,h2]
  rw[this];refine hend vs w hS fun j hj hk=>hRs j (hall j hj) fun i hi=>hk i ?_;rcases Nat.lt_or_ge i ops.size with h|h
  ·exact h
  ·rw[Array.getD_eq_getD_getElem?,Array.getElem?_eq_none (by omega)]at hi;cases hi
 intro fuel
 induction fuel with
 |zero=>
  intro listed a w vs hcl hsz hlk hf hS hRs;have hall:=qD _ _ hlk;refine⟨?_,hfin listed a w vs hsz hall hf hS hRs⟩;rw[List.eq_nil_iff_forall_not_mem];intro i hi;obtain⟨h1,o,ho,_⟩:=mem_ready.1 hi;have his:=(Array.getElem?_eq_some_iff.1 ho).1;have h2:=hall i his;have hi2:i<listed.size:=(by omega);simp only[Array.getD_eq_getD_getElem?,Array.getElem?_eq_getElem hi2,Option.getD_some]at h1 h2;rw[h1]at h2;cases h2
 |succ fuel ih=>
  intro listed a w vs hcl hsz hlk hf hS hRs;refine⟨fun hr=>hfin listed a w vs hsz (hnone listed hsz hr) hf hS hRs,fun i hi=> ?_⟩;obtain⟨h1,o,ho,hall⟩:=mem_ready.1 hi;have his:=(Array.getElem?_eq_some_iff.1 ho).1;have hi2:i<listed.size:=(by omega);have hun:listed.getD i false=false:=by
   simp only[Array.getD_eq_getD_getElem?,Array.getElem?_eq_getElem hi2,Option.getD_some]at h1⊢;exact h1
  have hset:∀j,(listed.setIfInBounds i true).getD j false=(listed.getD j false||decide (j=i)):=fun j=>by
   by_cases hji:j=i
   ·subst hji;simp[Array.getD_eq_getD_getElem?,hi2]
   ·rw[getD_set_ne false (Ne.symm hji)];simp[hji]
  have hsel:=fun cs b=>Region.noSelect_spec (ops:=ops) (by unfold eH at hB;rw[Bool.and_eq_true]at hB;exact hB.1) i o cs b ho;have hac:=tO (a0:=a0) hB vs i;refine El (b:=acV ops a0 vs i) (R:=fun v w'=>Rs i (bW vs i v) w'∧S w'∧St i w w') ho hsel (fun t ht=> ?_) (by rw[hf.size,hac.size]) (fun v w' hS'=> ?_) (hstep i o ho vs w hS fun j hj=>hRs j (hcl.ready (hdp i j hj) hi) fun i' hi' hk=>by
   have Ur:i'<ops.size:=by
    rcases Nat.lt_or_ge i' ops.size with h|h
    ·exact h
    ·rw[Array.getD_eq_getD_getElem?,Array.getElem?_eq_none (by omega)]at hi';cases hi'
   rcases hkl i' j i Ur his hk hj with e|e
   ·subst e;rw[hun]at hi';cases hi'
   ·have:=hcl.waits _ _ _ e hi';rw[hun]at this;cases this)
  ·refine hf.agree hac fun j oj hj hd=> ?_;rcases(lG hB ho hj hd).2 ht with⟨h2,h3⟩|⟨h2,h3⟩|h2
   ·rw[hcl.ready h3 hi];simp[h2]
   ·have h4:decide (j<i)=false:=(by simp;omega);rw[h4];cases hlj:listed.getD j false with
    |false=>rfl
    |true=>
     have:=hcl.waits _ _ _ h3 hlj;rw[hun]at this;cases this
   ·subst h2;rw[hun];simp
  ·obtain⟨hv,hS2,hst⟩:=hS';have hf2:Flo ops a0 (bW vs i v) (fun j=>listed.getD j false) a:=hf.congr fun j hj=>by
    unfold bW;rw[if_neg];rintro rfl;rw[hun]at hj;cases hj
   have hput:=hf2.put hB ho hset;have hvi:bW vs i v i=v:=(by simp[bW]);rw[hvi]at hput;refine ih (listed.setIfInBounds i true) _ w' (bW vs i v) (hcl.aM hi) (by rw[Array.size_setIfInBounds];exact hsz) ?_ hput hS2 fun j hj hkj=> ?_
   ·have:=qE (f:=fun j=>listed.getD j false) (g:=fun j=>(listed.setIfInBounds i true).getD j false) hun hset ops.size his;omega
   ·rw[hset]at hj;by_cases hji:j=i
    ·subst hji;exact hv
    ·have hjl:listed.getD j false=true:=(by simpa[hji]using hj);refine hcg j vs _ _ (fun k hk=> ?_) (hR i j _ _ _ hji (hkj i (by rw[hset];simp)) (hRs j hjl fun i' hi'=>hkj i' (by rw[hset,hi'];rfl)) hst);unfold bW;rw[if_neg];rintro rfl;rcases hk with e|hk
     ·exact hji e.symm
     ·have:=hcl.waits _ _ _ (hdp j k hk) hjl;rw[hun]at this;cases this
def rX(R:Value→World→Prop)(a:Act)(d:Option Tmp):Exit→Act→World→Prop:=fun e a' w'=>e= .normal∧∃v,a'=a.put d v∧R v w'
theorem lW {id:Nat} {w:World} {l:List Oper} (Rs:Nat→(Nat→Value)→World→Prop) (S:World→Prop) (St:Nat→World→World→Prop) (dp:Nat→List Nat) (hm:P.follows .mixedOrders=true) (hB:eH l.toArray=true)
 (hdp:((List.range l.length).all fun i=>(dp i).all fun j=>bf .any l.toArray l.length i j)=true) (Rk:∀i,l.length≤i→dp i=[])
 (kl:Nat→List Nat) (hkl:((List.range l.length).all fun i=>(kl i).all fun j=>(List.range l.length).all fun k=> !(dp k).contains j||k==i||bf .any l.toArray l.length i k)=true)
 (hcg:∀j vs vs' w,(∀k,k=j∨k∈dp j→vs k=vs' k)→Rs j vs w→Rs j vs' w) (hR:∀i j vs w w',j≠i→j∉kl i→Rs j vs w→St i w w'→Rs j vs w') (hS:S w.drew)
 (hstep:∀i o,l[i]?=some o→∀(vs:Nat→Value) w,S w→(∀j∈dp i,Rs j vs w)→wpList P l.toArray (rX (fun v w'=>Rs i (bW vs i v) w'∧S w'∧St i w w') (acV l.toArray a vs i) o.dst) [o] (acV l.toArray a vs i) w)
 (hend:∀(vs:Nat→Value) w,S w→(∀j,j<l.length→(∀i,i<l.length→j∉kl i)→Rs j vs w)→Q .normal (acV l.toArray a vs l.length) w):(Code.region id l.toArray true).wp P Q a w:=by
 have hsz:l.toArray.size=l.length:=(by simp);have hget:∀i:Nat,l.toArray[i]?=l[i]?:=fun i=>List.getElem?_toArray ..;refine wp_region_any hm ?_;refine Km (Rs:=Rs) (S:=S) (St:=St) hB dp (fun i j hj=> ?_) kl (fun i j k hi hk hj hd=> ?_) hcg hR (fun i o ho=>hstep i o (by rw[←hget];exact ho)) (fun vs w h1 h2=>by rw[hsz];exact hend vs w h1 (by rw[←hsz];exact h2)) _ _ a _ (fun _=>undef) (Closed.start _ _ _) (by simp) ?_ (Flo.start fun j=>getD_replicate_false _ _) hS (fun j hj _=>by rw[getD_replicate_false]at hj;cases hj)
 ·rw[hsz];rcases Nat.lt_or_ge i l.length with h|h
  ·exact List.all_eq_true.1 (List.all_eq_true.1 hdp i (List.mem_range.2 h)) j hj
  ·rw[Rk i h]at hj;cases hj
 ·rw[hsz]at hi hk⊢;have h1:=List.all_eq_true.1 (List.all_eq_true.1 (List.all_eq_true.1 hkl i (List.mem_range.2 hi)) j hj) k (List.mem_range.2 hk);rw[Bool.or_eq_true,Bool.or_eq_true,Bool.not_eq_true',beq_iff_eq]at h1;rcases h1 with(h1|h1)|h1
  ·rw[List.contains_iff_mem.2 hd]at h1;cases h1
  ·exact .inl h1
  ·exact .inr h1
 ·have:(fun j=>(Array.replicate l.toArray.size false).getD j false)=fun _=>false:=funext fun j=>getD_replicate_false _ _;rw[this,nE]
end
section
variable{P:Program}{ops:Array Oper}{Q:Exit→Act→World→Prop}{a b a0:Act}
theorem Kn {Inv:(Nat→Bool)→(Nat→Value)→World→Prop} (hB:eH ops=true)
 (hstep:∀i o,ops[i]?=some o→∀(L:Nat→Bool) (vs:Nat→Value) w,L i=false→(∀j,bf .any ops ops.size i j=true→L j=true)→(∀k,bf .any ops ops.size k i=true→L k=false)→Inv L vs w→wpList P ops (fun e a' w'=>e= .normal∧∃v,a'=(acV ops a0 vs i).put o.dst v∧Inv (fun j=>L j||decide (j=i)) (bW vs i v) w') [o] (acV ops a0 vs i) w)
 (hend:∀(L:Nat→Bool) (vs:Nat→Value) w,(∀j,j<ops.size→L j=true)→Inv L vs w→Q .normal (acV ops a0 vs ops.size) w):
 ∀(fuel:Nat) (listed:Array Bool) (a:Act) (w:World) (vs:Nat→Value),Closed .any ops listed→listed.size=ops.size→lacks ops.size (fun j=>listed.getD j false)=fuel→Flo ops a0 vs (fun j=>listed.getD j false) a→
  Inv (fun j=>listed.getD j false) vs w→wpAny P .any ops Q fuel listed a w:=by
 have hnone:∀(listed:Array Bool),listed.size=ops.size→Region.ready .any ops listed=[]→∀i,i<ops.size→listed.getD i false=true:=by
  intro listed hsz hr i
  induction i using Nat.strongRecOn with
  |_ i ih=>
   intro hi;cases hl:listed.getD i false with
   |true=>rfl
   |false=>
    exfalso;have ho:ops[i]?=some ops[i]:=Array.getElem?_eq_getElem hi;have hm:i∈Region.ready .any ops listed:=by
     rw[mem_ready];refine⟨?_,ops[i],ho,fun e he hb=> ?_⟩
     ·have hi2:i<listed.size:=(by omega);simp only[Array.getD_eq_getD_getElem?,Array.getElem?_eq_getElem hi2,Option.getD_some]at hl⊢;exact hl
     ·have h1:=nC hB ho e he hb;exact ih e.on h1 (by omega)
    rw[hr]at hm;cases hm
 have hfin:∀(listed:Array Bool) (a:Act) (w:World) (vs:Nat→Value),listed.size=ops.size→(∀i,i<ops.size→listed.getD i false=true)→Flo ops a0 vs (fun j=>listed.getD j false) a→Inv (fun j=>listed.getD j false) vs w→Q .normal a w:=by
  intro listed a w vs Uq hall hf hI;have hac:=tO (a0:=a0) hB vs ops.size;have:a=acV ops a0 vs ops.size:=by
   have h1:a.tmps=(acV ops a0 vs ops.size).tmps:=by
    refine Array.ext_getElem? fun t=> ?_;refine hf.agree hac fun j o hj _=> ?_;have hjs:=(Array.getElem?_eq_some_iff.1 hj).1;rw[hall j hjs];simp[hjs]
   have h2:a.defers=(acV ops a0 vs ops.size).defers:=(by rw[hf.defers,hac.defers]);cases a;cases hx:acV ops a0 vs ops.size;rw[hx]at h1 h2;simp only at h1 h2;rw[h1,h2]
  rw[this];exact hend _ vs w hall hI
 intro fuel
 induction fuel with
 |zero=>
  intro listed a w vs hcl hsz hlk hf hI;have hall:=qD _ _ hlk;refine⟨?_,hfin listed a w vs hsz hall hf hI⟩;rw[List.eq_nil_iff_forall_not_mem];intro i hi;obtain⟨h1,o,ho,_⟩:=mem_ready.1 hi;have his:=(Array.getElem?_eq_some_iff.1 ho).1;have h2:=hall i his;have hi2:i<listed.size:=(by omega);simp only[Array.getD_eq_getD_getElem?,Array.getElem?_eq_getElem hi2,Option.getD_some]at h1 h2;rw[h1]at h2;cases h2
 |succ fuel ih=>
  intro listed a w vs hcl hsz hlk hf hI;refine⟨fun hr=>hfin listed a w vs hsz (hnone listed hsz hr) hf hI,fun i hi=> ?_⟩;obtain⟨h1,o,ho,hall⟩:=mem_ready.1 hi;have his:=(Array.getElem?_eq_some_iff.1 ho).1;have hi2:i<listed.size:=(by omega);have hun:listed.getD i false=false:=by
   simp only[Array.getD_eq_getD_getElem?,Array.getElem?_eq_getElem hi2,Option.getD_some]at h1⊢;exact h1
  have hset:∀j,(listed.setIfInBounds i true).getD j false=(listed.getD j false||decide (j=i)):=fun j=>by
   by_cases hji:j=i
   ·subst hji;simp[Array.getD_eq_getD_getElem?,hi2]
   ·rw[getD_set_ne false (Ne.symm hji)];simp[hji]
  have hsel:=fun cs b=>Region.noSelect_spec (ops:=ops) (by unfold eH at hB;rw[Bool.and_eq_true]at hB;exact hB.1) i o cs b ho;have hac:=tO (a0:=a0) hB vs i;refine El (b:=acV ops a0 vs i) (R:=fun v w'=>Inv (fun j=>listed.getD j false||decide (j=i)) (bW vs i v) w') ho hsel (fun t ht=> ?_) (by rw[hf.size,hac.size]) (fun v w' hS'=> ?_) (hstep i o ho (fun j=>listed.getD j false) vs w hun (fun j hj=>hcl.ready hj hi) (fun k hk=>by
   cases hlk:listed.getD k false with
   |false=>rfl
   |true=>
    have:=hcl.waits _ _ _ hk hlk;rw[hun]at this;cases this) hI)
  ·refine hf.agree hac fun j oj hj hd=> ?_;rcases(lG hB ho hj hd).2 ht with⟨h2,h3⟩|⟨h2,h3⟩|h2
   ·rw[hcl.ready h3 hi];simp[h2]
   ·have h4:decide (j<i)=false:=(by simp;omega);rw[h4];cases hlj:listed.getD j false with
    |false=>rfl
    |true=>
     have:=hcl.waits _ _ _ h3 hlj;rw[hun]at this;cases this
   ·subst h2;rw[hun];simp
  ·have hf2:Flo ops a0 (bW vs i v) (fun j=>listed.getD j false) a:=hf.congr fun j hj=>by
    unfold bW;rw[if_neg];rintro rfl;rw[hun]at hj;cases hj
   have hput:=hf2.put hB ho hset;have hvi:bW vs i v i=v:=(by simp[bW]);rw[hvi]at hput;refine ih (listed.setIfInBounds i true) _ w' (bW vs i v) (hcl.aM hi) (by rw[Array.size_setIfInBounds];exact hsz) ?_ hput ?_
   ·have:=qE (f:=fun j=>listed.getD j false) (g:=fun j=>(listed.setIfInBounds i true).getD j false) hun hset ops.size his;omega
   ·have:(fun j=>(listed.setIfInBounds i true).getD j false)=fun j=>listed.getD j false||decide (j=i):=funext hset;rw[this];exact hS'
theorem lX {id:Nat} {w:World} {l:List Oper} (Inv:(Nat→Bool)→(Nat→Value)→World→Prop) (dp nd:Nat→List Nat) (hm:P.follows .mixedOrders=true) (hB:eH l.toArray=true)
 (hdp:((List.range l.length).all fun i=>(dp i).all fun j=>bf .any l.toArray l.length i j)=true) (hnd:((List.range l.length).all fun i=>(nd i).all fun k=>bf .any l.toArray l.length k i)=true)
 (h0:Inv (fun _=>false) (fun _=>undef) w.drew)
 (hstep:∀i o,l[i]?=some o→∀(L:Nat→Bool) (vs:Nat→Value) w,L i=false→(∀j∈dp i,L j=true)→(∀k∈nd i,L k=false)→Inv L vs w→wpList P l.toArray (rX (fun v w'=>Inv (fun j=>L j||decide (j=i)) (bW vs i v) w') (acV l.toArray a vs i) o.dst) [o] (acV l.toArray a vs i) w)
 (hend:∀(L:Nat→Bool) (vs:Nat→Value) w,(∀j,j<l.length→L j=true)→Inv L vs w→Q .normal (acV l.toArray a vs l.length) w):(Code.region id l.toArray true).wp P Q a w:=by
 have hsz:l.toArray.size=l.length:=(by simp);have hget:∀i:Nat,l.toArray[i]?=l[i]?:=fun i=>List.getElem?_toArray ..;refine wp_region_any hm ?_;refine Kn (Inv:=Inv) hB (fun i o ho L vs w h1 h2 h3 hI=> ?_) (fun L vs w h1 h2=>by rw[hsz];exact hend L vs w (by rw[←hsz];exact h1) h2) _ _ a _ (fun _=>undef) (Closed.start _ _ _) (by simp) ?_ (Flo.start fun j=>getD_replicate_false _ _) ?_
 ·have ho':l[i]?=some o:=(by rw[←hget];exact ho);have hil:i<l.length:=(List.getElem?_eq_some_iff.1 ho').1;refine hstep i o ho' L vs w h1 (fun j hj=>h2 j ?_) (fun k hk=>h3 k ?_) hI
  ·rw[hsz];exact List.all_eq_true.1 (List.all_eq_true.1 hdp i (List.mem_range.2 hil)) j hj
  ·rw[hsz];exact List.all_eq_true.1 (List.all_eq_true.1 hnd i (List.mem_range.2 hil)) k hk
 ·have:(fun j=>(Array.replicate l.toArray.size false).getD j false)=fun _=>false:=funext fun j=>getD_replicate_false _ _;rw[this,nE]
 ·have:(fun j=>(Array.replicate l.toArray.size false).getD j false)=fun _=>false:=funext fun j=>getD_replicate_false _ _;rw[this];exact h0
end
end Go.Inq
namespace Go.Inq
open Go Go.RowKit
theorem tQ {P:Program} {w:World} {ops:Array Oper} {rest:List Oper} {o:Oper} {a:Act} {Q:Exit→Act→World→Prop} {α:Type} (f:α→Value)
 (hgd:o.guard=none) (d s:Operand) (dT sT:TypeId) (ho:o.op= .call {callee:= .builtin .copy,args:=#[d,s],argTypes:=#[dT,sT]})
 (elem:TypeId) (hu:P.underlying dT=some (.slice elem)) (hsz:(P.info? elem).map (·.size)=some 1)
 (g n dc c:Nat) (A:Option Addr) (hd:a.eval d= .slice (some ⟨g,0,none⟩) n dc) (hs:a.eval s= .slice A n c)
 (cur:Array Value) (t:TypeId) (hg:Blk w g t cur) (hcur:cur.size=n) (l:List α) (hl:l.length=n)
 (hsrc:∀i (hi:i<l.length),∃b off,A=some ⟨b,off,none⟩∧w.cell? ⟨b,off+i,none⟩=some (f l[i])) (h1:∀x∈l,(f x).oneCell'=true)
 (h:∀w',Blk w' g t (l.map f).toArray→w.grownBy w' (some g)→wpList P ops Q rest (a.put o.dst (goInt n)) w'):wpList P ops Q (o::rest) a w:=by
 by_cases h0:n=0
 ·subst h0;have:l=[]:=List.eq_nil_of_length_eq_zero hl;subst this;have hc:cur=#[]:=Array.eq_empty_of_size_eq_zero hcur;subst hc;exact wpList_copy_nothing hgd d s dT sT ho elem hu hsz _ _ 0 dc 0 c hd hs rfl (h w (by simpa using hg) ⟨rfl,rfl,rfl,Nat.le_refl _,fun _ _ _=>rfl⟩)
 ·obtain⟨b,off,rfl,_⟩:=hsrc 0 (by omega);have hcs:(l.map f).length=n:=(by simpa using hl);refine wpList_copy_own hgd d s dT sT ho elem hu hsz g 0 n dc ⟨b,off,none⟩ n c hd hs cur t hg (l.map f) (by rw[hcs];simp[Nat.min_def]) (fun j v hj=> ?_) (by rw[hcs];omega) (fun v hv=> ?_) ?_
  ·rw[List.getElem?_map]at hj;cases hlj:l[j]? with
   |none=>rw[hlj]at hj;cases hj
   |some x=>
    rw[hlj]at hj;injection hj with hj
    obtain⟨hjl,rfl⟩:=List.getElem?_eq_some_iff.1 hlj;obtain⟨b',off',hA,hc⟩:=hsrc j hjl;injection hA with hA
    injection hA with e1 e2
    subst e1 e2;rw[Addr.add_lit,←hj];exact hc
  ·obtain⟨x,hx,rfl⟩:=List.mem_map.1 hv;exact h1 x hx
  ·rw[hcs];have e:(cur.toList.take 0++(l.map f++cur.toList.drop (0+n))).toArray=(l.map f).toArray:=by
    rw[List.drop_of_length_le (by simp;omega)];simp
   rw[e];exact h _ (setRow_heap w g cur _ t _ hg) ⟨rfl,rfl,rfl,by simp[World.setRow],fun k hk hne=>setRow_other w g k _ (fun e=>hne (by rw[e]))⟩
section
variable{w W:World}{o:Obj}{K:Nat→Prop}
theorem Blk.au{g:Nat}{t:TypeId}{cs:Array Value}(h:Blk w g t cs)(e:w.alloc o=W):Blk W g t cs:=by subst e;exact h.alloc o
theorem Agree.au(e:w.alloc o=W)(hk:∀b,K b→b<w.heap.size):Agree K w W:=by subst e;exact Agree.alloc hk o
theorem ah{B:Nat}{w0:World}(h:Below B w0 w)(e:w.alloc o=W)(hB:B≤w.heap.size):Below B w0 W:=by subst e;exact h.alloc hB o
theorem Blk.newEq{t:TypeId}{cs:Array Value}(e:w.alloc (.cells cs t)=W):Blk W w.heap.size t cs:=by subst e;exact Blk.new _ _ _
theorem Blk.kG{t:TypeId}{cs:Array Value}(e:(w.alloc (.cells cs t)).alloc o=W):Blk W w.heap.size t cs:=by subst e;exact(Blk.new _ _ _).alloc _
theorem Blk.jk{t:TypeId}{cs:Array Value}(e:(w.alloc o).alloc (.cells cs t)=W):Blk W (w.heap.size+1) t cs:=by
 subst e;have:=Blk.new (w.alloc o) t cs;simpa using this
theorem size_two{o':Obj}(e:(w.alloc o).alloc o'=W):W.heap.size=w.heap.size+2:=by subst e;simp
theorem aS{o':Obj}(e:(w.alloc o).alloc o'=W):Below w.heap.size w W:=by subst e;exact((Below.refl _ _).alloc (Nat.le_refl _) _).alloc (by simp) _
theorem Blk.CY{o':Obj}{t:TypeId}{cs:Array Value}(e:((w.alloc (.cells cs t)).alloc o).alloc o'=W):Blk W w.heap.size t cs:=by subst e;exact((Blk.new _ _ _).alloc _).alloc _
theorem Blk.yS{o':Obj}{t:TypeId}{cs:Array Value}(e:((w.alloc o).alloc (.cells cs t)).alloc o'=W):Blk W (w.heap.size+1) t cs:=by
 subst e;have:=(Blk.new (w.alloc o) t cs).alloc o';simpa using this
theorem Blk.yT{o':Obj}{t:TypeId}{cs:Array Value}(e:((w.alloc o).alloc o').alloc (.cells cs t)=W):Blk W (w.heap.size+1+1) t cs:=by
 subst e;have:=Blk.new ((w.alloc o).alloc o') t cs;simpa using this
theorem Gu{o' o'':Obj}(e:((w.alloc o).alloc o').alloc o''=W):W.heap.size=w.heap.size+3:=by subst e;simp
theorem jl{o' o'':Obj}(e:((w.alloc o).alloc o').alloc o''=W):Below w.heap.size w W:=by subst e;exact(((Below.refl _ _).alloc (Nat.le_refl _) _).alloc (by simp) _).alloc (by simp;omega) _
theorem aA(e:w.alloc o=W):W.heap.size=w.heap.size+1:=by subst e;simp
end
theorem ak{w w' w'':World}{r:Option Nat}(h:w.grownBy w' r)(h':w'.grownBy w'' r):w.grownBy w'' r:=
 ⟨h'.os.trans h.os,h'.tape.trans h.tape,h'.output.trans h.output,Nat.le_trans h.size h'.size,fun k hk hne=>(h'.block k (Nat.lt_of_lt_of_le hk h.size) hne).trans (h.block k hk hne)⟩
theorem bO{w w':World}{B:Nat}{r:Option Nat}(hb:Below B w w')(hB:w.heap.size≤B):w.grownBy w' r:=⟨hb.os,hb.tape,hb.output,hb.size,fun k hk _=>hb.block k (by omega)⟩
theorem bS{w:World}(g i:Nat)(u:Value):w.grownBy (w.setCell ⟨g,i,none⟩ u) (some g):=
 ⟨rfl,rfl,rfl,by simp,fun k hk hne=>Below.heap_setCell w ⟨g,i,none⟩ u k (fun e=>hne (by simp at e;rw[e]))⟩
theorem gT{w:World}{r:Option Nat}:w.grownBy w.drew r:=⟨rfl,rfl,rfl,Nat.le_refl _,fun _ _ _=>rfl⟩
theorem Agree.lH{K:Nat→Prop}{w w':World}{g:Nat}(h:w.grownBy w' (some g))(hK:∀b,K b→b<g)(hg:g≤w.heap.size):Agree K w w':=Agree.grown h fun b hb=>⟨by have:=hK b hb;omega,by have:=hK b hb;simp;omega⟩
end Go.Inq
