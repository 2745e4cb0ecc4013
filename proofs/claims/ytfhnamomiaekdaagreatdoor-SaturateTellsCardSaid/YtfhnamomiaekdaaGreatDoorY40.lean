/-
  A region that draws its order, of many operations that float: who waits for whom is told by masks of bits, and checked; no program in sight.
-/
import Derived.Test.YtfhnamomiaekdaaGreatDoorY06
import Derived.Test.YtfhnamomiaekdaaGreatDoorY08
import Derived.Test.YtfhnamomiaekdaaGreatDoorY02
set_option linter.unusedVariables false
set_option linter.unusedSimpArgs false
namespace Go.Inq
open Go
section
variable{ops:Array Oper}
def Gi(ms:List Nat)(i j:Nat):Bool:=(ms.getD i 0).testBit j
def GR(ops:Array Oper)(ms:List Nat):Bool:=(List.range ops.size).all fun n=>(List.range n).all fun i=> !Gi ms n i||(match ops[n]? with
 |some o=>o.after.any fun e=>Region.binds .any e&&(decide (e.on<n)&&(e.on==i||(decide (i<e.on)&&Gi ms e.on i)))
 |none=>false)
theorem jZ{md:Region.Mode}:∀{f f' j i:Nat},bC md ops f j i=true→f≤f'→bC md ops f' j i=true
 |0,_,_,_,h,_=>by simp[bC]at h
 |f+1,0,_,_,_,hf=>by omega
 |f+1,f'+1,j,i,h,hf=>by
  unfold bC at h⊢;cases ho:ops[j]? with
  |none=>rw[ho]at h;exact h
  |some o=>
   rw[ho]at h;dsimp only at h⊢;rw[←Array.any_toList,List.any_eq_true]at h⊢;obtain⟨e,he,h2⟩:=h;refine⟨e,he,?_⟩;rw[Bool.and_eq_true,Bool.or_eq_true]at h2⊢;exact⟨h2.1,h2.2.imp id fun g=>jZ g (by omega)⟩
theorem yK{ms:List Nat}(h:GR ops ms=true):∀(n:Nat),n<ops.size→∀i,i<n→Gi ms n i=true→bC .any ops (n+1) n i=true:=by
 intro n
 induction n using Nat.strongRecOn with
 |ind n ih=>
  intro hn i hi hm;unfold GR at h;have h1:=List.all_eq_true.1 (List.all_eq_true.1 h n (List.mem_range.2 hn)) i (List.mem_range.2 hi);rw[hm]at h1;unfold bC;cases ho:ops[n]? with
  |none=>rw[ho]at h1;simp at h1
  |some o=>
   rw[ho]at h1;dsimp only at h1⊢;simp only[Bool.not_true,Bool.false_or]at h1;rw[←Array.any_toList,List.any_eq_true]at h1⊢;obtain⟨e,he,h2⟩:=h1;refine⟨e,he,?_⟩;rw[Bool.and_eq_true,Bool.and_eq_true,decide_eq_true_eq,Bool.or_eq_true,Bool.and_eq_true,decide_eq_true_eq]at h2;rw[Bool.and_eq_true,Bool.or_eq_true];refine⟨h2.1,h2.2.2.imp id fun g=> ?_⟩;exact jZ (ih e.on h2.2.1 (by omega) i g.1 g.2) (by omega)
def tX(ops:Array Oper)(ms:List Nat):Bool:=GR ops ms&&(Region.noSelect ops&&(List.range ops.size).all fun i=>match ops[i]? with
 |none=>true
 |some o=>(o.after.all fun e=> !Region.binds .any e||decide (e.on<i))&&
  (List.range ops.size).all fun j=>match ops[j]? with
   |none=>true
   |some oj=>match oj.dst with
    |none=>true
    |some t=>(i==j||o.dst !=some t)&&(!(iH ops o).contains t||(decide (j<i)&&Gi ms i j)||(decide (i<j)&&Gi ms j i)||i==j))
theorem JX{ms:List Nat}(h:tX ops ms=true):fG ops=true:=by
 unfold tX at h;rw[Bool.and_eq_true,Bool.and_eq_true]at h;obtain⟨hm,hs,hall⟩:=h;have hw:=yK hm;unfold fG;rw[Bool.and_eq_true];refine⟨hs,List.all_eq_true.2 fun i hi=> ?_⟩;have hi':=List.mem_range.1 hi;have h1:=List.all_eq_true.1 hall i hi;cases ho:ops[i]? with
 |none=>rfl
 |some o=>
  rw[ho]at h1;dsimp only at h1⊢;rw[Bool.and_eq_true]at h1⊢;refine⟨h1.1,List.all_eq_true.2 fun j hj=> ?_⟩;have hj':=List.mem_range.1 hj;have h2:=List.all_eq_true.1 h1.2 j hj;cases hoj:ops[j]? with
  |none=>rfl
  |some oj=>
   rw[hoj]at h2;dsimp only at h2⊢;cases ht:oj.dst with
   |none=>rfl
   |some t=>
    rw[ht]at h2;dsimp only at h2⊢;rw[Bool.and_eq_true]at h2⊢;refine⟨h2.1,?_⟩;have h3:=h2.2;rw[Bool.or_eq_true,Bool.or_eq_true,Bool.or_eq_true,Bool.and_eq_true,Bool.and_eq_true,decide_eq_true_eq,decide_eq_true_eq]at h3⊢;rcases h3 with((g|g)|g)|g
    ·exact .inl (.inl (.inl g))
    ·exact .inl (.inl (.inr ⟨g.1,jZ (hw i hi' j g.1 g.2) (by omega)⟩))
    ·exact .inl (.inr ⟨g.1,jZ (hw j hj' i g.1 g.2) (by omega)⟩)
    ·exact .inr g
end
section
variable{P:Program}{Q:Exit→Act→World→Prop}{a:Act}
theorem yL {id:Nat} {w:World} {l:List Oper} (ms:List Nat) (Rs:Nat→(Nat→Value)→World→Prop) (S:World→Prop) (St:Nat→World→World→Prop) (dp:Nat→List Nat) (hm:P.follows .mixedOrders=true) (hB:tX l.toArray ms=true)
 (hdp:((List.range l.length).all fun i=>(dp i).all fun j=>decide (j<i)&&Gi ms i j)=true) (Ov:∀i,l.length≤i→dp i=[])
 (hcg:∀j vs vs' w,(∀k,k=j∨k∈dp j→vs k=vs' k)→Rs j vs w→Rs j vs' w) (hR:∀i j vs w w',j≠i→Rs j vs w→St i w w'→Rs j vs w') (hS:S w.drew)
 (hstep:∀i o,l[i]?=some o→∀(vs:Nat→Value) w,S w→(∀j∈dp i,Rs j vs w)→wpList P l.toArray (rz (fun v w'=>Rs i (dh vs i v) w'∧S w'∧St i w w') (acV l.toArray a vs i) o.dst) [o] (acV l.toArray a vs i) w)
 (hend:∀(vs:Nat→Value) w,S w→(∀j,j<l.length→Rs j vs w)→Q .normal (acV l.toArray a vs l.length) w):(Code.region id l.toArray true).wp P Q a w:=by
 have hsz:l.toArray.size=l.length:=(by simp);have hmb:GR l.toArray ms=true:=by
  unfold tX at hB;rw[Bool.and_eq_true]at hB;exact hB.1
 refine gT Rs S St dp hm (JX hB) (List.all_eq_true.2 fun i hi=>List.all_eq_true.2 fun j hj=> ?_) Ov (fun _=>[]) (List.all_eq_true.2 fun i hi=>rfl) hcg (fun i j vs w w' h1 _ h2 h3=>hR i j vs w w' h1 h2 h3) hS hstep fun vs w h1 h2=>hend vs w h1 fun j hj=>h2 j hj fun i _ hn=>(by cases hn);have h1:=List.all_eq_true.1 (List.all_eq_true.1 hdp i hi) j hj;have hi':=List.mem_range.1 hi;rw[Bool.and_eq_true,decide_eq_true_eq]at h1;exact jZ (yK hmb i (by rw[hsz];exact hi') j h1.1 h1.2) (by omega)
end
end Go.Inq
namespace Go.Inq
open Go Go.RowKit
structure Wq where
 p:Value→World→Prop
 st:∀(v:Value) (W W':World),p v W→Below W.heap.size W W'→p v W'
def qV(x:Value):Wq:=⟨fun v _=>v=x,fun _ _ _ h _=>h⟩
def RsB(ws:List Wq)(j:Nat)(vs:Nat→Value)(W:World):Prop:=
 match ws[j]? with
 |some q=>q.p (vs j) W
 |none=>True
section
variable{P:Program}{Q:Exit→Act→World→Prop}{a:Act}
theorem D6 {id:Nat} {w W0:World} {l:List Oper} (ws:List Wq) (ms:List Nat) (dps:List (List Nat)) (hm:P.follows .mixedOrders=true) (hB:tX l.toArray ms=true)
 (hdp:((List.range l.length).all fun i=>(dps.getD i []).all fun j=>decide (j<i)&&Gi ms i j)=true) (hln:dps.length≤l.length) (hS:Below W0.heap.size W0 w)
 (hstep:∀i o,l[i]?=some o→∀(vs:Nat→Value) W,Below W0.heap.size W0 W→(∀j∈dps.getD i [],RsB ws j vs W)→wpList P l.toArray (rz (fun v w'=>RsB ws i (dh vs i v) w'∧Below W0.heap.size W0 w'∧Below W.heap.size W w') (acV l.toArray a vs i) o.dst) [o] (acV l.toArray a vs i) W)
 (hend:∀(vs:Nat→Value) W,Below W0.heap.size W0 W→(∀j,j<l.length→RsB ws j vs W)→Q .normal (acV l.toArray a vs l.length) W):(Code.region id l.toArray true).wp P Q a w:=by
 refine yL ms (RsB ws) (fun W=>Below W0.heap.size W0 W) (fun(_:Nat) (W W':World)=>Below W.heap.size W W') (fun i=>dps.getD i []) hm hB hdp (fun i hi=> ?_) (fun j vs vs' W hk h=> ?_) (fun i j vs W W' _ h hs=> ?_) hS.drew hstep hend
 ·rw[List.getD_eq_getElem?_getD,List.getElem?_eq_none (by omega)];rfl
 ·unfold RsB at h⊢;rw[←hk j (.inl rfl)];exact h
 ·unfold RsB at h⊢;cases hw:ws[j]? with
  |none=>trivial
  |some q=>rw[hw]at h;exact q.st _ _ _ h hs
end
end Go.Inq
