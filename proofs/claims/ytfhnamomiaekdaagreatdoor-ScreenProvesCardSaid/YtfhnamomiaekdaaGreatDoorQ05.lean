/-
  Layer 28: what is plain at once, in plain words; a row of facts, as cells; a push onto a row of the call's own inside a round.
-/
import Derived.Test.YtfhnamomiaekdaaGreatDoorQ04
import Derived.Test.YtfhnamomiaekdaaGreatDoorQ01
set_option linter.unusedVariables false
set_option linter.unusedSimpArgs false
namespace Go.Proofs.YtfhnamomiaekdaaGreatDoor
open Go.RowKit Go.Inq Go.Shelf
set_option maxHeartbeats 1000000
def Gq(H:List Txn)(level:Int)(c:Cho):Option (Option Nat):=(gB H.length).find? fun x=>bP H level [] (mkF c x)
def kI(H:List Txn)(level:Int)(c:Cho):List (Cho×Option Nat):=((Gq H level c).map fun x=>(c,x)).toList
def JA(H:List Txn)(level:Int)(p:Cho):List (Cho×Option Nat):=kI H level p++kI H level (iI p)
def bT(H:List Txn)(level:Int)(l:List Cho):List (Cho×Option Nat):=(l.map (JA H level)).flatten
theorem BF{H:List Txn}{level:Int}{l:List Cho}{k:Nat}(h:k<l.length):bT H level (l.take (k+1))=bT H level (l.take k)++(kI H level l[k]++kI H level (iI l[k])):=by
 unfold bT;rw[take_snoc' h,List.map_append,List.flatten_append];simp[JA]
theorem vL(H:List Txn)(level:Int)(c:Cho):(kI H level c).length≤1:=by
 unfold kI;cases Gq H level c<;>simp
theorem pF(H:List Txn)(level:Int):∀l:List Cho,(bT H level l).length≤2*l.length
 |[]=>by simp[bT]
 |p::l=>by
  have h1:=pF H level l;have h2:=vL H level p;have h3:=vL H level (iI p);have e:bT H level (p::l)=JA H level p++bT H level l:=(by simp[bT]);rw[e,List.length_append];unfold JA;rw[List.length_append,List.length_cons];omega
theorem JB{α:Type}{p:α→Bool}{pre l:List α}{x:α}(h:pre++[x]<+:l)(hn:∀y∈pre,p y=false)(hx:p x=true):l.find? p=some x:=by
 obtain⟨t,rfl⟩:=h;rw[List.append_assoc,List.find?_append];have h1:pre.find? p=none:=(by rw[List.find?_eq_none];intro y hy;rw[hn y hy];simp);rw[h1];simp[List.find?_cons,hx]
theorem Gs{α:Type}{p:α→Bool}{l:List α}(hn:∀y∈l,p y=false):l.find? p=none:=by
 rw[List.find?_eq_none];intro y hy;rw[hn y hy];simp
structure Scr where
 said:Int
 order:List Nat
 tree:Option (List Nat)
 facts:List (Cho×Option Nat)
def bq(H:List Txn)(level:Int):Scr:=
 if dn H []&&(decide (level=0)||decide (level=1))then
  if dP H.length (bH H level [])=[]then
   if bN H=[]then⟨1,(fZ H.length (bH H level [])).getD [],none,[]⟩
   else⟨3,[],none,bT H level (bN H)⟩
  else⟨2,[],some (dP H.length (bH H level [])),[]⟩
 else⟨3,[],none,[]⟩
def JC(x:Cho×Option Nat):List Value:=[.int .i64 x.1.key,.int .i64 x.1.a,.int .i64 x.1.b,.int .i64 (mkF x.1 x.2).kind,.int .i64 (mkF x.1 x.2).i,.int .i64 0,.slice none 0 0]
theorem JD(x:Cho×Option Nat):∀u∈JC x,u.oneCell'=true:=by
 intro u hu;simp only[JC,List.mem_cons,List.not_mem_nil,or_false]at hu;rcases hu with rfl|rfl|rfl|rfl|rfl|rfl|rfl<;>rfl
def mo(w:World)(base:Nat)(v:Value)(l:List (Cho×Option Nat)):Prop:=w.ownsRow base 104 7 v l.length (l.map JC).flatten
theorem mo.nil(w:World)(base:Nat):mo w base (.slice none 0 0) []:=World.ownsRow_nil _ _ _ _
theorem LB:(Tryz.prog.info? 104).map (fun i=>(i.zero,i.size,i.bytes))=some (some (.agg #[.int .i64 0,.int .i64 0,.int .i64 0,.int .i64 0,.int .i64 0,.int .i64 0,.slice none 0 0]),7,72):=by kernel_rfl
theorem vM {F:Fence} {nF:Nat} {P:Program} {W:World} {ops:Array Oper} {rest:List Oper} {o:Oper} {a:Act} {Q:Exit→Act→World→Prop} {α:Type} {enc:α→List Value}
 (hgd:o.guard=none) (s x:Operand) (t:TypeId) (ho:o.op= .call {callee:= .builtin .append,args:=#[s,x],argTypes:=#[t,t]})
 (base:Nat) (e:TypeId) (i:TypeInfo) (z:Value) (size bytes:Nat) (ht:P.underlying t=some (.slice e)) (hi:P.info? e=some i) (hz:i.zero=some z)
 (hsize:i.size=size) (hby:i.bytes=bytes) (hzs:z.cells.size=size) (hsz:0<size)
 (v:Value) (l:List α) (hs:a.eval s=v) (hown:W.ownsRow base e size v l.length (l.map enc).flatten)
 (x0:α) (cs:Array Value) (hcs:cs.toList=enc x0) (hlen:(enc x0).length=size) (hone:∀u∈enc x0,u.oneCell'=true)
 (hx:a.eval x= .slice (some ⟨W.heap.size,0,none⟩) 1 1)
 (h63:l.length+1≤maxLen) (hbytes:(l.length+1)*bytes≤140737488355328) (hbase:base≤W.heap.size)
 (h:∀v' w',w'.ownsRow base e size v' (l++[x0]).length ((l++[x0]).map enc).flatten→(W.alloc (.cells cs e)).grownBy w' v.ownBlock→(v'.ownBlock=v.ownBlock∨v'.ownBlock=some (W.heap.size+1))→wpListIn F nF P ops Q rest (a.put o.dst v') w'):
 wpListIn F nF P ops Q (o::rest) a (W.alloc (.cells cs e)):=by
 have hk:Blk (W.alloc (.cells cs e)) W.heap.size e cs:=Blk.new _ _ _;refine wpListIn_append_own_at _ hgd s x t ho base e i z size bytes ht hi hz hsize hby hzs hsz v l.length _ hs (hown.alloc _) ⟨W.heap.size,0,none⟩ 1 1 (enc x0) hx (by rw[hlen];simp) (fun j u hj=> ?_) hone h63 hbytes (by simp;omega) ?_
 ·have h1:=hk.cell j;rw[←hcs]at hj;rw[Array.getElem?_toList]at hj;rw[hj]at h1;rw[show(⟨W.heap.size,0,none⟩:Addr).add j=⟨W.heap.size,j,none⟩ by unfold Addr.add;split<;>simp_all];exact h1
 ·intro v' w' g1 g2 _ g3;refine h v' w' ?_ g2 (by simpa using g3);rw[List.map_append,List.flatten_append,List.length_append];simpa using g1
end Go.Proofs.YtfhnamomiaekdaaGreatDoor
