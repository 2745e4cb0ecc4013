/-
  Words for a region's table, and a push, for rows of the call's own whose elements lead to other blocks; no program in sight.
-/
import Derived.Test.YtfhnamomiaekdaaGreatDoorQ17
import Derived.Test.YtfhnamomiaekdaaGreatDoorQ09
import Derived.Test.YtfhnamomiaekdaaGreatDoorQ16
import Derived.Test.YtfhnamomiaekdaaGreatDoorQ04
set_option linter.unusedVariables false
set_option linter.unusedSimpArgs false
namespace Go.Inq
open Go Go.RowKit
section
variable{n0 base:Nat}{σ τs:List TypeId}{W W':World}
theorem TyW.agree(h:TyW n0 σ W W')(hd:∀t∈τs,t∉σ):Agree (TyK base τs W) W W':=fun b hb=>by
 obtain⟨_,t,ht,cs,hk⟩:=hb;exact(show W'.heap[b]?=_ from h.blk hk (hd t ht)).trans hk.symm
theorem TyW.NY{α:Type}{size:Nat}{R:World→(Nat→Prop)→List Value→α→Prop}{e:TypeId}{v:Value}{l:List α}(hT:TyW n0 σ W W')(hR:mG R)(h:bC size R W (TyK base τs W) base e v l)(hd:∀t∈e::τs,t∉σ):bC size R W' (TyK base τs W') base e v l:=
 h.MZ hR (hT.agree fun t ht=>hd t (List.mem_cons_of_mem _ ht)) fun g hg=>by
  obtain⟨cs,hk⟩:=h.blk hg;exact(show W'.heap[g]?=_ from hT.blk hk (hd e List.mem_cons_self)).trans hk.symm
end
theorem Ai {P:Program} {W:World} {ops:Array Oper} {rest:List Oper} {o:Oper} {a:Act} {Q:Exit→Act→World→Prop} {α:Type} {R:World→(Nat→Prop)→List Value→α→Prop}
 (hR:mG R) (hone:∀w K cs x,R w K cs x→∀u∈cs,u.oneCell'=true)
 (hgd:o.guard=none) (s x:Operand) (t:TypeId) (ho:o.op= .call {callee:= .builtin .append,args:=#[s,x],argTypes:=#[t,t]})
 (base:Nat) (e:TypeId) (i:TypeInfo) (z:Value) (size bytes:Nat) (ht:P.underlying t=some (.slice e)) (hi:P.info? e=some i) (hz:i.zero=some z)
 (hsize:i.size=size) (hby:i.bytes=bytes) (hzs:z.cells.size=size) (hsz:0<size)
 (τs:List TypeId) (hτ:e∉τs) (v:Value) (l:List α) (hs:a.eval s=v) (hown:bC size R W (TyK base τs W) base e v l)
 (g:Nat) (cs:Array Value) (x0:α) (kg:Blk W g e cs) (hcs:cs.size=size) (hrow:R W (TyK base τs W) cs.toList x0)
 (hx:a.eval x= .slice (some ⟨g,0,none⟩) 1 1) (h63:l.length+1≤maxLen) (hbytes:(l.length+1)*bytes≤140737488355328) (hbase:base≤W.heap.size) (n0:Nat) (hn0:n0≤base)
 (h:∀v' w',bC size R w' (TyK base τs w') base e v' (l++[x0])→TyW n0 [e] W w'→(v'.ownBlock=v.ownBlock∨v'.ownBlock=some W.heap.size)→wpList P ops Q rest (a.put o.dst v') w'):
 wpList P ops Q (o::rest) a W:=by
 have hown0:=hown;obtain⟨ys,h1,h2,h3⟩:=hown;have hq:∀y∈ys,y.length=size∧∀u∈y,u.oneCell'=true:=fun y hy=>by
  obtain⟨j,hj,rfl⟩:=List.getElem_of_mem hy;obtain⟨g1,g2⟩:=h3 j ys[j] (l[j]'(by omega)) (List.getElem?_eq_getElem hj) (List.getElem?_eq_getElem (by omega));exact⟨g1,hone _ _ _ _ g2⟩
 let enc:{y:List Value//y.length=size∧∀u∈y,u.oneCell'=true}→List Value:=fun y=>y.1
 let ts:List {y:List Value//y.length=size∧∀u∈y,u.oneCell'=true}:=ys.pmap Subtype.mk hq
 have hts:ts.map enc=ys:=by
  show(ys.pmap Subtype.mk hq).map (fun y=>y.1)=ys;rw[List.map_pmap,List.pmap_eq_map,List.map_id']
 have htl:ts.length=l.length:=(by rw[←h2,←hts,List.length_map]);have hc0:cs.toList.length=size∧∀u∈cs.toList,u.oneCell'=true:=⟨by simpa using hcs,hone _ _ _ _ hrow⟩;refine bY (enc:=enc) hgd s x t ho base e i z size bytes ht hi hz hsize hby hzs hsz v (fun _=>True) ts hs (by rw[htl,hts];exact h1) (fun y=>y.2.1) _ [⟨cs.toList,hc0⟩] hx (SlR.one kg hcs (by unfold Flat;rfl) trivial) (fun y=>y.2.2) (by rw[htl];exact h63) (by rw[htl];exact hbytes) hbase ?_;intro v' w' g1 g2 g3;have hT:TyW n0 [e] W w':=TyW.grown (by rw[htl,hts]at*;exact h1) g2 (by simp) hn0 (Nat.le_trans hn0 hbase);have hA1:Agree (TyK base τs W) W w':=hT.agree fun t ht e'=>hτ (by rw[List.mem_singleton]at e';rw[←e'];exact ht);rw[List.map_append,hts,List.length_append,htl]at g1;refine h v' w' ⟨ys++[cs.toList],by rw[List.length_append];exact g1,by simp[h2],fun j y x' e1 e2=> ?_⟩ hT g3;by_cases hj:j<ys.length
 ·rw[List.getElem?_append_left hj]at e1;rw[List.getElem?_append_left (by omega)]at e2;obtain⟨q1,q2⟩:=h3 j y x' e1 e2;exact⟨q1,hR _ _ _ _ _ _ q2 hA1 fun _ g=>TyK.step hA1 g⟩
 ·rw[List.getElem?_append_right (by omega)]at e1 e2;have hj0:j-ys.length=0:=by
   rcases Nat.eq_zero_or_pos (j-ys.length)with e'|e'
   ·exact e'
   ·rw[List.getElem?_eq_none (by simp;omega)]at e1;cases e1
  rw[hj0]at e1;rw[show j-l.length=0 by omega]at e2;simp at e1 e2;subst e1 e2;exact⟨hc0.1,hR _ _ _ _ _ _ hrow hA1 fun _ g=>TyK.step hA1 g⟩
end Go.Inq
namespace Go.Proofs.YtfhnamomiaekdaaGreatDoor
open Go.RowKit Go.Inq
set_option maxHeartbeats 1000000
theorem Mr:(Tryz.prog.info? 125).map (fun i=>(i.zero,i.size,i.bytes))=some (some (.agg #[.int .i64 0,.int .i64 0,.int .i64 0,.slice none 0 0]),4,48):=by kernel_rfl
theorem Ms:∀(w:World) (K:Nat→Prop) (cs:List Value) (x:Nod),nK w K cs x→∀u∈cs,u.oneCell'=true:=by
 rintro w K cs x ⟨A,c,rfl,-⟩ u hu;simp only[List.mem_cons,List.not_mem_nil,or_false]at hu;rcases hu with rfl|rfl|rfl|rfl<;>rfl
def qd(w:World)(base:Nat)(v:Value)(l:List Nod):Prop:=bC 4 nK w (TyK base [3] w) base 125 v l
theorem qd.below{w w':World}{base:Nat}{v:Value}{l:List Nod}(h:qd w base v l)(hb:Below w.heap.size w w'):qd w' base v l:=bC.Ec nK.aZ h hb (Nat.le_refl _)
theorem qd.nil(w:World)(base:Nat):qd w base (.slice none 0 0) []:=bC.nil _ _ _ _ _ _
theorem K3{w:World}{base:Nat}{u:Value}{k a b:Int}{l:List Int}(h:aV w base u l):nK w (TyK base [3] w) [.int .i64 k,.int .i64 a,.int .i64 b,u] ⟨⟨k,a,b⟩,l⟩:=by
 obtain⟨A,c,rfl⟩:=h.form;exact⟨A,c,rfl,zT (enc:=Go.Inq.encI) h (fun _=>rfl) (by simp)⟩
def wI(base:Nat)(l:List Int):Wrd:=⟨[3],fun v W=>aV W base v l,fun _ _ _ _ _ h hT k=>hT.own k (h _ (by simp))⟩
def wNd(base:Nat)(x:Cho)(l:List Int):Wrd:=⟨[3],fun v W=>∃u,v= .agg #[.int .i64 x.key,.int .i64 x.a,.int .i64 x.b,u]∧aV W base u l,fun _ _ _ _ _ h hT k=>by
 obtain⟨u,h1,h2⟩:=k;exact⟨u,h1,hT.own h2 (h _ (by simp))⟩⟩
def wNs(base:Nat)(x:Cho)(l:List Int):Wrd:=⟨[125,3],fun v W=>∃g u,base≤g∧v= .slice (some ⟨g,0,none⟩) 1 1∧Blk W g 125 #[.int .i64 x.key,.int .i64 x.a,.int .i64 x.b,u]∧aV W base u l,fun _ _ _ _ _ h hT k=>by
 obtain⟨g,u,h1,h2,h3,h4⟩:=k;exact⟨g,u,h1,h2,hT.blk h3 (h _ (by simp)),hT.own h4 (h _ (by simp))⟩⟩
def wND(base:Nat)(l:List Nod):Wrd:=⟨[125,3],fun v W=>qd W base v l,fun _ _ _ _ _ h hT k=>hT.NY nK.aZ k h⟩
end Go.Proofs.YtfhnamomiaekdaaGreatDoor
