/-
  A row of the call's own, whose elements lead to other blocks of the call's own, grows by one element; no program in sight.
-/
import Derived.Test.YtfhnamomiaekdaaGreatDoorP05
import Derived.Test.YtfhnamomiaekdaaGreatDoorP26
import Derived.Test.YtfhnamomiaekdaaGreatDoorP25
set_option linter.unusedVariables false
set_option linter.unusedSimpArgs false
namespace Go.Inq
open Go Go.RowKit
def TyK(base:Nat)(τs:List TypeId)(w:World):Nat→Prop:=fun b=>base≤b∧∃t,t∈τs∧∃cs,Blk w b t cs
section
variable{base:Nat}{τs:List TypeId}{w w' w1 w2:World}
theorem TyK.lt{b:Nat}(h:TyK base τs w b):b<w.heap.size:=by
 obtain⟨_,t,_,cs,h⟩:=h;exact h.lt
theorem TyK.step(ha:Agree (TyK base τs w) w w'){b:Nat}(h:TyK base τs w b):TyK base τs w' b:=by
 obtain⟨h1,t,h2,cs,h3⟩:=h;exact⟨h1,t,h2,cs,(ha b ⟨h1,t,h2,cs,h3⟩).trans h3⟩
theorem TyK.trans(ha:Agree (TyK base τs w) w w1)(hb:Agree (TyK base τs w1) w1 w2):Agree (TyK base τs w) w w2:=fun b h=>(hb b (TyK.step ha h)).trans (ha b h)
theorem TyK.below{B:Nat}(hb:Below B w w')(hB:w.heap.size≤B):Agree (TyK base τs w) w w':=Agree.below hb fun _ h=>Nat.lt_of_lt_of_le h.lt hB
theorem TyK.alloc(o:Obj):Agree (TyK base τs w) w (w.alloc o):=Agree.alloc (fun _ h=>h.lt) o
theorem TyK.off{g:Nat}{t:TypeId}{cs:Array Value}(hk:Blk w g t cs)(ht:t∉τs):¬TyK base τs w g:=fun h=>by
 obtain⟨_,t',h1,cs',h2⟩:=h;have:=hk.symm.trans h2;simp at this;exact ht (this.2▸h1)
theorem TyK.aK{g i:Nat}{t:TypeId}{cs:Array Value}(hk:Blk w g t cs)(ht:t∉τs)(u:Value):Agree (TyK base τs w) w (w.setCell ⟨g,i,none⟩ u):=
 Agree.setCell ⟨g,i,none⟩ (TyK.off hk ht) u
theorem TyK.drew:Agree (TyK base τs w) w w.drew:=Agree.drew _ _
end
section
variable{α:Type}{size:Nat}{R:World→(Nat→Prop)→List Value→α→Prop}{w w':World}{K K':Nat→Prop}{base:Nat}{e:TypeId}{v:Value}{l:List α}{τs:List TypeId}
theorem lQ{n:Nat}{xs:List Value}(h:w.ownsRow base e size v n xs){g:Nat}(hg:v.ownBlock=some g):∃cs,Blk w g e cs:=by
 rcases h.2 with⟨h2,_⟩|⟨g',cap,cur,h2,_,hh,_⟩
 ·rw[h2]at hg;simp[Value.ownBlock]at hg
 ·rw[h2]at hg;simp[Value.ownBlock]at hg;subst hg;exact⟨cur,hh⟩
theorem bA.blk(h:bA size R w K base e v l){g:Nat}(hg:v.ownBlock=some g):∃cs,Blk w g e cs:=by
 obtain⟨ys,h1,_⟩:=h;exact lQ h1 hg
theorem bA.ne(h:bA size R w K base e v l){g:Nat}{t:TypeId}{cs:Array Value}(hk:Blk w g t cs)(ht:t≠e):v.ownBlock≠some g:=fun hg=>by
 obtain⟨cs',h4⟩:=h.blk hg;have:=hk.symm.trans h4;simp at this;exact ht this.2
theorem bA.Oz(hR:nV R)(h:bA size R w (TyK base τs w) base e v l)(ha:Agree (TyK base τs w) w w')(hr:∀g,v.ownBlock=some g→w'.heap[g]?=w.heap[g]?):bA size R w' (TyK base τs w') base e v l:=
 bA.keep hR h ha (fun _ g=>TyK.step ha g) hr
theorem bA.Kq(hR:nV R){B:Nat}(h:bA size R w (TyK base τs w) base e v l)(hb:Below B w w')(hB:w.heap.size≤B):bA size R w' (TyK base τs w') base e v l:=
 h.Oz hR (TyK.below hb hB) fun g hg=>hb.block g (Nat.lt_of_lt_of_le (h.lt g hg).2 hB)
theorem bA.OA(hR:nV R)(h:bA size R w (TyK base τs w) base e v l):SlR size R w (Old w) v l:=by
 have h2:bA size R w (Old w) base e v l:=bA.keep hR h (Agree.refl _ _) (fun _ g=>g.lt) fun _ _=>rfl;exact h2.sl fun g hg=>(h.lt g hg).2
theorem nT{base' n:Nat}{xs:List Value}(h:w.ownsRow base e size v n xs)(hb:base'≤base):w.ownsRow base' e size v n xs:=by
 refine⟨h.1,?_⟩;rcases h.2 with h2|⟨g,cap,cur,hv,hg,r⟩
 ·exact .inl h2
 ·exact .inr ⟨g,cap,cur,hv,by omega,r⟩
end
theorem Fj{α:Type}{size:Nat}{enc:α→List Value}{w:World}{base:Nat}{e:TypeId}{v:Value}{l:List α}{τs:List TypeId}(h:w.ownsRow base e size v l.length (l.map enc).flatten)(hs:∀x,(enc x).length=size)(he:e∈τs):SlR size (Flat enc) w (TyK base τs w) v l:=by
 have h2:bA size (Flat enc) w (TyK base τs w) base e v l:=bA.flat h hs;refine h2.sl fun g hg=> ?_;obtain⟨cs,h3⟩:=h2.blk hg;exact⟨(h2.lt g hg).1,e,he,cs,h3⟩
theorem zw {P:Program} {W:World} {ops:Array Oper} {rest:List Oper} {o:Oper} {a:Act} {Q:Exit→Act→World→Prop} {α:Type} {R:World→(Nat→Prop)→List Value→α→Prop}
 (hR:nV R) (hone:∀w K cs x,R w K cs x→∀u∈cs,u.oneCell'=true)
 (hgd:o.guard=none) (s x:Operand) (t:TypeId) (ho:o.op= .call {callee:= .builtin .append,args:=#[s,x],argTypes:=#[t,t]})
 (base:Nat) (e:TypeId) (i:TypeInfo) (z:Value) (size bytes:Nat) (ht:P.underlying t=some (.slice e)) (hi:P.info? e=some i) (hz:i.zero=some z)
 (hsize:i.size=size) (hby:i.bytes=bytes) (hzs:z.cells.size=size) (hsz:0<size)
 (τs:List TypeId) (hτ:e∉τs) (v:Value) (l:List α) (hs:a.eval s=v) (hown:bA size R W (TyK base τs W) base e v l)
 (cs:Array Value) (x0:α) (hcs:cs.size=size) (hrow:R W (TyK base τs W) cs.toList x0)
 (hx:a.eval x= .slice (some ⟨W.heap.size,0,none⟩) 1 1) (h63:l.length+1≤maxLen) (hbytes:(l.length+1)*bytes≤140737488355328) (hbase:base≤W.heap.size) (w0:World) (B:Nat) (hB:B≤base) (hb:Below B w0 W)
 (h:∀v' w',bA size R w' (TyK base τs w') base e v' (l++[x0])→Agree (TyK base τs W) W w'→Below B w0 w'→(∀g,v'.ownBlock=some g→v.ownBlock=some g∨W.heap.size≤g)→(∀g t cs,Blk W g t cs→t≠e→Blk w' g t cs)→wpList P ops Q rest (a.put o.dst v') w'):
 wpList P ops Q (o::rest) a (W.alloc (.cells cs e)):=by
 have hown0:=hown;obtain⟨ys,h1,h2,h3⟩:=hown;have hq:∀y∈ys,y.length=size∧∀u∈y,u.oneCell'=true:=fun y hy=>by
  obtain⟨j,hj,rfl⟩:=List.getElem_of_mem hy;obtain⟨g1,g2⟩:=h3 j ys[j] (l[j]'(by omega)) (List.getElem?_eq_getElem hj) (List.getElem?_eq_getElem (by omega));exact⟨g1,hone _ _ _ _ g2⟩
 let enc:{y:List Value//y.length=size∧∀u∈y,u.oneCell'=true}→List Value:=fun y=>y.1
 let ts:List {y:List Value//y.length=size∧∀u∈y,u.oneCell'=true}:=ys.pmap Subtype.mk hq
 have hts:ts.map enc=ys:=by
  show(ys.pmap Subtype.mk hq).map (fun y=>y.1)=ys;rw[List.map_pmap,List.pmap_eq_map,List.map_id']
 have htl:ts.length=l.length:=(by rw[←h2,←hts,List.length_map]);have hlt:=h1.lt;have hc0:cs.toList.length=size∧∀u∈cs.toList,u.oneCell'=true:=⟨by simpa using hcs,hone _ _ _ _ hrow⟩;have hA0:Agree (TyK base τs W) W (W.alloc (.cells cs e)):=TyK.alloc _;have hblk:∀b,TyK base τs W b→v.ownBlock≠some b:=fun b hb e'=>by
  obtain⟨cs',g2⟩:=lQ h1 e';exact TyK.off g2 hτ hb
 refine aY (enc:=enc) hgd s x t ho base e i z size bytes ht hi hz hsize hby hzs hsz v ts hs (by rw[htl,hts];exact h1) (fun y=>y.2.1) ⟨cs.toList,hc0⟩ cs rfl hx (fun y=>y.2.2) (by omega) (by rw[htl];exact hbytes) hbase w0 B hB hb ?_;intro v' w' g1 g2 g3 g4;have hA1:Agree (TyK base τs W) W w':=hA0.trans (Agree.grown g2 fun b hb=>⟨by have:=hb.lt;simp;omega,fun e'=>hblk b hb e'.symm⟩);rw[List.map_append,hts,List.length_append,htl]at g1;refine h v' w' ⟨ys++[cs.toList],by rw[List.length_append];exact g1,by simp[h2],fun j y x' e1 e2=> ?_⟩ hA1 g3 ?_ (fun g t cs hk ht=>(hk.alloc _).grown g2 fun e'=> ?_)
 ·by_cases hj:j<ys.length
  ·rw[List.getElem?_append_left hj]at e1;rw[List.getElem?_append_left (by omega)]at e2;obtain⟨q1,q2⟩:=h3 j y x' e1 e2;exact⟨q1,hR _ _ _ _ _ _ q2 hA1 fun _ g=>TyK.step hA1 g⟩
  ·rw[List.getElem?_append_right (by omega)]at e1 e2;have hj0:j-ys.length=0:=by
    rcases Nat.eq_zero_or_pos (j-ys.length)with e'|e'
    ·exact e'
    ·rw[List.getElem?_eq_none (by simp;omega)]at e1;cases e1
   rw[hj0]at e1;rw[show j-l.length=0 by omega]at e2;simp at e1 e2;subst e1 e2;exact⟨hc0.1,hR _ _ _ _ _ _ hrow hA1 fun _ g=>TyK.step hA1 g⟩
 ·intro g hg;rcases g4 with e'|e'
  ·exact .inl (e'▸hg)
  ·right;rw[e']at hg;injection hg with hg
   omega
 ·obtain⟨cs',h4⟩:=lQ h1 e'.symm;have:=hk.symm.trans h4;simp at this;exact ht this.2
section
variable{n0 base:Nat}{σ τs:List TypeId}{W W':World}
theorem TyW.agree(h:TyW n0 σ W W')(hd:∀t∈τs,t∉σ):Agree (TyK base τs W) W W':=fun b hb=>by
 obtain⟨_,t,ht,cs,hk⟩:=hb;exact(show W'.heap[b]?=_ from h.blk hk (hd t ht)).trans hk.symm
end
end Go.Inq
namespace Go.Proofs.YtfhnamomiaekdaaGreatDoor
open Go.RowKit Go.Inq
set_option maxHeartbeats 1000000
def Ed(w:World)(base:Nat)(v:Value)(l:List Nod):Prop:=bA 4 wN w (TyK base [3] w) base 125 v l
theorem Ed.s{w:World}{base:Nat}{v:Value}{l:List Nod}(h:Ed w base v l):ig w (Old w) v l:=bA.OA wN.bf h
theorem Ed.below{w w':World}{base:Nat}{v:Value}{l:List Nod}(h:Ed w base v l)(hb:Below w.heap.size w w'):Ed w' base v l:=bA.Kq wN.bf h hb (Nat.le_refl _)
theorem Ed.nil(w:World)(base:Nat):Ed w base (.slice none 0 0) []:=bA.nil _ _ _ _ _ _
end Go.Proofs.YtfhnamomiaekdaaGreatDoor
