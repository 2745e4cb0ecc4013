/-
  A row of the call's own, whose elements lead to other blocks of the call's own, grows by one element; no program in sight.
-/
import Derived.Lib.AppendZerosOnto
import Derived.Test.YtfhnamomiaekdaaGreatDoorV02
import Derived.Test.YtfhnamomiaekdaaGreatDoorV03
import Derived.Test.YtfhnamomiaekdaaGreatDoorV04
import Derived.Test.YtfhnamomiaekdaaGreatDoorV01
set_option linter.unusedVariables false
set_option linter.unusedSimpArgs false
namespace Go.Inq
open Go Go.RowKit
def TyK(base:Nat)(τs:List TypeId)(w:World):Nat→Prop:=fun b=>base≤b∧∃t,t∈τs∧∃cs,Blk w b t cs
section
variable{base:Nat}{τs:List TypeId}{w w' w1 w2:World}
theorem TyK.lt{b:Nat}(h:TyK base τs w b):b<w.heap.size:=by
 obtain⟨_,t,_,cs,h⟩:=h;exact h.lt
theorem TyK.step(ha:Agree (TyK base τs w) w w'){b:Nat}(h:TyK base τs w b):TyK base τs w' b:=by
 obtain⟨h1,t,h2,cs,h3⟩:=h;exact⟨h1,t,h2,cs,(ha b ⟨h1,t,h2,cs,h3⟩).trans h3⟩
theorem TyK.trans(ha:Agree (TyK base τs w) w w1)(hb:Agree (TyK base τs w1) w1 w2):Agree (TyK base τs w) w w2:=fun b h=>(hb b (TyK.step ha h)).trans (ha b h)
theorem TyK.below{B:Nat}(hb:Below B w w')(hB:w.heap.size≤B):Agree (TyK base τs w) w w':=Agree.below hb fun _ h=>Nat.lt_of_lt_of_le h.lt hB
theorem TyK.alloc(o:Obj):Agree (TyK base τs w) w (w.alloc o):=Agree.alloc (fun _ h=>h.lt) o
theorem TyK.off{g:Nat}{t:TypeId}{cs:Array Value}(hk:Blk w g t cs)(ht:t∉τs):¬TyK base τs w g:=fun h=>by
 obtain⟨_,t',h1,cs',h2⟩:=h;have:=hk.symm.trans h2;simp at this;exact ht (this.2▸h1)
theorem TyK.aM{g i:Nat}{t:TypeId}{cs:Array Value}(hk:Blk w g t cs)(ht:t∉τs)(u:Value):Agree (TyK base τs w) w (w.setCell ⟨g,i,none⟩ u):=
 Agree.setCell ⟨g,i,none⟩ (TyK.off hk ht) u
theorem TyK.drew:Agree (TyK base τs w) w w.drew:=Agree.drew _ _
end
section
variable{α:Type}{size:Nat}{R:World→(Nat→Prop)→List Value→α→Prop}{w w':World}{K K':Nat→Prop}{base:Nat}{e:TypeId}{v:Value}{l:List α}{τs:List TypeId}
theorem lI{n:Nat}{xs:List Value}(h:w.ownsRow base e size v n xs){g:Nat}(hg:v.ownBlock=some g):∃cs,Blk w g e cs:=by
 rcases h.2 with⟨h2,_⟩|⟨g',cap,cur,h2,_,hh,_⟩
 ·rw[h2]at hg;simp[Value.ownBlock]at hg
 ·rw[h2]at hg;simp[Value.ownBlock]at hg;subst hg;exact⟨cur,hh⟩
theorem aG.blk(h:aG size R w K base e v l){g:Nat}(hg:v.ownBlock=some g):∃cs,Blk w g e cs:=by
 obtain⟨ys,h1,_⟩:=h;exact lI h1 hg
theorem aG.ne(h:aG size R w K base e v l){g:Nat}{t:TypeId}{cs:Array Value}(hk:Blk w g t cs)(ht:t≠e):v.ownBlock≠some g:=fun hg=>by
 obtain⟨cs',h4⟩:=h.blk hg;have:=hk.symm.trans h4;simp at this;exact ht this.2
theorem aG.Jr(hR:lU R)(h:aG size R w (TyK base τs w) base e v l)(ha:Agree (TyK base τs w) w w')(hr:∀g,v.ownBlock=some g→w'.heap[g]?=w.heap[g]?):aG size R w' (TyK base τs w') base e v l:=
 aG.keep hR h ha (fun _ g=>TyK.step ha g) hr
theorem aG.CZ(hR:lU R){B:Nat}(h:aG size R w (TyK base τs w) base e v l)(hb:Below B w w')(hB:w.heap.size≤B):aG size R w' (TyK base τs w') base e v l:=
 h.Jr hR (TyK.below hb hB) fun g hg=>hb.block g (Nat.lt_of_lt_of_le (h.lt g hg).2 hB)
theorem aG.SV(hR:lU R)(h:aG size R w (TyK base τs w) base e v l):aG size R w.drew (TyK base τs w.drew) base e v l:=h.Jr hR TyK.drew fun _ _=>rfl
theorem aG.SX(hR:lU R)(h:aG size R w (TyK base τs w) base e v l){g i:Nat}{t:TypeId}{cs:Array Value}(hk:Blk w g t cs)(h1:t∉τs)(h2:t≠e)(u:Value):aG size R (w.setCell ⟨g,i,none⟩ u) (TyK base τs (w.setCell ⟨g,i,none⟩ u)) base e v l:=
 h.Jr hR (TyK.aM hk h1 u) fun k hk2=>Below.heap_setCell w ⟨g,i,none⟩ u k (fun e'=>h.ne hk h2 (by rw[hk2];exact congrArg some e'))
theorem aG.Na(hR:lU R)(h:aG size R w (TyK base τs w) base e v l):SlR size R w (Old w) v l:=by
 have h2:aG size R w (Old w) base e v l:=aG.keep hR h (Agree.refl _ _) (fun _ g=>g.lt) fun _ _=>rfl;exact h2.sl fun g hg=>(h.lt g hg).2
theorem bH{base' n:Nat}{xs:List Value}(h:w.ownsRow base e size v n xs)(hb:base'≤base):w.ownsRow base' e size v n xs:=by
 refine⟨h.1,?_⟩;rcases h.2 with h2|⟨g,cap,cur,hv,hg,r⟩
 ·exact .inl h2
 ·exact .inr ⟨g,cap,cur,hv,by omega,r⟩
theorem aG.Nb(hR:lU R){base':Nat}(h:aG size R w (TyK base τs w) base e v l)(hb:base'≤base):aG size R w (TyK base' τs w) base' e v l:=by
 obtain⟨ys,h1,h2,h3⟩:=h;exact⟨ys,bH h1 hb,h2,fun i cs x e1 e2=>⟨(h3 i cs x e1 e2).1,hR _ _ _ _ _ _ (h3 i cs x e1 e2).2 (Agree.refl _ _) fun b g=>⟨Nat.le_trans hb g.1,g.2⟩⟩⟩
theorem aG.slT(hR:lU R)(h:aG size R w (TyK base τs w) base e v l):SlR size R w (TyK base (e::τs) w) v l:=by
 have h2:aG size R w (TyK base (e::τs) w) base e v l:=aG.keep hR h (Agree.refl _ _) (fun _ g=>by
  obtain⟨g1,t,g2,g3⟩:=g;exact⟨g1,t,List.mem_cons_of_mem _ g2,g3⟩) fun _ _=>rfl
 refine h2.sl fun g hg=> ?_;obtain⟨cs,h3⟩:=h.blk hg;exact⟨(h.lt g hg).1,e,List.mem_cons_self,cs,h3⟩
end
theorem C8{α:Type}{size:Nat}{enc:α→List Value}{w:World}{base:Nat}{e:TypeId}{v:Value}{l:List α}{τs:List TypeId}(h:w.ownsRow base e size v l.length (l.map enc).flatten)(hs:∀x,(enc x).length=size)(he:e∈τs):SlR size (Flat enc) w (TyK base τs w) v l:=by
 have h2:aG size (Flat enc) w (TyK base τs w) base e v l:=aG.flat h hs;refine h2.sl fun g hg=> ?_;obtain⟨cs,h3⟩:=h2.blk hg;exact⟨(h2.lt g hg).1,e,he,cs,h3⟩
theorem nG {P:Program} {W:World} {ops:Array Oper} {rest:List Oper} {o:Oper} {a:Act} {Q:Exit→Act→World→Prop} {α:Type} {R:World→(Nat→Prop)→List Value→α→Prop}
 (hR:lU R) (hone:∀w K cs x,R w K cs x→∀u∈cs,u.oneCell'=true)
 (hgd:o.guard=none) (s x:Operand) (t:TypeId) (ho:o.op= .call {callee:= .builtin .append,args:=#[s,x],argTypes:=#[t,t]})
 (base:Nat) (e:TypeId) (i:TypeInfo) (z:Value) (size bytes:Nat) (ht:P.underlying t=some (.slice e)) (hi:P.info? e=some i) (hz:i.zero=some z)
 (hsize:i.size=size) (hby:i.bytes=bytes) (hzs:z.cells.size=size) (hsz:0<size)
 (τs:List TypeId) (hτ:e∉τs) (v:Value) (l:List α) (hs:a.eval s=v) (hown:aG size R W (TyK base τs W) base e v l)
 (cs:Array Value) (x0:α) (hcs:cs.size=size) (hrow:R W (TyK base τs W) cs.toList x0)
 (hx:a.eval x= .slice (some ⟨W.heap.size,0,none⟩) 1 1) (h63:l.length+1≤maxLen) (hbytes:(l.length+1)*bytes≤140737488355328) (hbase:base≤W.heap.size) (w0:World) (B:Nat) (hB:B≤base) (hb:Below B w0 W)
 (h:∀v' w',aG size R w' (TyK base τs w') base e v' (l++[x0])→Agree (TyK base τs W) W w'→Below B w0 w'→(∀g,v'.ownBlock=some g→v.ownBlock=some g∨W.heap.size≤g)→(∀g t cs,Blk W g t cs→t≠e→Blk w' g t cs)→wpList P ops Q rest (a.put o.dst v') w'):
 wpList P ops Q (o::rest) a (W.alloc (.cells cs e)):=by
 have hown0:=hown;obtain⟨ys,h1,h2,h3⟩:=hown;have hq:∀y∈ys,y.length=size∧∀u∈y,u.oneCell'=true:=fun y hy=>by
  obtain⟨j,hj,rfl⟩:=List.getElem_of_mem hy;obtain⟨g1,g2⟩:=h3 j ys[j] (l[j]'(by omega)) (List.getElem?_eq_getElem hj) (List.getElem?_eq_getElem (by omega));exact⟨g1,hone _ _ _ _ g2⟩
 let enc:{y:List Value//y.length=size∧∀u∈y,u.oneCell'=true}→List Value:=fun y=>y.1
 let ts:List {y:List Value//y.length=size∧∀u∈y,u.oneCell'=true}:=ys.pmap Subtype.mk hq
 have hts:ts.map enc=ys:=by
  show(ys.pmap Subtype.mk hq).map (fun y=>y.1)=ys;rw[List.map_pmap,List.pmap_eq_map,List.map_id']
 have htl:ts.length=l.length:=(by rw[←h2,←hts,List.length_map]);have hlt:=h1.lt;have hc0:cs.toList.length=size∧∀u∈cs.toList,u.oneCell'=true:=⟨by simpa using hcs,hone _ _ _ _ hrow⟩;have hA0:Agree (TyK base τs W) W (W.alloc (.cells cs e)):=TyK.alloc _;have hblk:∀b,TyK base τs W b→v.ownBlock≠some b:=fun b hb e'=>by
  obtain⟨cs',g2⟩:=lI h1 e';exact TyK.off g2 hτ hb
 refine bF (enc:=enc) hgd s x t ho base e i z size bytes ht hi hz hsize hby hzs hsz v ts hs (by rw[htl,hts];exact h1) (fun y=>y.2.1) ⟨cs.toList,hc0⟩ cs rfl hx (fun y=>y.2.2) (by omega) (by rw[htl];exact hbytes) hbase w0 B hB hb ?_;intro v' w' g1 g2 g3 g4;have hA1:Agree (TyK base τs W) W w':=hA0.trans (Agree.grown g2 fun b hb=>⟨by have:=hb.lt;simp;omega,fun e'=>hblk b hb e'.symm⟩);rw[List.map_append,hts,List.length_append,htl]at g1;refine h v' w' ⟨ys++[cs.toList],by rw[List.length_append];exact g1,by simp[h2],fun j y x' e1 e2=> ?_⟩ hA1 g3 ?_ (fun g t cs hk ht=>(hk.alloc _).grown g2 fun e'=> ?_)
 ·by_cases hj:j<ys.length
  ·rw[List.getElem?_append_left hj]at e1;rw[List.getElem?_append_left (by omega)]at e2;obtain⟨q1,q2⟩:=h3 j y x' e1 e2;exact⟨q1,hR _ _ _ _ _ _ q2 hA1 fun _ g=>TyK.step hA1 g⟩
  ·rw[List.getElem?_append_right (by omega)]at e1 e2;have hj0:j-ys.length=0:=by
    rcases Nat.eq_zero_or_pos (j-ys.length)with e'|e'
    ·exact e'
    ·rw[List.getElem?_eq_none (by simp;omega)]at e1;cases e1
   rw[hj0]at e1;rw[show j-l.length=0 by omega]at e2;simp at e1 e2;subst e1 e2;exact⟨hc0.1,hR _ _ _ _ _ _ hrow hA1 fun _ g=>TyK.step hA1 g⟩
 ·intro g hg;rcases g4 with e'|e'
  ·exact .inl (e'▸hg)
  ·right;rw[e']at hg;injection hg with hg
   omega
 ·obtain⟨cs',h4⟩:=lI h1 e'.symm;have:=hk.symm.trans h4;simp at this;exact ht this.2
section
variable{n0 base:Nat}{σ τs:List TypeId}{W W':World}
theorem TyW.agree(h:TyW n0 σ W W')(hd:∀t∈τs,t∉σ):Agree (TyK base τs W) W W':=fun b hb=>by
 obtain⟨_,t,ht,cs,hk⟩:=hb;exact(show W'.heap[b]?=_ from h.blk hk (hd t ht)).trans hk.symm
theorem TyW.xO{α:Type}{size:Nat}{R:World→(Nat→Prop)→List Value→α→Prop}{e:TypeId}{v:Value}{l:List α}(hT:TyW n0 σ W W')(hR:lU R)(h:aG size R W (TyK base τs W) base e v l)(hd:∀t∈e::τs,t∉σ):aG size R W' (TyK base τs W') base e v l:=
 h.Jr hR (hT.agree fun t ht=>hd t (List.mem_cons_of_mem _ ht)) fun g hg=>by
  obtain⟨cs,hk⟩:=h.blk hg;exact(show W'.heap[g]?=_ from hT.blk hk (hd e List.mem_cons_self)).trans hk.symm
end
theorem jQ {P:Program} {W:World} {ops:Array Oper} {rest:List Oper} {o:Oper} {a:Act} {Q:Exit→Act→World→Prop} {α:Type} {R:World→(Nat→Prop)→List Value→α→Prop}
 (hR:lU R) (hone:∀w K cs x,R w K cs x→∀u∈cs,u.oneCell'=true)
 (hgd:o.guard=none) (s x:Operand) (t:TypeId) (ho:o.op= .call {callee:= .builtin .append,args:=#[s,x],argTypes:=#[t,t]})
 (base:Nat) (e:TypeId) (i:TypeInfo) (z:Value) (size bytes:Nat) (ht:P.underlying t=some (.slice e)) (hi:P.info? e=some i) (hz:i.zero=some z)
 (hsize:i.size=size) (hby:i.bytes=bytes) (hzs:z.cells.size=size) (hsz:0<size)
 (τs:List TypeId) (hτ:e∉τs) (v:Value) (l:List α) (hs:a.eval s=v) (hown:aG size R W (TyK base τs W) base e v l)
 (g:Nat) (cs:Array Value) (x0:α) (kg:Blk W g e cs) (hcs:cs.size=size) (hrow:R W (TyK base τs W) cs.toList x0)
 (hx:a.eval x= .slice (some ⟨g,0,none⟩) 1 1) (h63:l.length+1≤maxLen) (hbytes:(l.length+1)*bytes≤140737488355328) (hbase:base≤W.heap.size) (n0:Nat) (hn0:n0≤base)
 (h:∀v' w',aG size R w' (TyK base τs w') base e v' (l++[x0])→TyW n0 [e] W w'→(v'.ownBlock=v.ownBlock∨v'.ownBlock=some W.heap.size)→wpList P ops Q rest (a.put o.dst v') w'):
 wpList P ops Q (o::rest) a W:=by
 have hown0:=hown;obtain⟨ys,h1,h2,h3⟩:=hown;have hq:∀y∈ys,y.length=size∧∀u∈y,u.oneCell'=true:=fun y hy=>by
  obtain⟨j,hj,rfl⟩:=List.getElem_of_mem hy;obtain⟨g1,g2⟩:=h3 j ys[j] (l[j]'(by omega)) (List.getElem?_eq_getElem hj) (List.getElem?_eq_getElem (by omega));exact⟨g1,hone _ _ _ _ g2⟩
 let enc:{y:List Value//y.length=size∧∀u∈y,u.oneCell'=true}→List Value:=fun y=>y.1
 let ts:List {y:List Value//y.length=size∧∀u∈y,u.oneCell'=true}:=ys.pmap Subtype.mk hq
 have hts:ts.map enc=ys:=by
  show(ys.pmap Subtype.mk hq).map (fun y=>y.1)=ys;rw[List.map_pmap,List.pmap_eq_map,List.map_id']
 have htl:ts.length=l.length:=(by rw[←h2,←hts,List.length_map]);have hc0:cs.toList.length=size∧∀u∈cs.toList,u.oneCell'=true:=⟨by simpa using hcs,hone _ _ _ _ hrow⟩;refine bK (enc:=enc) hgd s x t ho base e i z size bytes ht hi hz hsize hby hzs hsz v (fun _=>True) ts hs (by rw[htl,hts];exact h1) (fun y=>y.2.1) _ [⟨cs.toList,hc0⟩] hx (SlR.one kg hcs (by unfold Flat;rfl) trivial) (fun y=>y.2.2) (by rw[htl];exact h63) (by rw[htl];exact hbytes) hbase ?_;intro v' w' g1 g2 g3;have hT:TyW n0 [e] W w':=TyW.grown (by rw[htl,hts]at*;exact h1) g2 (by simp) hn0 (Nat.le_trans hn0 hbase);have hA1:Agree (TyK base τs W) W w':=hT.agree fun t ht e'=>hτ (by rw[List.mem_singleton]at e';rw[←e'];exact ht);rw[List.map_append,hts,List.length_append,htl]at g1;refine h v' w' ⟨ys++[cs.toList],by rw[List.length_append];exact g1,by simp[h2],fun j y x' e1 e2=> ?_⟩ hT g3;by_cases hj:j<ys.length
 ·rw[List.getElem?_append_left hj]at e1;rw[List.getElem?_append_left (by omega)]at e2;obtain⟨q1,q2⟩:=h3 j y x' e1 e2;exact⟨q1,hR _ _ _ _ _ _ q2 hA1 fun _ g=>TyK.step hA1 g⟩
 ·rw[List.getElem?_append_right (by omega)]at e1 e2;have hj0:j-ys.length=0:=by
   rcases Nat.eq_zero_or_pos (j-ys.length)with e'|e'
   ·exact e'
   ·rw[List.getElem?_eq_none (by simp;omega)]at e1;cases e1
  rw[hj0]at e1;rw[show j-l.length=0 by omega]at e2;simp at e1 e2;subst e1 e2;exact⟨hc0.1,hR _ _ _ _ _ _ hrow hA1 fun _ g=>TyK.step hA1 g⟩
end Go.Inq
namespace Go.Proofs.YtfhnamomiaekdaaGreatDoor
open Go.RowKit Go.Inq
set_option maxHeartbeats 1000000
theorem tT:(Tryz.prog.info? 125).map (fun i=>(i.zero,i.size,i.bytes))=some (some (.agg #[.int .i64 0,.int .i64 0,.int .i64 0,.slice none 0 0]),4,48):=by kernel_rfl
theorem qF:∀(w:World) (K:Nat→Prop) (cs:List Value) (x:Nod),fE w K cs x→∀u∈cs,u.oneCell'=true:=by
 rintro w K cs x ⟨A,c,rfl,-⟩ u hu;simp only[List.mem_cons,List.not_mem_nil,or_false]at hu;rcases hu with rfl|rfl|rfl|rfl<;>rfl
def bX(w:World)(base:Nat)(v:Value)(l:List Nod):Prop:=aG 4 fE w (TyK base [3] w) base 125 v l
theorem bX.s{w:World}{base:Nat}{v:Value}{l:List Nod}(h:bX w base v l):bJ w (Old w) v l:=aG.Na fE.aO h
theorem bX.below{w w':World}{base:Nat}{v:Value}{l:List Nod}(h:bX w base v l)(hb:Below w.heap.size w w'):bX w' base v l:=aG.CZ fE.aO h hb (Nat.le_refl _)
theorem bX.base{w:World}{base base':Nat}{v:Value}{l:List Nod}(h:bX w base v l)(hb:base'≤base):bX w base' v l:=aG.Nb fE.aO h hb
theorem bX.nil(w:World)(base:Nat):bX w base (.slice none 0 0) []:=aG.nil _ _ _ _ _ _
theorem pF{w:World}{base:Nat}{u:Value}{k a b:Int}{l:List Int}(h:aY w base u l):fE w (TyK base [3] w) [.int .i64 k,.int .i64 a,.int .i64 b,u] ⟨⟨k,a,b⟩,l⟩:=by
 obtain⟨A,c,rfl⟩:=h.form;exact⟨A,c,rfl,C8 (enc:=Go.Inq.encI) h (fun _=>rfl) (by simp)⟩
theorem Em{w:World}{K:Nat→Prop}{k a b:Int}:fE w K [.int .i64 k,.int .i64 a,.int .i64 b,.slice none 0 0] ⟨⟨k,a,b⟩,[]⟩:=⟨none,0,rfl,aP.nil _ _ _ _⟩
def wI(base:Nat)(l:List Int):Wrd:=⟨[3],fun v W=>aY W base v l,fun _ _ _ _ _ h hT k=>hT.own k (h _ (by simp))⟩
def wNd(base:Nat)(x:Cho)(l:List Int):Wrd:=⟨[3],fun v W=>∃u,v= .agg #[.int .i64 x.key,.int .i64 x.a,.int .i64 x.b,u]∧aY W base u l,fun _ _ _ _ _ h hT k=>by
 obtain⟨u,h1,h2⟩:=k;exact⟨u,h1,hT.own h2 (h _ (by simp))⟩⟩
def wNs(base:Nat)(x:Cho)(l:List Int):Wrd:=⟨[125,3],fun v W=>∃g u,base≤g∧v= .slice (some ⟨g,0,none⟩) 1 1∧Blk W g 125 #[.int .i64 x.key,.int .i64 x.a,.int .i64 x.b,u]∧aY W base u l,fun _ _ _ _ _ h hT k=>by
 obtain⟨g,u,h1,h2,h3,h4⟩:=k;exact⟨g,u,h1,h2,hT.blk h3 (h _ (by simp)),hT.own h4 (h _ (by simp))⟩⟩
def wND(base:Nat)(l:List Nod):Wrd:=⟨[125,3],fun v W=>bX W base v l,fun _ _ _ _ _ h hT k=>hT.xO fE.aO k h⟩
end Go.Proofs.YtfhnamomiaekdaaGreatDoor
namespace Go.Proofs.YtfhnamomiaekdaaGreatDoor
open Go.RowKit Go.Inq
set_option maxHeartbeats 4000000
attribute [local go_sem↓] Go.wp_at_zero Go.wp_at_succ
theorem SY(w:World)(A:Option Addr)(n c:Nat):(Go.binOp .eql 33 (.slice A n c) (.slice none 0 0)).run Tryz.prog w= .ok (.bool A.isNone) w:=Lib.run_eql_slice_nil w 33 3 A n c 0 0 Tryz.underlying33
attribute [local go_sem] SY
set_option maxRecDepth 100000 in
theorem rY(A:Option Addr)(c:Nat)(l:List Int)(K:Nat→Prop)(w:World)(hK:∀b,K b→b<w.heap.size)(h:aP w K (.slice A l.length c) l)(hl:l.length≤1000000000):
 Calls Tryz.prog 107 #[.slice A l.length c] w (xM w l):=by
 obtain⟨ii,hii,hi1,hi2,hi3⟩:=info_parts gL;replace h:=hide h;cases A with
 |none=>
  have hz:l=[]:=by
   rcases Nat.lt_or_ge 0 l.length with g|g
   ·obtain⟨b,off,hA,_⟩:=h.out.at_ g;cases hA
   ·exact List.eq_nil_of_length_eq_zero (by omega)
  subst hz;go_enter Tryz.func107,Tryz.ntmps107;go_wp2;exact bodyPost_ret (v:= .slice none 0 0) (by simp[results,Tryz.results107,go_sem]) rfl ⟨_,rfl,aY.nil _ _,Below.refl _ _⟩
 |some ad=>
  obtain⟨W0,hW0⟩:∃W0,w.alloc (.cells #[] 3)=W0:=⟨_,rfl⟩;have hB:=ah (Below.refl w.heap.size w) hW0 (Nat.le_refl _);have k0:=Blk.newEq hW0;have hS:=hide (h.out.keep (Agree.below hB hK) (fun _ h=>h));have hown:aY W0 w.heap.size (.slice (some ⟨w.heap.size,0,none⟩) 0 0) []:=⟨rfl,.inr ⟨w.heap.size,0,#[],rfl,Nat.le_refl _,k0,Nat.le_refl _,Nat.zero_le _,rfl,rfl⟩⟩;clear k0;go_enter Tryz.func107,Tryz.ntmps107;go_wp2_with (at_builtin;go_loud (refine bK (enc:=Go.Inq.encI) rfl (.tmp 5) (.tmp 6) 33 rfl w.heap.size 3 ii _ 1 8 Tryz.underlying33 hii hi1 hi2 hi3 rfl (by decide) (.slice (some ⟨w.heap.size,0,none⟩) 0 0) K [] rfl hown (fun _=>rfl) (.slice (some ad) l.length c) l rfl hS.out Go.Inq.gH (by rw[List.length_nil];unfold maxLen;omega) (by rw[List.length_nil];omega) hB.size ?_);intro v1 w1 hown1 hg1 hv1);go_ret;exact⟨_,rfl,hown1,below_grown hB hg1 hB.size (fun k hk=>by simp[Value.ownBlock]at hk;omega)⟩
def Us(w:World)(l:List Nod)(e:Ending)(w':World):Prop:=∃v,e= .returned v∧bX w' w.heap.size v l∧Below w.heap.size w w'
set_option maxRecDepth 100000 in
theorem En(At:Option Addr)(ct:Nat)(tree:List Nod)(K:Nat→Prop)(w:World)(hK:∀b,K b→b<w.heap.size)(ht0:bJ w K (.slice At tree.length ct) tree)(hN:u7 tree):Calls Tryz.prog 128 #[.slice At tree.length ct] w (Us w tree):=by
 obtain⟨ino,xP,nZ,og,mD⟩:=info_parts tT;have htl:=hN.1;have ht:bJ w (Old w) (.slice At tree.length ct) tree:=ht0.fit hK;clear ht0 hK;replace ht:=hide ht;replace hN:=hide hN;go_enter Tryz.func128,Tryz.ntmps128;go_wp2_with fail;go_loopw [3,8] (fun s3 s8 wr=>∃k:Nat,k≤tree.length∧s8= .int .i64 (k:Int)∧bX wr w.heap.size s3 (tree.take k)∧Below w.heap.size w wr) (fun _ s8 _=>tree.length-(intOf s8).toNat);case atStart=>exact⟨0,by omega,by go_num,bX.nil _ _,Below.refl _ _⟩
 case round=>
  obtain⟨Wo,rfl⟩:∃Wo,Wo=wr:=⟨_,rfl⟩;obtain⟨k,hk,rfl,hO,hb⟩:=hrel;have hk0:(0:Int)≤(k:Int):=Int.natCast_nonneg _;by_cases hlt:k<tree.length
  ·have hk1:(k:Int)<(tree.length:Int):=(by omega);obtain⟨b,off,Ay,cy,rfl,-,-⟩:=ht.out.at_ hlt;obtain⟨b',off',Ay',cy',e,hbK,d⟩:=bJ.at_ (ht.out.keep (Agree.below hb fun b h=>h) (fun b h=>h)) hlt;injection e with e
   injection e with e1 e2
   subst e1 e2;obtain⟨d0,d1,d2,d3,yV⟩:=d;have hyl:=hN.out.2 _ (List.getElem_mem hlt);have hstp:Hid (tree.take (k+1)=tree.take k++[tree[k]]):=hide (by rw[List.take_succ_eq_append_getElem hlt]);have hMl:(tree.take k).length≤200000000:=(by rw[List.length_take];omega);generalize tree[k]=n at*;obtain⟨⟨nk,na,nb⟩,ny⟩:=n;dsimp only at d0 d1 d2 d3 yV hyl hstp;generalize tree.take k=M at*;have hA:=ah hb (W:=Wo.alloc (.cells #[.int .i64 nk,.int .i64 na,.int .i64 nb,.slice Ay' ny.length cy'] 125)) rfl hb.size;have hO1:=hide (bX.below hO ((Below.refl Wo.heap.size Wo).alloc (Nat.le_refl _) (.cells #[.int .i64 nk,.int .i64 na,.int .i64 nb,.slice Ay' ny.length cy'] 125)));have Eo:=hide (aP.keep yV (Agree.alloc (K:=fun b=>b<w.heap.size) (w:=Wo) (fun b h=>Nat.lt_of_lt_of_le h hb.size) (.cells #[.int .i64 nk,.int .i64 na,.int .i64 nb,.slice Ay' ny.length cy'] 125)) (fun b h=>h));clear hO yV;go_upto_region 5 with fail;generalize hWa:Wo.alloc (.cells #[.int .i64 nk,.int .i64 na,.int .i64 nb,.slice Ay' ny.length cy'] 125)=Wa at*;have nn:=Blk.newEq hWa;have hszA:=hA.size;have hOA:=hO1.out;have hyS:=Eo.out;clear hWa d0 d1 d2 d3 hO1 Eo;have hbA:=hA;generalize u3=v10 at*;refine bQ w.heap.size [wV (v10),wV (.pointer (some ⟨Wo.heap.size,0,none⟩)),wV (.agg #[.int .i64 nk,.int .i64 na,.int .i64 nb]),wV (.pointer (some ⟨Wo.heap.size,3,none⟩)),wV (.slice Ay' ny.length cy'),wI w.heap.size ny,wNd w.heap.size ⟨nk,na,nb⟩ ny,wNs w.heap.size ⟨nk,na,nb⟩ ny,wND w.heap.size (M++[⟨⟨nk,na,nb⟩,ny⟩]),wND w.heap.size (M++[⟨⟨nk,na,nb⟩,ny⟩]),wA (wX v10 (wND w.heap.size M)) (wK Wo.heap.size 125 #[.int .i64 nk,.int .i64 na,.int .i64 nb,.slice Ay' ny.length cy'])] [[],[],[1,10],[],[3,10],[4],[2,5],[6],[0,7,10],[8]] [[],[],[],[],[],[],[],[],[125],[]] [[],[],[],[],[],[3],[3],[125,3],[125,3],[125,3],[125,3,125]] [] [125] hszA (by kernel_rfl) (by kernel_rfl) (by kernel_rfl) (by kernel_rfl) (by kernel_rfl) (by kernel_rfl) rfl ⟨fun _=>⟨hOA,nn⟩,trivial⟩ (by kernel_rfl) (by kernel_rfl) ?hstep ?hend;case hstep=>
    simp only[iL,gB,RsT,acV,wV,wO,wS,wB,wU,wX,wK,wA,wI,wNd,wNs,wND,bW,gA,gZ,gS,List.getD_cons_zero,List.getD_cons_succ,List.getD_nil,Act.put,sA,sZ,sS,Nat.zero_add,Nat.reduceAdd,if_true,and_true];refine⟨?_,?_,?o2,?_,?o4,?o5,?o6,?o7,?o8,?o9⟩;all_goals intro vs W R hR hT hd
    all_goals have hsz:=Nat.le_trans hszA hT.size
    all_goals have hbW:=hbA.trans hT.below
    case o2=>
     obtain⟨e1,-,kn⟩:=hd;rw[e1];have c0:=Blk.n0 kn;have c1:=Blk.n1 kn;have c2:=Blk.n2 kn;go_wp2;exact⟨rfl,_,rfl,hR _ _ rfl (TyW.refl _ _ _)⟩
    case o4=>
     obtain⟨e1,-,kn⟩:=hd;rw[e1];have c3:=Blk.n3 kn;go_wp2;exact⟨rfl,_,rfl,hR _ _ rfl (TyW.refl _ _ _)⟩
    case o5=>
     rw[hd];go_wp2_with fail;refine(rY Ay' cy' ny (fun b=>b<w.heap.size) W (fun b (hb:b<w.heap.size)=>Nat.lt_of_lt_of_le hb hsz) (aP.keep hyS (Agree.below hT.below fun b h=>h) (fun b h=>h)) (by omega)).mono ?_;rintro e W2 ⟨v,rfl,hv,hb2⟩;go_wp2;exact⟨rfl,_,rfl,hR _ _ (bH hv hsz) (TyW.calm hb2 hsz)⟩
    case o6=>
     obtain⟨e2,o5⟩:=hd;obtain⟨Au,cu,e5⟩:=aY.form o5;rw[e5]at o5⊢;rw[e2];go_wp2;exact⟨rfl,_,rfl,hR _ _ ⟨_,rfl,o5⟩ (TyW.refl _ _ _)⟩
    case o7=>
     obtain⟨u,e6,hu⟩:=hd;obtain⟨Au,cu,rfl⟩:=aU hu;rw[e6];go_wp2;exact⟨rfl,_,rfl,hR _ _ ⟨W.heap.size,_,hsz,rfl,Blk.new _ _ _,World.ownsRow.alloc hu _⟩ (TyW.calm ((Below.refl _ _).alloc (Nat.le_refl _) _) hsz)⟩
    case o8=>
     obtain⟨e0,⟨g,u,hg,e7,kg,hu⟩,hO,-⟩:=hd;rw[e0,e7];refine jQ fE.aO qF rfl _ _ 34 rfl w.heap.size 125 ino _ 4 48 Tryz.underlying34 xP nZ og mD rfl (by decide) [3] (by decide) v10 M rfl hO g _ ⟨⟨nk,na,nb⟩,ny⟩ kg rfl (pF hu) rfl (by unfold maxLen;omega) (by omega) hsz w.heap.size (Nat.le_refl _) ?_;intro v8 W8 hO8 hT8 S9;exact⟨rfl,_,rfl,hR _ _ hO8 hT8⟩
    case o9=>
     go_wp2;exact⟨rfl,_,rfl,hR _ _ hd (TyW.refl _ _ _)⟩
    all_goals (go_wp2;exact⟨rfl,_,rfl,hR _ _ (by first|rfl|trivial) (TyW.refl _ _ _)⟩)
   case hend=>
    intro vs W hT hd;have o9:bX W w.heap.size (vs 9) (M++[⟨⟨nk,na,nb⟩,ny⟩]):=hd 9 (by simp) (by kernel_rfl);have hb6:=hA.trans hT.below;simp only[acV,gA,gZ,gS,Act.put,sA,sZ,sS,List.length_cons,List.length_nil,Nat.reduceAdd];clear hd hT hyS hOA nn hA hbA;go_wp2;go_roundw;case rel=>exact⟨k+1,by omega,by go_num,by rw[hstp.out];exact o9,hb6⟩
    case measure=>simp[intOf];omega
  ·obtain rfl:k=tree.length:=(by omega);rw[List.take_length]at hO;go_wp2;go_ret;exact⟨_,rfl,hO,hb⟩
end Go.Proofs.YtfhnamomiaekdaaGreatDoor
namespace Go.Inq
inductive Tr where
 |leaf (n:Nod):Tr
 |fork (c:Cho) (l r:Tr):Tr
def Tr.flat:Tr→List Nod
 | .leaf n=>[n]
 | .fork c l r=>⟨c,[]⟩::(l.flat++r.flat)
def Tr.ok:Tr→Prop
 | .leaf n=>n.cyc≠[]
 | .fork _ l r=>l.ok∧r.ok
def Tr.leaves:Tr→Nat
 | .leaf _=>1
 | .fork _ l r=>l.leaves+r.leaves
def Tr.deep:Tr→Nat
 | .leaf _=>0
 | .fork _ l r=>1+max l.deep r.deep
def Tr.held(H:List Txn)(level:Int):Tr→List Cho→Bool
 | .leaf n,l=>decide (n.c=dw)&&iI H level l n.cyc
 | .fork c x y,l=>x.held H level (l++[c])&&y.held H level (l++[aQ c])&&dn H c
def bR:Nat→List Nod→Option (Tr×List Nod)
 |0,_=>none
 |_+1,[]=>none
 |k+1,n::r=>if n.cyc≠[]then some (.leaf n,r)else match bR k r with
  |none=>none
  |some (x,r1)=>match bR k r1 with
   |none=>none
   |some (y,r2)=>some (.fork n.c x y,r2)
theorem jm:∀{k:Nat} {l r:List Nod} {t:Tr},bR k l=some (t,r)→l=t.flat++r∧t.ok
 |0,_,_,_,h=>by cases h
 |k+1,[],_,_,h=>by cases h
 |k+1,n::l,r,t,h=>by
  unfold bR at h;split at h
  ·rename_i hc;injection h with h
   injection h with h1 h2
   subst h1 h2;exact⟨rfl,hc⟩
  ·rename_i hc;split at h
   ·cases h
   ·rename_i x r1 h1;split at h
    ·cases h
    ·rename_i y r2 h2;injection h with h
     injection h with h3 h4
     subst h3 h4;obtain⟨e1,o1⟩:=jm h1;obtain⟨e2,o2⟩:=jm h2;refine⟨?_,o1,o2⟩;have hn:n=⟨n.c,[]⟩:=by
      have:n.cyc=[]:=Classical.byContradiction hc;cases n;simp at this⊢;exact this
     show n::l=(⟨n.c,[]⟩::(x.flat++y.flat))++r2;rw[e1,e2,←hn];simp
theorem Nc(t:Tr):0<t.flat.length:=by cases t<;>simp[Tr.flat]
theorem vB:∀(t:Tr) (r:List Nod) (k:Nat),t.ok→t.flat.length≤k→bR k (t.flat++r)=some (t,r)
 | .leaf n,r,k,ho,hk=>by
  obtain⟨k,rfl⟩:∃j,k=j+1:=⟨k-1,by simp[Tr.flat]at hk;omega⟩;show bR (k+1) (n::r)=_;unfold bR;rw[if_pos (show n.cyc≠[] from ho)]
 | .fork c x y,r,k,ho,hk=>by
  have hl:(Tr.fork c x y).flat.length=x.flat.length+y.flat.length+1:=(by simp[Tr.flat]);obtain⟨k,rfl⟩:∃j,k=j+1:=⟨k-1,by omega⟩;show bR (k+1) (⟨c,[]⟩::(x.flat++y.flat)++r)=_;rw[List.cons_append,List.append_assoc];unfold bR;rw[if_neg (by simp),vB x (y.flat++r) k ho.1 (by omega)];dsimp only;rw[vB y r k ho.2 (by omega)]
def oh(l:List Nod):Option Tr:=match bR l.length l with
 |some (t,[])=>some t
 |_=>none
theorem rZ{l:List Nod}{t:Tr}:oh l=some t↔l=t.flat∧t.ok:=by
 unfold oh;constructor
 ·intro h;split at h
  ·rename_i t' h1;injection h with h
   subst h;obtain⟨e,o⟩:=jm h1;exact⟨by rw[e];simp,o⟩
  ·cases h
 ·rintro⟨rfl,ho⟩;have:=vB t [] t.flat.length ho (Nat.le_refl _);rw[List.append_nil]at this;rw[this]
def lJ(H:List Txn)(level:Int)(l:List Cho)(tree:List Nod):Bool:=oq H level&&match oh tree with
 |some t=>t.held H level l
 |none=>false
theorem qG{H:List Txn}{level:Int}{l:List Cho}{tree:List Nod}:lJ H level l tree=true↔oq H level=true∧∃t:Tr,tree=t.flat∧t.ok∧t.held H level l=true:=by
 unfold lJ;rw[Bool.and_eq_true];refine and_congr_right fun _=> ?_;constructor
 ·intro h;split at h
  ·rename_i t ht;obtain⟨e,o⟩:=rZ.1 ht;exact⟨t,e,o,h⟩
  ·cases h
 ·rintro⟨t,e,o,h⟩;rw[rZ.2 ⟨e,o⟩];exact h
structure Mk where
 c:Cho
 right:Bool
 done:List Nod
deriving DecidableEq
def Mk.chosen(m:Mk):Cho:=if m.right then aQ m.c else m.c
def aW(path:List Mk):List Cho:=path.map Mk.chosen
theorem mE(path:List Mk):(aW path).length=path.length:=List.length_map ..
theorem yX(path:List Mk)(m:Mk):aW (path++[m])=aW path++[m.chosen]:=by unfold aW;rw[List.map_append];rfl
def iW(path:List Mk)(c:Cho):Bool:=path.any fun m=>decide (c=m.c)||decide (c=aQ m.c)
def iA(H:List Txn)(level:Int)(l:List Cho)(path:List Mk)(m:Mk):Bool:=
 !iW path m.c&&dn H m.c&&if m.right then lJ H level (l++aW path++[m.c]) m.done else decide (m.done=[])
def jR(H:List Txn)(level:Int)(l:List Cho)(path:List Mk)(n:Nat):Bool:=(List.range n).all fun i=>iA H level l (path.take i) (path.getD i ⟨dw,false,[]⟩)
def eO(H:List Txn)(level:Int)(L:List Fct)(path:List Mk):Bool:=decide (L.length+path.length<20000)&&d9 H level L&&jR H level (av L) path path.length
theorem iB{H:List Txn}{level:Int}{l:List Cho}{path:List Mk}:jR H level l path path.length=true↔∀i (hi:i<path.length),iA H level l (path.take i) path[i]=true:=by
 unfold jR;rw[List.all_eq_true];constructor
 ·intro h i hi;have:=h i (List.mem_range.2 hi);rwa[mX hi]at this
 ·intro h i hi;have hi:=List.mem_range.1 hi;rw[mX hi];exact h i hi
theorem Gv{H:List Txn}{level:Int}{l:List Cho}{path:List Mk}(h:jR H level l path path.length=true)(n:Nat):jR H level l (path.take n) (path.take n).length=true:=by
 rw[iB]at h⊢;intro i hi;rw[List.length_take]at hi;rw[List.take_take,Nat.min_eq_left (by omega),List.getElem_take];exact h i (by omega)
theorem yY{H:List Txn}{level:Int}{l:List Cho}{path:List Mk}{m:Mk}:jR H level l (path++[m]) (path++[m]).length=(jR H level l path path.length&&iA H level l path m):=by
 rw[Bool.eq_iff_iff,Bool.and_eq_true];constructor
 ·intro h;have h1:=Gv h path.length;rw[List.take_left]at h1;rw[iB]at h;have h2:=h path.length (by simp);rw[List.take_left]at h2;simp at h2;exact⟨h1,h2⟩
 ·rintro⟨h1,h2⟩;rw[iB]at h1⊢;intro i hi;rw[List.length_append,List.length_singleton]at hi;by_cases hl:i<path.length
  ·rw[List.take_append_of_le_length (by omega),List.getElem_append_left hl];exact h1 i hl
  ·obtain rfl:i=path.length:=(by omega);rw[List.take_left];simpa using h2
def eD(H:List Txn)(level:Int)(L:List Fct):List Mk→List Nod→List Mk×Say
 |[],tree=>([],⟨2,[],fI H level L tree,[]⟩)
 |m::r,tree=>if m.right then eD H level L r (⟨m.c,[]⟩::(m.done++tree))else((⟨m.c,true,tree⟩::r).reverse,nY)
def dJ(H:List Txn)(level:Int)(L:List Fct)(path:List Mk):List Mk×Say:=
 if eO H level L path then
  let row:=av L++aW path
  if dI H level row≠[]then eD H level L path.reverse [⟨dw,dI H level row⟩]
  else match j6 H row with
   |none=>(path,⟨1,(fH H.length (bI H level row)).getD [],[],[]⟩)
   |some p=>(path++[⟨p,false,[]⟩],nY)
 else(path,oN)
end Go.Inq
namespace Go.Proofs.YtfhnamomiaekdaaGreatDoor
open Go.RowKit Go.Inq
set_option maxHeartbeats 1000000
def MkR(w:World)(K:Nat→Prop)(cs:List Value)(m:Mk):Prop:=∃A c,cs=[.int .i64 m.c.key,.int .i64 m.c.a,.int .i64 m.c.b,.bool m.right,.slice A m.done.length c]∧bJ w K (.slice A m.done.length c) m.done
theorem MkR.aO:lU MkR:=fun _ _ _ _ _ _ h ha hk=>by
 obtain⟨A,c,h1,h2⟩:=h;exact⟨A,c,h1,bJ.keep h2 ha hk⟩
def MkS(w:World)(K:Nat→Prop)(v:Value)(l:List Mk):Prop:=SlR 5 MkR w K v l
section
variable{w w':World}{K K':Nat→Prop}{v:Value}{l:List Mk}
theorem MkS.keep(h:MkS w K v l)(ha:Agree K w w')(hk:∀b,K b→K' b):MkS w' K' v l:=SlR.keep MkR.aO h ha hk
theorem MkS.below(h:MkS w (Old w) v l)(hb:Below w.heap.size w w'):MkS w' (Old w') v l:=SlR.below MkR.aO h hb
theorem MkS.fit(h:MkS w K v l)(hk:∀b,K b→K' b):MkS w K' v l:=SlR.fit MkR.aO h hk
theorem MkS.nil(w:World)(K:Nat→Prop)(A:Option Addr)(c:Nat):MkS w K (.slice A 0 c) []:=SlR.nil _ _ _ _ _ _
theorem MkS.take{A:Option Addr}{n c:Nat}(h:MkS w K (.slice A n c) l){k:Nat}(hk:k≤l.length):MkS w K (.slice A k c) (l.take k):=SlR.take h hk
theorem MkS.cap{A:Option Addr}{n c:Nat}(h:MkS w K (.slice A n c) l):l.length≤c:=by
 obtain⟨_,_,e,h1⟩:=SlR.len h;simp only[Value.slice.injEq]at e;omega
structure Ut(w:World)(K:Nat→Prop)(b o:Nat)(m:Mk)(Ay:Option Addr)(cy:Nat):Prop where
 d0:w.cell? ⟨b,o,none⟩=some (.int .i64 m.c.key)
 d1:w.cell? ⟨b,o+1,none⟩=some (.int .i64 m.c.a)
 d2:w.cell? ⟨b,o+2,none⟩=some (.int .i64 m.c.b)
 d3:w.cell? ⟨b,o+3,none⟩=some (.bool m.right)
 d4:w.cell? ⟨b,o+4,none⟩=some (.slice Ay m.done.length cy)
 done:bJ w K (.slice Ay m.done.length cy) m.done
theorem MkS.at_{A:Option Addr}{n c:Nat}(h:MkS w K (.slice A n c) l){i:Nat}(hi:i<l.length):∃b off Ay cy,A=some ⟨b,off,none⟩∧K b∧Ut w K b (off+i*5) l[i] Ay cy:=by
 obtain⟨b,off,cs,hA,hK,-,⟨Ay,cy,rfl,hy⟩,hc⟩:=SlR.at_ h hi;exact⟨b,off,Ay,cy,hA,hK,hc 0 _ rfl,hc 1 _ rfl,hc 2 _ rfl,hc 3 _ rfl,hc 4 _ rfl,hy⟩
end
def bY(p:List Mk):Nat:=(p.map fun m=>1+m.done.length).sum
theorem r9(p:List Mk)(m:Mk):bY (p++[m])=bY p+(1+m.done.length):=by unfold bY;rw[List.map_append,List.sum_append];simp
theorem Ep{p:List Mk}:p.length≤bY p:=by
 unfold bY
 induction p with
 |nil=>simp
 |cons m p ih=>simp only[List.map_cons,List.sum_cons,List.length_cons];omega
theorem Kq{p:List Mk}{m:Mk}(h:m∈p):1+m.done.length≤bY p:=by
 unfold bY
 induction p with
 |nil=>simp at h
 |cons x p ih=>
  simp only[List.map_cons,List.sum_cons];rcases List.mem_cons.1 h with rfl|h
  ·omega
  ·have:=ih h;omega
theorem yZ(p:List Mk)(i:Nat):bY (p.take i)≤bY p:=by
 conv=>rhs;rw[←List.take_append_drop i p]
 unfold bY;rw[List.map_append,List.sum_append];omega
def kW(l:List Nod):Prop:=∀n∈l,n.cyc.length≤1000000
def pG(p:List Mk):Prop:=bY p≤50000000∧∀m∈p,kW m.done
theorem pG.len{p:List Mk}(h:pG p):p.length≤50000000:=Nat.le_trans Ep h.1
theorem pG.done{p:List Mk}(h:pG p){m:Mk}(hm:m∈p):u7 m.done:=⟨by have:=Kq hm;have:=h.1;omega,h.2 m hm⟩
theorem pG.at_{p:List Mk}(h:pG p){i:Nat}(hi:i<p.length):u7 p[i].done:=h.done (List.getElem_mem hi)
theorem pG.take{p:List Mk}(h:pG p)(i:Nat):pG (p.take i):=⟨Nat.le_trans (yZ p i) h.1,fun m hm=>h.2 m (List.mem_of_mem_take hm)⟩
end Go.Proofs.YtfhnamomiaekdaaGreatDoor
namespace Go.Proofs.YtfhnamomiaekdaaGreatDoor
open Go.RowKit Go.Inq
set_option maxHeartbeats 4000000
attribute [local go_sem↓] Go.wp_at_zero Go.wp_at_succ
theorem Nf:(Tryz.prog.info? 129).map (fun i=>(i.zero,i.size,i.bytes))=some (some (.agg #[.int .i64 0,.int .i64 0,.int .i64 0,.bool false,.slice none 0 0]),5,56):=by kernel_rfl
theorem mk_one:∀(w:World) (K:Nat→Prop) (cs:List Value) (x:Mk),MkR w K cs x→∀u∈cs,u.oneCell'=true:=by
 rintro w K cs x ⟨A,c,rfl,-⟩ u hu;simp only[List.mem_cons,List.not_mem_nil,or_false]at hu;rcases hu with rfl|rfl|rfl|rfl|rfl<;>rfl
def MkO(w:World)(base:Nat)(v:Value)(l:List Mk):Prop:=aG 5 MkR w (TyK base [125,3] w) base 129 v l
theorem MkO.s{w:World}{base:Nat}{v:Value}{l:List Mk}(h:MkO w base v l):MkS w (Old w) v l:=aG.Na MkR.aO h
theorem MkO.below{w w':World}{base:Nat}{v:Value}{l:List Mk}(h:MkO w base v l)(hb:Below w.heap.size w w'):MkO w' base v l:=aG.CZ MkR.aO h hb (Nat.le_refl _)
theorem MkO.base{w:World}{base base':Nat}{v:Value}{l:List Mk}(h:MkO w base v l)(hb:base'≤base):MkO w base' v l:=aG.Nb MkR.aO h hb
theorem MkO.nil(w:World)(base:Nat):MkO w base (.slice none 0 0) []:=aG.nil _ _ _ _ _ _
theorem bX.slK{w:World}{base:Nat}{v:Value}{l:List Nod}(h:bX w base v l):bJ w (TyK base [125,3] w) v l:=aG.slT fE.aO h
theorem tV{w:World}{base:Nat}{e:TypeId}{size n m c j:Nat}{A:Option Addr}{xs:List Value}(h:w.ownsRow base e size (.slice A m c) n xs)(hj:j<xs.length):
 ∃g,A=some ⟨g,0,none⟩∧base≤g∧(∃cs,Blk w g e cs∧cs[j]?=xs[j]?)∧∀u,(w.setCell ⟨g,j,none⟩ u).ownsRow base e size (.slice A m c) n (xs.set j u):=by
 have h0:=h.1;rcases h.2 with⟨_,h4⟩|⟨g,cap,cur,hv,hg,hh,h6,h7,h8,h9⟩
 ·exfalso;rw[h4]at h0;simp at h0;rw[h0]at hj;simp at hj
 ·simp only[Value.slice.injEq]at hv;obtain⟨rfl,hn,rfl⟩:=hv;have hk:Blk w g e cur:=hh;have hjc:j<n*size:=(by omega);refine⟨g,rfl,hg,⟨cur,hk,?_⟩,fun u=>⟨by rw[List.length_set];exact h0,.inr ⟨g,c,_,by rw[hn],hg,hk.aM j u,h6,h7,by simpa using h8,?_⟩⟩⟩
  ·rw[←h9,List.getElem?_take,if_pos hjc,Array.getElem?_toList]
  ·rw[←h9,Array.toList_setIfInBounds,List.take_set]
theorem tX{α:Type}(size:Nat):∀(ys:List (List α)) (i j:Nat) (u:α),(∀y∈ys,y.length=size)→(hi:i<ys.length)→j<size→ys.flatten.set (i*size+j) u=(ys.set i (ys[i].set j u)).flatten
 |[],i,j,u,_,hi,_=>by simp at hi
 |y::ys,0,j,u,hs,_,hj=>by
  have:=hs y (by simp);simp[List.set_append,this,hj]
 |y::ys,i+1,j,u,hs,hi,hj=>by
  have h1:=hs y (by simp);have ih:=tX size ys i j u (fun z hz=>hs z (by simp[hz])) (by simpa using hi) hj;simp only[List.flatten_cons,sS,List.getElem_cons_succ];rw[←ih,List.set_append,if_neg (by rw[h1,Nat.add_mul];omega),h1,show(i+1)*size+j-size=i*size+j by rw[Nat.add_mul];omega]
theorem C9{α:Type}(size:Nat):∀(ys:List (List α)) (i j:Nat),(∀y∈ys,y.length=size)→(hi:i<ys.length)→j<size→ys.flatten[i*size+j]?=ys[i][j]?
 |[],i,j,_,hi,_=>by simp at hi
 |y::ys,0,j,hs,_,hj=>by
  have:=hs y (by simp);simp only[Nat.zero_mul,Nat.zero_add,List.flatten_cons,List.getElem_cons_zero];rw[List.getElem?_append_left (by omega)]
 |y::ys,i+1,j,hs,hi,hj=>by
  have h1:=hs y (by simp);have ih:=C9 size ys i j (fun z hz=>hs z (by simp[hz])) (by simpa using hi) hj;simp only[List.flatten_cons,List.getElem_cons_succ];rw[←ih,List.getElem?_append_right (by rw[h1,Nat.add_mul];omega),h1,show(i+1)*size+j-size=i*size+j by rw[Nat.add_mul];omega]
theorem pI{α:Type}(size:Nat):∀(ys:List (List α)),(∀y∈ys,y.length=size)→ys.flatten.length=ys.length*size
 |[],_=>by simp
 |y::ys,hs=>by
  have ih:=pI size ys fun z hz=>hs z (by simp[hz]);rw[List.flatten_cons,List.length_append,ih,hs y (by simp),List.length_cons,Nat.add_mul];omega
def MkJ(w:World)(base:Nat)(v:Value)(l:List Mk)(k:Nat):Prop:=
 ∃ys:List (List Value),w.ownsRow base 129 5 v l.length ys.flatten∧ys.length=l.length∧∀(i:Nat) cs x,ys[i]?=some cs→l[i]?=some x→cs.length=5∧(i<k→MkR w (TyK base [125,3] w) cs x)∧(k≤i→MkR w (fun b=>b<base) cs x)
theorem MkJ.start{w:World}{base:Nat}{v:Value}{l:List Mk}(h:aG 5 MkR w (fun b=>b<base) base 129 v l):MkJ w base v l 0:=by
 obtain⟨ys,h1,h2,h3⟩:=h;exact⟨ys,h1,h2,fun i cs x e1 e2=>⟨(h3 i cs x e1 e2).1,fun g=>absurd g (by omega),fun _=>(h3 i cs x e1 e2).2⟩⟩
theorem MkJ.fin{w:World}{base:Nat}{v:Value}{l:List Mk}(h:MkJ w base v l l.length):MkO w base v l:=by
 obtain⟨ys,h1,h2,h3⟩:=h;exact⟨ys,h1,h2,fun i cs x e1 e2=>⟨(h3 i cs x e1 e2).1,(h3 i cs x e1 e2).2.1 (List.getElem?_eq_some_iff.1 e2).1⟩⟩
theorem MkJ.form{w:World}{base:Nat}{v:Value}{l:List Mk}{k:Nat}(h:MkJ w base v l k):∃A c,v= .slice A l.length c:=by
 obtain⟨ys,h1,-⟩:=h;exact aU h1
theorem MkJ.below{w w':World}{base:Nat}{v:Value}{l:List Mk}{k:Nat}(h:MkJ w base v l k)(hb:Below w.heap.size w w')(hB:base≤w.heap.size):MkJ w' base v l k:=by
 obtain⟨ys,h1,h2,h3⟩:=h;refine⟨ys,own_below h1 hb (Nat.le_refl _),h2,fun i cs x e1 e2=> ?_⟩;obtain⟨g1,g2,g3⟩:=h3 i cs x e1 e2;have hA:=TyK.below (base:=base) (τs:=[125,3]) hb (Nat.le_refl _);exact⟨g1,fun hi=>MkR.aO _ _ _ _ _ _ (g2 hi) hA fun _ g=>TyK.step hA g,fun hi=>MkR.aO _ _ _ _ _ _ (g3 hi) (Agree.below hb fun b (h:b<base)=>by omega) fun _ g=>g⟩
theorem MkJ.cells{w:World}{base:Nat}{A:Option Addr}{n c:Nat}{l:List Mk}{k:Nat}(h:MkJ w base (.slice A n c) l k)(hk:k<l.length):
 ∃g Ay cy,A=some ⟨g,0,none⟩∧base≤g∧g<w.heap.size∧bJ w (fun b=>b<base) (.slice Ay l[k].done.length cy) l[k].done∧(∃cs,Blk w g 129 cs)∧
  w.cell? ⟨g,k*5,none⟩=some (.int .i64 l[k].c.key)∧w.cell? ⟨g,k*5+1,none⟩=some (.int .i64 l[k].c.a)∧w.cell? ⟨g,k*5+2,none⟩=some (.int .i64 l[k].c.b)∧w.cell? ⟨g,k*5+3,none⟩=some (.bool l[k].right)∧w.cell? ⟨g,k*5+4,none⟩=some (.slice Ay l[k].done.length cy)∧
  ∀At ct,bX w base (.slice At l[k].done.length ct) l[k].done→MkJ (w.setCell ⟨g,k*5+4,none⟩ (.slice At l[k].done.length ct)) base (.slice A n c) l (k+1):=by
 obtain⟨ys,h1,h2,h3⟩:=h;have hky:k<ys.length:=(by omega);obtain⟨g1,-,g3⟩:=h3 k ys[k] l[k] (List.getElem?_eq_getElem hky) (List.getElem?_eq_getElem hk);obtain⟨Ay,cy,hcs,hS⟩:=g3 (Nat.le_refl _);have hall:∀y∈ys,y.length=5:=fun y hy=>by
  obtain⟨i,hi,rfl⟩:=List.getElem_of_mem hy;exact(h3 i ys[i] (l[i]'(by omega)) (List.getElem?_eq_getElem hi) (List.getElem?_eq_getElem (by omega))).1
 have hfl:=pI 5 ys hall;obtain⟨g,rfl,hg,⟨cs,hb,-⟩,hset⟩:=tV h1 (j:=k*5+4) (by omega);have hcell:∀j,j<5→w.cell? ⟨g,k*5+j,none⟩=ys[k][j]?:=fun j hj=>by
  obtain⟨g',e,-,⟨cs',hb',hc'⟩,-⟩:=tV h1 (j:=k*5+j) (by omega);injection e with e
  injection e with e1 e2
  subst e1;rw[hb'.cell,hc',List.getElem?_eq_getElem (by omega)];rw[←C9 5 ys k j hall hky hj,List.getElem?_eq_getElem (by omega)]
 rw[hcs]at hcell;have e0:=hcell 0 (by omega);have e1:=hcell 1 (by omega);have e2:=hcell 2 (by omega);have e3:=hcell 3 (by omega);have e4:=hcell 4 (by omega);refine⟨g,Ay,cy,rfl,hg,hb.lt,hS,⟨cs,hb⟩,e0,e1,e2,e3,e4,fun At ct hO=> ?_⟩;have hA:Agree (TyK base [125,3] w) w (w.setCell ⟨g,k*5+4,none⟩ (.slice At l[k].done.length ct)):=TyK.aM hb (by decide) _;have hA2:Agree (fun b=>b<base) w (w.setCell ⟨g,k*5+4,none⟩ (.slice At l[k].done.length ct)):=Agree.setCell ⟨g,k*5+4,none⟩ (by show¬g<base;omega) _;refine⟨ys.set k (ys[k].set 4 (.slice At l[k].done.length ct)),by rw[←tX 5 ys k 4 _ hall hky (by omega)];exact hset _,by rw[List.length_set];exact h2,fun i cs x f1 f2=> ?_⟩;by_cases hik:i=k
 ·subst hik;rw[List.getElem?_set_self hky]at f1;rw[List.getElem?_eq_getElem hk]at f2;injection f1 with f1
  injection f2 with f2
  subst f1 f2;refine⟨by rw[List.length_set];exact g1,fun _=> ?_,fun h=>absurd h (by omega)⟩;rw[hcs];exact⟨At,ct,rfl,bJ.keep (bX.slK hO) hA fun _ g=>TyK.step hA g⟩
 ·rw[List.getElem?_set_ne (Ne.symm hik)]at f1;obtain⟨q1,q2,q3⟩:=h3 i cs x f1 f2;exact⟨q1,fun hi=>MkR.aO _ _ _ _ _ _ (q2 (by omega)) hA fun _ g=>TyK.step hA g,fun hi=>MkR.aO _ _ _ _ _ _ (q3 (by omega)) hA2 fun _ g=>g⟩
theorem Uu(w:World)(A:Option Addr)(n c:Nat):(Go.binOp .eql 51 (.slice A n c) (.slice none 0 0)).run Tryz.prog w= .ok (.bool A.isNone) w:=Lib.run_eql_slice_nil w 51 129 A n c 0 0 Tryz.underlying51
attribute [local go_sem] Uu
set_option maxRecDepth 100000 in
theorem Gw(A:Option Addr)(c:Nat)(l:List Mk)(w:World)(h:MkS w (Old w) (.slice A l.length c) l)(hl:l.length≤50000000):
 Calls Tryz.prog 127 #[.slice A l.length c] w fun e w'=>∃v,e= .returned v∧MkJ w' w.heap.size v l 0∧Below w.heap.size w w':=by
 obtain⟨ii,hii,hi1,hi2,hi3⟩:=info_parts Nf;replace h:=hide h;cases A with
 |none=>
  have hz:l=[]:=by
   rcases Nat.lt_or_ge 0 l.length with g|g
   ·obtain⟨b,off,_,_,hA,_⟩:=h.out.at_ g;cases hA
   ·exact List.eq_nil_of_length_eq_zero (by omega)
  subst hz;go_enter Tryz.func127,Tryz.ntmps127;go_wp2;exact bodyPost_ret (v:= .slice none 0 0) (by simp[results,Tryz.results127,go_sem]) rfl ⟨_,rfl,MkJ.start (aG.nil _ _ _ _ _ _),Below.refl _ _⟩
 |some ad=>
  obtain⟨W0,hW0⟩:∃W0,w.alloc (.cells #[] 129)=W0:=⟨_,rfl⟩;have hB:=ah (Below.refl w.heap.size w) hW0 (Nat.le_refl _);have k0:=Blk.newEq hW0;have hS:Hid (SlR 5 MkR W0 (fun b=>b<w.heap.size) (.slice (some ad) l.length c) l):=hide (MkS.keep h.out (Agree.below hB fun b h=>h) (fun _ h=>h));have hown:aG 5 MkR W0 (fun b=>b<w.heap.size) w.heap.size 129 (.slice (some ⟨w.heap.size,0,none⟩) 0 0) []:=⟨[],⟨rfl,.inr ⟨w.heap.size,0,#[],rfl,Nat.le_refl _,k0,Nat.le_refl _,Nat.zero_le _,rfl,rfl⟩⟩,rfl,fun i cs x e=>by simp at e⟩;have hs0:=hB.size;clear k0 h;go_enter Tryz.func127,Tryz.ntmps127;go_wp2_with (at_builtin;go_loud (refine aX (R:=MkR) rfl (.tmp 5) (.tmp 6) 51 rfl w.heap.size 129 ii _ 5 56 Tryz.underlying51 hii hi1 hi2 hi3 rfl (by decide) (.slice (some ⟨w.heap.size,0,none⟩) 0 0) (fun b=>b<w.heap.size) [] rfl hown (.slice (some ad) l.length c) l rfl hS.out (mk_one _ _) (by simp[maxLen];omega) (by simp;omega) hs0 (fun w' hg cs x hx=>MkR.aO _ _ _ _ _ _ hx (Agree.grown hg (fun b hb=>⟨by omega,fun e=>by simp[Value.ownBlock]at e;omega⟩)) (fun _ h=>h)) ?_);intro v1 w6 hown1 hg1 nI;obtain⟨A6,c6,rfl⟩:=hown1.form;rw[List.nil_append]at hown1);go_ret;exact⟨_,rfl,MkJ.start hown1,below_grown hB hg1 hB.size (fun k hk=>by simp[Value.ownBlock]at hk;omega)⟩
set_option maxRecDepth 100000 in
theorem Kr(A:Option Addr)(c:Nat)(l:List Mk)(w:World)(h:MkS w (Old w) (.slice A l.length c) l)(hF:pG l):
 Calls Tryz.prog 70 #[.slice A l.length c] w fun e w'=>∃v,e= .returned v∧MkO w' w.heap.size v l∧Below w.heap.size w w':=by
 have hll:=hF.len;have hc:=hide (Gw A c l w h hll);have hfit:=hide (fun k (hk:k<l.length)=>hF.at_ hk);clear h hF;go_enter Tryz.func70,Tryz.ntmps70;go_wp2_with fail;refine hc.out.mono ?_;rintro e w1 ⟨v,rfl,hJ,hb⟩;obtain⟨Av,cv,rfl⟩:=hJ.form;clear hc;go_wp2_with fail;go_loopw [4,5,10] (fun _ _ s10 wr=>∃k:Nat,k≤l.length∧s10= .int .i64 (k:Int)∧MkJ wr w.heap.size (.slice Av l.length cv) l k∧Below w.heap.size w wr) (fun _ _ s10 _=>l.length-(intOf s10).toNat);case atStart=>exact⟨0,by omega,by go_num,hJ,hb⟩
 case round=>
  clear hJ hb;obtain⟨Wo,rfl⟩:∃Wo,Wo=wr:=⟨_,rfl⟩;obtain⟨k,hk,rfl,hJ,hb⟩:=hrel;have hk0:(0:Int)≤(k:Int):=Int.natCast_nonneg _;by_cases hlt:k<l.length
  ·have hk1:(k:Int)<(l.length:Int):=(by omega);have hsz:=hb.size;obtain⟨g,Ay,cy,rfl,hg,hgl,hS,-,e0,e1,e2,e3,e4,-⟩:=hJ.cells hlt;have hft:=hfit.out k hlt;have hnl:l[k].done.length≤100000000:=hft.1;obtain⟨Wa,hWa⟩:∃Wa,Wo.alloc (.cells #[.int .i64 l[k].c.key,.int .i64 l[k].c.a,.int .i64 l[k].c.b,.bool l[k].right,.slice Ay l[k].done.length cy] 129)=Wa:=⟨_,rfl⟩;have hba:=ah (Below.refl Wo.heap.size Wo) hWa (Nat.le_refl _);have hJ1:=hide (hJ.below hba hsz);have hB1:=hb.trans (hba.mono hsz);have hS1:=hS.keep (Agree.below hba fun b (hb:b<w.heap.size)=>by omega) (fun _ h=>h);have hnd:=hide (En Ay cy l[k].done (fun b=>b<w.heap.size) Wa (fun b hb=>by have:=hba.size;omega) hS1 hft);have nn:=Blk.newEq hWa;have VN:g<Wo.heap.size:=hgl;clear hJ hS hS1 hft;obtain⟨X,hX⟩:∃X,X=l[k]:=⟨_,rfl⟩;rw[←hX]at hWa hnd nn e0 e1 e2 e3 e4 hnl;obtain⟨⟨xk,xa,xb⟩,xq,xd⟩:=X;dsimp only at hWa hnd nn e0 e1 e2 e3 e4 hnl;replace hX:=hide hX;have m4:=Blk.n4 nn;go_upto_region 5 with fail;try rw[hWa]
   clear hWa e0 e1 e2 e3 e4;go_wp2_with fail;refine hnd.out.mono ?_;rintro e W2 ⟨vt,rfl,hO,hb2⟩;obtain⟨At,ct,rfl⟩:=aG.form hO;have hJ2:=hJ1.out.below hb2 (Nat.le_trans hsz hba.size);obtain⟨g',Ay',cy',e,-,VO,-,⟨cs,kb⟩,-,-,-,-,e4,hst⟩:=hJ2.cells hlt;injection e with e
   injection e with e5 e6
   subst e5;have hx2:l[k].done=xd:=(by rw[←hX.out]);have y5:=hst At ct;rw[hx2]at y5 e4;have hJ3:=hide (y5 (bX.base hO (Nat.le_trans hsz hba.size)));have hB3:=hide ((hB1.trans (hb2.mono hB1.size)).setCell (p:=⟨g,k*5+4,none⟩) hg (.slice At xd.length ct));have f4:=kb.frozen (k*5+4);clear hJ1 hnd hO hJ2 hst y5 nn m4 kb hb2 hX hx2;go_wp2_with fail;go_roundw;case rel=>exact⟨k+1,by omega,by go_num,hJ3.out,hB3.out⟩
   case measure=>simp[intOf];omega
  ·obtain rfl:k=l.length:=(by omega);go_wp2;go_ret;exact⟨_,rfl,hJ.fin,hb⟩
end Go.Proofs.YtfhnamomiaekdaaGreatDoor
namespace Go.Proofs.YtfhnamomiaekdaaGreatDoor
open Go Go.RowKit Go.Inq
set_option maxHeartbeats 4000000
attribute [local go_sem↓] Go.wp_at_zero Go.wp_at_succ
theorem wpList_append_run {P:Program} {w w':World} {ops:Array Oper} {rest:List Oper} {o:Oper} {a:Act} {Q:Exit→Act→World→Prop} (hgd:o.guard=none) (s x:Operand) (t u:TypeId) (ho:o.op= .call {callee:= .builtin .append,args:=#[s,x],argTypes:=#[t,u]})
 (vs vx v:Value) (hs:a.eval s=vs) (hx:a.eval x=vx) (hrun:(Builtin.append_ #[t,u] o.type #[vs,vx]).run P w= .ok v w') (h:wpList P ops Q rest (a.put o.dst v) w'):wpList P ops Q (o::rest) a w:=by
 refine wpList_plain hgd fun K hK'=> ?_;unfold Oper.wp;simp[execOp,ho,resolve,invoke,builtin,hs,hx,hrun,Result.andThen];exact hK' _ _ h
set_option maxRecDepth 100000 in
theorem Gx(n:Nat)(hn:n≤200000000)(w:World):Calls Tryz.prog 193 #[.slice none 0 0,.int .i64 (n:Int)] w fun e w'=>∃v,e= .returned v∧w'.ownsRow w.heap.size 125 4 v 0 []∧Below w.heap.size w w':=by
 obtain⟨ino,xP,nZ,og,mD⟩:=info_parts tT;have hn0:(0:Int)≤(n:Int):=Int.natCast_nonneg _;rcases Nat.eq_zero_or_pos n with rfl|hp
 ·go_enter Tryz.func193,Tryz.ntmps193;go_wp2;go_ret;exact⟨_,rfl,World.ownsRow_nil _ _ _ _,Below.refl _ _⟩
 ·have hap:=Lib.run_append_grow_zeros (P:=Tryz.prog) w 34 3 34 125 ino (.agg #[.int .i64 0,.int .i64 0,.int .i64 0,.slice none 0 0]) .i64 .i64 Tryz.underlying34 Tryz.underlying3 xP nZ none 0 0 [] (by kernel_rfl) n hp (by rw[og];decide) (by omega) (by omega) (by rw[mD];omega) (by
   have:Builtin.nextslicecap (0+n) 0=n:=(by unfold Builtin.nextslicecap;simp;omega);rw[this,mD];omega)
  rw[Nat.zero_add]at hap;have hc1:=grownCap_ge w n 0 125;have hc2:=grownCap_le_maxLen w n 0 125 (by unfold maxLen;omega);generalize grownCap w n 0 125=cp at*;obtain⟨cs,hcs⟩:∃cs,((#[]:Array Value)++Builtin.zeroCells (Value.agg #[Value.int IntKind.i64 0,Value.int IntKind.i64 0,Value.int IntKind.i64 0,Value.slice none 0 0]).cells n++Builtin.zeroCells (Value.agg #[Value.int IntKind.i64 0,Value.int IntKind.i64 0,Value.int IntKind.i64 0,Value.slice none 0 0]).cells (cp-n))=cs:=⟨_,rfl⟩;have hsz:cs.size=cp*4:=by
   rw[←hcs,Array.size_append,Array.size_append,size_zeroCells,size_zeroCells];have:(Value.agg #[Value.int IntKind.i64 0,Value.int IntKind.i64 0,Value.int IntKind.i64 0,Value.slice none 0 0]).cells.size=4:=(by kernel_rfl);rw[this];simp;omega
  have Ta:(Builtin.append_ #[34,3] 34 #[.slice none 0 0,.int .i64 (n:Int)]).run Tryz.prog w= .ok (.slice (some ⟨w.heap.size,0,none⟩) n cp) (w.drew.alloc (.cells cs 125)):=by
   rw[←hcs];exact hap
  obtain⟨W1,hW1⟩:∃W1,w.drew.alloc (.cells cs 125)=W1:=⟨_,rfl⟩;have hb:Below w.heap.size w W1:=ah (Below.refl w.heap.size w).drew hW1 (Nat.le_refl _);have kb:Blk W1 w.heap.size 125 cs:=by
   have:=Blk.newEq hW1;exact this
  rw[hW1]at Ta;have hO:W1.ownsRow w.heap.size 125 4 (.slice (some ⟨w.heap.size,0,none⟩) 0 cp) 0 []:=⟨rfl,.inr ⟨w.heap.size,cp,cs,rfl,Nat.le_refl _,kb,Nat.zero_le _,hc2,hsz,rfl⟩⟩;have g1:(0:Int)≤(cp:Int):=Int.natCast_nonneg _;have g2:decide ((n:Int)>0)=true:=decide_eq_true (by omega);have g3:decide (0<n)=true:=decide_eq_true hp;replace hsz:=hide hsz;replace hO:=hide hO;clear hap hcs kb;go_enter Tryz.func193,Tryz.ntmps193;go_wp2_with (at_builtin;refine wpList_append_run rfl (.tmp 20) (.tmp 21) 34 3 rfl (.slice none 0 0) (.int .i64 (n:Int)) _ rfl rfl Ta ?_);go_ret;exact⟨_,rfl,hO.out,hb⟩
def sj(K1:Nat→Prop)(w:World)(_:Nat→Prop)(cs:List Value)(n:Nod):Prop:=fE w K1 cs n
theorem sj.own{w:World}{base:Nat}{v:Value}{l:List Nod}(h:bX w base v l)(K:Nat→Prop):aG 4 (sj (TyK base [3] w)) w K base 125 v l:=h
theorem sj.sl{w:World}{base:Nat}{v:Value}{l:List Nod}(h:bX w base v l):SlR 4 (sj (TyK base [3] w)) w (Old w) v l:=aG.sl (sj.own h (Old w)) fun g hg=>(h.lt g hg).2
def PV(K1:Nat→Prop)(w:World)(K:Nat→Prop)(cs:List Value)(l:List Nod):Prop:=∃A c,cs=[.slice A l.length c]∧SlR 4 (sj K1) w K (.slice A l.length c) l
theorem SlR.kept{α:Type}{size:Nat}{R:World→(Nat→Prop)→List Value→α→Prop}{w w':World}{K:Nat→Prop}{v:Value}{l:List α}(hR:∀cs x,R w K cs x→R w' K cs x)(h:SlR size R w K v l)(ha:Agree K w w'):SlR size R w' K v l:=by
 obtain⟨A,c,xs,h1,h2,h3,h4,h5⟩:=h;refine⟨A,c,xs,h1,h2,h3,fun i cs x e1 e2=>⟨(h4 i cs x e1 e2).1,hR _ _ (h4 i cs x e1 e2).2⟩,fun h0=> ?_⟩;obtain⟨b,off,e1,e2,e3⟩:=h5 h0;exact⟨b,off,e1,e2,fun i j cs u g1 g2=>(ha.cell (p:=⟨b,off+i*size+j,none⟩) e2).trans (e3 i j cs u g1 g2)⟩
theorem BH{K1:Nat→Prop}{w w':World}(ha:Agree K1 w w'){K:Nat→Prop}{cs:List Value}{x:Nod}(h:sj K1 w K cs x):sj K1 w' K cs x:=fE.aO _ _ _ _ _ _ h ha fun _ h=>h
def fM(rows:List (List Nod))(k:Nat):List Nod:=(rows.take k).flatten
theorem Er{rows:List (List Nod)}{k:Nat}(h:k<rows.length):fM rows (k+1)=fM rows k++rows[k]:=by unfold fM;rw[List.take_succ_eq_append_getElem h,List.flatten_append,List.flatten_cons,List.flatten_nil,List.append_nil]
theorem Kt(rows:List (List Nod))(k:Nat):(fM rows k).length≤rows.flatten.length:=by
 unfold fM
 conv=>rhs;rw[←List.take_append_drop k rows,List.flatten_append,List.length_append]
 omega
theorem Es{K1:Nat→Prop}{w:World}{K:Nat→Prop}{A:Option Addr}{n c:Nat}{rows:List (List Nod)}(h:SlR 1 (PV K1) w K (.slice A n c) rows){i:Nat}(hi:i<rows.length):∃b off Ay cy,A=some ⟨b,off,none⟩∧K b∧w.cell? ⟨b,off+i,none⟩=some (.slice Ay rows[i].length cy)∧SlR 4 (sj K1) w K (.slice Ay rows[i].length cy) rows[i]:=by
 obtain⟨b,off,cs,hA,hK,-,⟨Ay,cy,rfl,hy⟩,hc⟩:=SlR.at_ h hi;have h0:=hc 0 _ rfl;rw[Nat.mul_one]at h0;exact⟨b,off,Ay,cy,hA,hK,h0,hy⟩
set_option maxRecDepth 100000 in
theorem Da(K1:Nat→Prop)(A:Option Addr)(c:Nat)(rows:List (List Nod))(w:World)(hK1:∀b,K1 b→b<w.heap.size)(h:SlR 1 (PV K1) w (Old w) (.slice A rows.length c) rows)(hrl:rows.length≤1000)(hn:rows.flatten.length≤200000000):
 Calls Tryz.prog 132 #[.slice A rows.length c] w fun e w'=>∃v,e= .returned v∧aG 4 (sj K1) w' (fun b=>b<w.heap.size) w.heap.size 125 v rows.flatten∧Below w.heap.size w w':=by
 obtain⟨ino,xP,nZ,og,mD⟩:=info_parts tT;have hrow:=hide (fun W (hb:Below w.heap.size w W)=>(SlR.kept (K:=fun b=>b<w.heap.size) (fun cs x hx=>by
  obtain⟨A,c,e,hs⟩:=hx;exact⟨A,c,e,SlR.kept (fun cs x hx=>BH (Agree.below hb hK1) hx) hs (Agree.below hb fun b h=>h)⟩) h (Agree.below hb fun b h=>h):SlR 1 (PV K1) W (fun b=>b<w.heap.size) (.slice A rows.length c) rows))
 have hst:=hide (fun k (hk:k<rows.length)=>Er hk);have hfl:=hide (Kt rows);have hall:Hid (fM rows rows.length=rows.flatten):=hide (by unfold fM;rw[List.take_length]);have h0:Hid (fM rows 0=[]):=hide rfl;obtain⟨F,hF⟩:∃F,rows.flatten=F:=⟨_,rfl⟩;rw[hF]at hn hfl hall⊢;clear h hF;go_enter Tryz.func132,Tryz.ntmps132;go_wp2_with fail;go_loopw [3,5,11] (fun s3 _ s11 wr=>wr=w∧∃k:Nat,k≤rows.length∧s11= .int .i64 (k:Int)∧s3= .int .i64 ((fM rows k).length:Int)) (fun _ _ s11 _=>rows.length-(intOf s11).toNat);case atStart=>exact⟨rfl,0,by omega,by go_num,by rw[h0.out];rfl⟩
 case round=>
  obtain⟨hw,k,hk,rfl,rfl⟩:=hrel;obtain rfl:w=wr:=hw.symm;have hk0:(0:Int)≤(k:Int):=Int.natCast_nonneg _;by_cases hlt:k<rows.length
  ·have hk1:(k:Int)<(rows.length:Int):=(by omega);obtain⟨b,off,Ay,cy,rfl,-,d0,-⟩:=Es (hrow.out _ (Below.refl _ _)) hlt;have hs:=hst.out k hlt;have hs2:(fM rows (k+1)).length=(fM rows k).length+rows[k].length:=(by rw[hs,List.length_append]);have hle:=hfl.out (k+1);generalize hq:(fM rows k).length=q at*;generalize rows[k]=x at*;generalize hq2:(fM rows (k+1)).length=q2 at*;obtain⟨xl,hxl⟩:∃xl,x.length=xl:=⟨_,rfl⟩;rw[hxl]at d0 hs2;replace hs2:=hide hs2;replace hq:=hide hq;replace hq2:=hide hq2;replace hxl:=hide hxl;have g1:decide ((q:Int)+(xl:Int)<0)=false:=decide_eq_false (by omega);have g4:(q:Int)+(xl:Int)≤200000000:=(by have:=hs2.out;omega);clear hs;go_wp2_with fail;go_roundw;case rel=>exact⟨by trivial,k+1,by omega,by go_num,by rw[hq2.out,hs2.out];go_num⟩
   case measure=>simp[intOf];omega
  ·obtain rfl:k=rows.length:=(by omega);rw[hall.out];have hgr:=hide (Gx F.length hn w);go_wp2_with fail;refine hgr.out.mono ?_;rintro e w1 ⟨v,rfl,hO,hb⟩;have hO1:aG 4 (sj K1) w1 (fun b=>b<w.heap.size) w.heap.size 125 v []:=⟨[],by simpa using hO,rfl,fun i cs x e=>by simp at e⟩;clear hgr hO;go_wp2_with fail;go_loopw [6,8,27] (fun s6 _ s27 wr=>∃k:Nat,k≤rows.length∧s27= .int .i64 (k:Int)∧aG 4 (sj K1) wr (fun b=>b<w.heap.size) w.heap.size 125 s6 (fM rows k)∧Below w.heap.size w wr) (fun _ _ s27 _=>rows.length-(intOf s27).toNat);case atStart=>exact⟨0,by omega,by go_num,by rw[h0.out];exact hO1,hb⟩
   case round=>
    clear hb hO1;obtain⟨Wo,rfl⟩:∃Wo,Wo=wr:=⟨_,rfl⟩;obtain⟨k,hk,rfl,hO,hb⟩:=hrel;have hk0:(0:Int)≤(k:Int):=Int.natCast_nonneg _;by_cases hlt:k<rows.length
    ·have hk1:(k:Int)<(rows.length:Int):=(by omega);obtain⟨b,off,Ay,cy,rfl,-,d0,hS⟩:=Es (hrow.out _ hb) hlt;have hs:=hide (hst.out k hlt);have hle:=hfl.out (k+1);have hl2:(fM rows k).length+rows[k].length≤200000000:=(by rw[hs.out,List.length_append]at hle;omega);obtain⟨Av,cv,rfl⟩:=aG.form hO;have hsz:=hb.size;have hat:∀g,(Value.slice Av (fM rows k).length cv).ownBlock=some g→w.heap.size≤g:=fun g hg=>(aG.lt hO g hg).1;clear hle;generalize rows[k]=x at*;generalize fM rows k=M at*;replace hO:=hide hO;go_wp2_with (at_builtin;go_loud (refine aX (R:=sj K1) rfl (.tmp 31) (.tmp 32) 34 rfl w.heap.size 125 ino _ 4 48 Tryz.underlying34 xP nZ og mD rfl (by decide) (.slice Av M.length cv) (fun b=>b<w.heap.size) M rfl hO.out (.slice Ay x.length cy) x rfl hS (fun cs x h=>qF _ _ _ _ h) (by unfold maxLen;omega) (by omega) hsz (fun w' hg cs x hx=>BH (Agree.grown hg (fun b hb=>⟨by have:=hK1 b hb;omega,fun e=>by have:=hat b e.symm;have:=hK1 b hb;omega⟩)) hx) ?_);intro v1 w6 hown1 hg1 nI);have hb6:=hb.grown hg1 hsz (fun g hg=>hat g hg);go_wp2;go_roundw;case rel=>exact⟨k+1,by omega,by go_num,by rw[hs.out];exact hown1,hb6⟩
     case measure=>simp[intOf];omega
    ·obtain rfl:k=rows.length:=(by omega);rw[hall.out]at hO;go_wp2;go_ret;exact⟨_,rfl,hO,hb⟩
end Go.Proofs.YtfhnamomiaekdaaGreatDoor
namespace Go.Proofs.YtfhnamomiaekdaaGreatDoor
open Go.RowKit Go.Inq
end Go.Proofs.YtfhnamomiaekdaaGreatDoor
namespace Go.Inq
theorem Ng{l l':List Cho}(h:∀c∈l,c∈l'){x y:Nat}(he:wwE l x y=true):wwE l' x y=true:=by
 unfold wwE at he⊢;rw[List.any_eq_true]at he⊢;obtain⟨c,hc,h2⟩:=he;exact⟨c,h c hc,h2⟩
theorem Et{H:List Txn}{l l':List Cho}(h:∀c∈l,c∈l'){x y:Nat}(he:rwE H l x y=true):rwE H l' x y=true:=by
 unfold rwE at he⊢;rw[Bool.or_eq_true]at he⊢;rcases he with he|he
 ·exact .inl he
 ·rw[List.any_eq_true]at he⊢;obtain⟨c,hc,h2⟩:=he;exact .inr ⟨c,h c hc,h2⟩
theorem su{H:List Txn}{level:Int}{l l':List Cho}(h:∀c∈l,c∈l'){x y:Nat}(he:bI H level l x y=true):bI H level l' x y=true:=by
 have hd:∀a b,orE (bE H) (wwE l) a b=true→orE (bE H) (wwE l') a b=true:=fun a b g=>by
  unfold orE at g⊢;rw[Bool.or_eq_true]at g⊢;exact g.imp id (Ng h)
 show(orE (bE H) (wwE l') x y||(if level=1 then iT H.length (orE (bE H) (wwE l')) (rwE H l')else rwE H l') x y)=true;have he':(orE (bE H) (wwE l) x y||(if level=1 then iT H.length (orE (bE H) (wwE l)) (rwE H l)else rwE H l) x y)=true:=he;rw[Bool.or_eq_true]at he'⊢;rcases he' with g|g
 ·exact .inl (hd x y g)
 ·right;by_cases hl:level=1
  ·rw[if_pos hl]at g⊢;unfold iT at g⊢;rw[List.any_eq_true]at g⊢;obtain⟨b,hb,h2⟩:=g;rw[Bool.and_eq_true]at h2;exact⟨b,hb,by rw[hd x b h2.1,Et h h2.2];rfl⟩
  ·rw[if_neg hl]at g⊢;exact Et h g
theorem BI{E F:aj}(h:∀x y,E x y=true→F x y=true):∀(l:List Nat) (x y:Nat),iF E x l y=true→iF F x l y=true
 |[],x,y,hw=>h x y hw
 |a::l,x,y,hw=>by
  have hw':(E x a&&iF E a l y)=true:=hw;rw[Bool.and_eq_true]at hw';show(F x a&&iF F a l y)=true;rw[h x a hw'.1,BI h l a y hw'.2];rfl
theorem Eu{n:Nat}{E F:aj}(h:∀x y,E x y=true→F x y=true)(hc:gu n E=true):gu n F=true:=by
 unfold gu at hc⊢;rw[List.any_eq_true]at hc⊢;obtain⟨x,hx,h2⟩:=hc;obtain⟨l,hl,hw⟩:=fQ n x x h2;exact⟨x,hx,jW n l.length l x x (Nat.le_refl _) hl (BI h l x x hw)⟩
def tY(H:List Txn)(level:Int)(l:List Cho):Bool:= !gu H.length (bI H level l)
theorem BJ{H:List Txn}{level:Int}{l l':List Cho}(h:∀c∈l,c∈l')(hg:tY H level l'=true):tY H level l=true:=by
 unfold tY at hg⊢;rw[Bool.not_eq_true']at hg⊢;rw[←Bool.not_eq_true]at hg⊢;exact fun hc=>hg (Eu (fun x y=>su h) hc)
theorem Gy(H:List Txn)(level:Int)(l:List Cho):(fH H.length (bI H level l)).isSome=tY H level l:=yI _ _
end Go.Inq
namespace Go.Proofs.YtfhnamomiaekdaaGreatDoor
open Go.RowKit Go.Inq
def Gz:List Cho→List Cho→Prop
 |[],[]=>True
 |p::P,c::C=>(c=p∨c=aQ p)∧Gz P C
 |_,_=>False
theorem Ew{f:Cho→Cho}:∀{P:List Cho},(∀p∈P,f p=p∨f p=aQ p)→Gz P (P.map f)
 |[],_=>trivial
 |p::P,h=>⟨h p (by simp),Ew fun q hq=>h q (by simp[hq])⟩
theorem tZ:∀{P C:List Cho},Gz P C→∀p∈P,p∈C∨aQ p∈C
 |[],[],_,c,hc=>by cases hc
 |[],_::_,h,_,_=>h.elim
 |_::_,[],h,_,_=>h.elim
 |p::P,d::C,h,c,hc=>by
  rw[List.mem_cons]at hc;rcases hc with rfl|hc
  ·rcases h.1 with e|e
   ·exact .inl (by rw[←e];simp)
   ·exact .inr (by rw[←e];simp)
  ·rcases tZ h.2 c hc with e|e
   ·exact .inl (by simp[e])
   ·exact .inr (by simp[e])
def Nh(H:List Txn)(level:Int):List Cho→List Cho→Bool
 |[],l=>tY H level l
 |c::P,l=>Nh H level P (l++[c])||Nh H level P (l++[aQ c])
def hasB(H:List Txn)(level:Int):Bool:=Nh H level (bB H) []
set_option maxHeartbeats 1000000
theorem GA{m:List Cho}{c:Cho}{a b:Nat}(h:c∈m)(ha:c.a=a)(hb:c.b=b):wwE m a b=true:=by
 unfold wwE;rw[List.any_eq_true];exact⟨c,h,by rw[ha,hb];simp⟩
theorem pJ{H:List Txn}{level:Int}{m:List Cho}{a b:Nat}(h:orE (bE H) (wwE m) a b=true):bI H level m a b=true:=by
 unfold bI;show(orE (bE H) (wwE m) a b||_)=true;rw[h];rfl
theorem Js{H:List Txn}{a b:Int}(h:bA H [] a b=true):∃x y:Nat,a=x∧b=y∧x<H.length∧y<H.length∧bE H x y=true:=by
 unfold bA at h;rw[Bool.and_eq_true,iJ]at h;obtain⟨⟨hr,x,y,rfl,rfl,hx,hy⟩,hd⟩:=h;refine⟨x,y,rfl,rfl,hx,hy,?_⟩;rw[Int.toNat_natCast,Int.toNat_natCast,mq hr (by simp) hy]at hd;unfold orE at hd;simpa[wwE]using hd
theorem PW{H:List Txn}{level:Int}{L:List Fct}{f:Fct}{m:List Cho}(hL:∀c∈av L,dn H c=true∧c∈m)(hin:aQ f.c∈m)(h:dU H level L f=true):gu H.length (bI H level m)=true:=by
 have hone:=Go.Inq.holds_one h;obtain⟨hr,xL⟩:=fT.1 (J8 h);obtain⟨a,b,ha,hb,hab,han,hbn,hwa,hwb⟩:=jh.1 hone;have hback:bI H level m b a=true:=pJ (by unfold orE;rw[GA hin (show(aQ f.c).a=b from hb) (show(aQ f.c).b=a from ha)];simp);unfold dU rR at h;rw[Bool.and_eq_true]at h;have h:=h.2;split at h
 ·unfold axB at h;rw[Bool.and_eq_true]at h;obtain⟨x,y,e1,e2,-,-,hp⟩:=Js h.2;obtain rfl:x=a:=(by omega);obtain rfl:y=b:=(by omega);exact Jl han hbn (pJ (by unfold orE;rw[hp];rfl)) hback
 ·split at h
  ·unfold DV at h;simp only[Bool.and_eq_true]at h;obtain⟨-,h⟩:=h;split at h
   ·rename_i x y hx hy;simp only[Bool.and_eq_true,decide_eq_true_eq]at h;obtain⟨⟨h1,h2⟩,h3⟩:=h;have hxL:x.c∈av L:=(by unfold av;exact List.mem_map_of_mem (List.mem_of_getElem? hx));have hyL:y.c∈av L:=(by unfold av;exact List.mem_map_of_mem (List.mem_of_getElem? hy));have hxm:=(hL _ hxL).2;have hym:=(hL _ hyL).2;obtain⟨p,q,hp,hq,-,hpn,hqn,-,-⟩:=jh.1 (hL _ hxL).1;rw[h3]at ha hb;dsimp only at ha hb;obtain rfl:p=a:=(by omega);have e1:bI H level m p q=true:=pJ (by unfold orE;rw[GA hxm hp hq];simp);have e2:bI H level m q b=true:=pJ (by unfold orE;rw[GA hym (show y.c.a=q by omega) hb];simp);exact J4 hpn hqn hbn e1 e2 hback
   ·cases h
  ·split at h
   ·unfold Bj at h;simp only[Bool.and_eq_true,decide_eq_true_eq]at h;obtain⟨⟨⟨⟨⟨-,h1⟩,h2⟩,h3⟩,h4⟩,h5⟩:=h;obtain⟨x,y,e1,e2,-,hyn,hp⟩:=Js h5;obtain rfl:x=a:=(by omega);rw[e2]at h1 h4;rw[Int.toNat_natCast]at h4;have hyx:y≠x:=fun e=>h1 (by rw[e,ha]);have hrw:rwE H m y x=true:=by
     unfold rwE;rw[Bool.or_eq_true];right;rw[List.any_eq_true];refine⟨_,hin,?_⟩;rw[show(aQ f.c).b=f.c.a from rfl,show(aQ f.c).a=f.c.b from rfl,show(aQ f.c).key=f.c.key from rfl,decide_eq_true ha,decide_eq_true hyx,h4];rfl
    have hpd:orE (bE H) (wwE m) x y=true:=(by unfold orE;rw[hp];rfl);rcases xL with rfl|rfl
    ·have e3:bI H 0 m y x=true:=by
      show(orE (bE H) (wwE m) y x||rwE H m y x)=true;rw[hrw];simp
     exact Jl han hyn (pJ hpd) e3
    ·have e3:bI H 1 m x x=true:=by
      show(orE (bE H) (wwE m) x x||iT H.length (orE (bE H) (wwE m)) (rwE H m) x x)=true;have:iT H.length (orE (bE H) (wwE m)) (rwE H m) x x=true:=by
       unfold iT;rw[List.any_eq_true];exact⟨y,List.mem_range.2 hyn,by rw[hpd,hrw];rfl⟩
      rw[this];simp
     exact PO han e3
   ·split at h
    ·unfold DW at h;rw[Bool.and_eq_true]at h;have ho:∀c∈av L++[aQ f.c],dn H c=true:=fun c hc=>by
      rw[List.mem_append,List.mem_singleton]at hc;rcases hc with hc|rfl
      ·exact(hL c hc).1
      ·exact tF hone
     have hc:=MU ho h.2;have hsub:∀c∈av L++[aQ f.c],c∈m:=fun c hc=>by
      rw[List.mem_append,List.mem_singleton]at hc;rcases hc with hc|rfl
      ·exact(hL c hc).2
      ·exact hin
     exact Eu (fun x y=>su hsub) hc
    ·cases h
theorem Ni{H:List Txn}{level:Int}{l:List Cho}{path:List Mk}{m:Mk}(h:iA H level l path m=true):dn H m.c=true:=by
 unfold iA at h;rw[Bool.and_eq_true,Bool.and_eq_true]at h;exact h.1.2
theorem GD{H:List Txn}{m:Mk}(h:dn H m.c=true):dn H m.chosen=true:=by
 unfold Mk.chosen;split
 ·exact tF h
 ·exact h
theorem Nj{H:List Txn}{level:Int}{l:List Cho}{path:List Mk}(h:jR H level l path path.length=true):∀c∈aW path,dn H c=true:=fun c hc=>by
 unfold aW at hc;obtain⟨m,hm,rfl⟩:=List.mem_map.1 hc;obtain⟨i,hi,rfl⟩:=List.getElem_of_mem hm;exact GD (Ni (iB.1 h i hi))
structure RiP(H:List Txn)(level:Int)(L:List Fct)(path:List Mk):Prop where
 len:L.length+path.length<20000
 xQ:d9 H level L=true
 marks:jR H level (av L) path path.length=true
theorem eP{H:List Txn}{level:Int}{L:List Fct}{path:List Mk}:eO H level L path=true↔RiP H level L path:=by
 unfold eO;rw[Bool.and_eq_true,Bool.and_eq_true,decide_eq_true_eq];exact⟨fun h=>⟨h.1.1,h.1.2,h.2⟩,fun h=>⟨⟨h.len,h.xQ⟩,h.marks⟩⟩
section
variable{H:List Txn}{level:Int}{L:List Fct}{path:List Mk}
theorem RiP.one(h:RiP H level L path):∀c∈av L++aW path,dn H c=true:=fun c hc=>by
 rw[List.mem_append]at hc;exact hc.elim (yL h.xQ c) (Nj h.marks c)
theorem RiP.snoc{m:Mk}(h:RiP H level L path)(hl:L.length+path.length+1<20000)(hm:iA H level (av L) path m=true):RiP H level L (path++[m]):=
 ⟨by rw[List.length_append,List.length_singleton];omega,h.xQ,by rw[yY,h.marks,hm];rfl⟩
theorem GH{l:List Cho}{p:Cho}(h1:p∉l++aW path)(h2:aQ p∉l++aW path):iW path p=false:=by
 unfold iW;rw[List.any_eq_false];intro m hm;have hch:m.chosen∈aW path:=(by unfold aW;exact List.mem_map_of_mem hm);have hb:m.chosen=m.c∨m.chosen=aQ m.c:=(by unfold Mk.chosen;split<;>simp);have g1:p≠m.chosen:=fun e=>h1 (by rw[e];exact List.mem_append_right _ hch);have g2:aQ p≠m.chosen:=fun e=>h2 (by rw[e];exact List.mem_append_right _ hch);rw[Bool.or_eq_true,decide_eq_true_eq,decide_eq_true_eq];rintro(e|e)
 ·subst e;rcases hb with hb|hb
  ·exact g1 hb.symm
  ·exact g2 hb.symm
 ·have e2:aQ p=m.c:=(by rw[e];rfl);rcases hb with hb|hb
  ·exact g2 (by rw[e2,hb])
  ·exact g1 (by rw[e,hb])
end
def PX(H:List Txn)(level:Int)(L:List Fct):Nat→List Mk→List Mk×Say
 |0,path=>(path,nY)
 |n+1,path=>if(dJ H level L path).2.said=0 then PX H level L n (dJ H level L path).1 else dJ H level L path
theorem vD(p:List Mk):bY p.reverse=bY p:=by
 unfold bY;rw[List.map_reverse,List.sum_reverse]
theorem nJ(m:Mk)(p:List Mk):bY (m::p)=1+m.done.length+bY p:=by unfold bY;simp
theorem Ku{H:List Txn}{level:Int}{L:List Fct}:∀(r:List Mk) (tree:List Nod),kW tree→(∀m∈r,kW m.done)→
 bY (eD H level L r tree).1≤bY r+tree.length∧∀m∈(eD H level L r tree).1,kW m.done:=by
 intro r
 induction r with
 |nil=>intro tree _ _;exact⟨by simp[eD,bY],fun m hm=>by simp[eD]at hm⟩
 |cons m r ih=>
  intro tree ht hr;unfold eD;split
  ·obtain⟨h1,h2⟩:=ih (⟨m.c,[]⟩::(m.done++tree)) (fun n hn=>by
    rw[List.mem_cons,List.mem_append]at hn;rcases hn with rfl|hn|hn
    ·simp
    ·exact hr m (by simp) n hn
    ·exact ht n hn) fun m' hm'=>hr m' (by simp[hm'])
   refine⟨?_,h2⟩;rw[nJ];simp only[List.length_cons,List.length_append]at h1;omega
  ·refine⟨?_,fun m' hm'=> ?_⟩
   ·dsimp only;rw[vD,nJ,nJ];dsimp only;omega
   ·dsimp only at hm';rw[List.mem_reverse,List.mem_cons]at hm';rcases hm' with rfl|hm'
    ·exact ht
    ·exact hr m' (by simp[hm'])
theorem qH{H:List Txn}(hr:ay H=true)(level:Int)(row:List Cho):(dI H level row).length≤1000000:=by
 have hn:=((aB H).1 hr).1;unfold dI;rw[List.length_map];exact Nat.le_trans Bt (by omega)
theorem BK{H:List Txn}{level:Int}{L:List Fct}{path:List Mk}(h:∀m∈path,kW m.done):
 bY (dJ H level L path).1≤bY path+1∧∀m∈(dJ H level L path).1,kW m.done:=by
 unfold dJ;split
 ·rename_i hg;have hr:ay H=true:=(fT.1 (dF (eP.1 hg).xQ)).1;dsimp only;split
  ·obtain⟨h1,h2⟩:=Ku (H:=H) (level:=level) (L:=L) path.reverse [⟨dw,dI H level (av L++aW path)⟩] (fun n hn=>by
    rw[List.mem_singleton]at hn;subst hn;exact qH hr _ _) fun m hm=>h m (List.mem_reverse.1 hm)
   rw[vD]at h1;exact⟨h1,h2⟩
  ·split
   ·exact⟨by dsimp only;omega,h⟩
   ·refine⟨by dsimp only;rw[r9];simp,fun m hm=> ?_⟩;dsimp only at hm;rw[List.mem_append,List.mem_singleton]at hm;rcases hm with hm|rfl
    ·exact h m hm
    ·intro n hn;simp at hn
 ·exact⟨by dsimp only;omega,h⟩
structure Nk(H:List Txn)(level:Int)(L:List Fct)(N k:Nat)(path:List Mk)(F:List Mk×Say):Prop where
 le:k≤N
 size:bY path≤k
 cyc:∀m∈path,kW m.done
 fin:F=PX H level L (N-k) path
theorem Nk.start{H:List Txn}{level:Int}{L:List Fct}{N:Nat}:Nk H level L N 0 [] (PX H level L N []):=⟨Nat.zero_le _,by simp[bY],fun m hm=>by simp at hm,rfl⟩
theorem Nk.step{H:List Txn}{level:Int}{L:List Fct}{N k:Nat}{path:List Mk}{F:List Mk×Say}(h:Nk H level L N k path F)(hk:k<N){r:List Mk×Say}(hr:dJ H level L path=r):
 (r.2.said=0→Nk H level L N (k+1) r.1 F)∧(r.2.said≠0→F=r):=by
 obtain⟨h1,h2⟩:=BK (H:=H) (level:=level) (L:=L) h.cyc;rw[hr]at h1 h2;have hf:=h.fin;rw[show N-k=(N-(k+1))+1 by omega]at hf;unfold PX at hf;rw[hr]at hf;have hs:=h.size;refine⟨fun g=>⟨hk,by omega,h2,?_⟩,fun g=> ?_⟩
 ·rw[if_pos g]at hf;exact hf
 ·rw[if_neg g]at hf;exact hf
end Go.Proofs.YtfhnamomiaekdaaGreatDoor
namespace Go.Proofs.YtfhnamomiaekdaaGreatDoor
open Go Go.RowKit Go.Inq
set_option maxHeartbeats 4000000
def iX(w:World)(base:Nat)(v:Value)(l:List Nod):Prop:=bJ w (TyK base [125,3] w) v l
section
variable{w w':World}{base:Nat}{v:Value}{l:List Nod}
theorem iX.ty{n0:Nat}{σ:List TypeId}(h:iX w base v l)(hT:TyW n0 σ w w')(h1:125∉σ)(h2:3∉σ):iX w' base v l:=by
 have hA:Agree (TyK base [125,3] w) w w':=hT.agree fun t ht hs=>by
  simp only[List.mem_cons,List.not_mem_nil,or_false]at ht;rcases ht with rfl|rfl
  ·exact h1 hs
  ·exact h2 hs
 exact bJ.keep h hA fun _ g=>TyK.step hA g
theorem iX.below(h:iX w base v l)(hb:Below w.heap.size w w'):iX w' base v l:=h.ty (TyW.calm (σ:=[]) (n0:=0) hb (Nat.zero_le _)) (by simp) (by simp)
theorem iX.s(h:iX w base v l):bJ w (Old w) v l:=bJ.fit h fun _ g=>g.lt
theorem iX.form(h:iX w base v l):∃A c,v= .slice A l.length c:=by
 obtain⟨A,c,_,e,_⟩:=h;exact⟨A,c,e⟩
theorem bX.p(h:bX w base v l):iX w base v l:=bX.slK h
theorem iX.k{K':Nat→Prop}(h:iX w base v l)(hk:∀b,TyK base [125,3] w b→K' b):SlR 4 (sj (TyK base [125,3] w)) w K' v l:=by
 obtain⟨A,c,xs,h1,h2,h3,h4,h5⟩:=h;refine⟨A,c,xs,h1,h2,h3,h4,fun h0=> ?_⟩;obtain⟨b,off,e1,e2,e3⟩:=h5 h0;exact⟨b,off,e1,hk b e2,e3⟩
theorem iX.Uv{B:Nat}{K:Nat→Prop}(h:aG 4 (sj (TyK base [125,3] w)) w' K B 125 v l)(hb:Below w.heap.size w w')(hB:base≤B):iX w' base v l:=by
 have hA:=TyK.below (base:=base) (τs:=[125,3]) hb (Nat.le_refl _);have h2:aG 4 fE w' (TyK base [125,3] w') B 125 v l:=by
  obtain⟨ys,e1,e2,e3⟩:=h;refine⟨ys,e1,e2,fun i cs x g1 g2=>⟨(e3 i cs x g1 g2).1,?_⟩⟩;have:fE w' (TyK base [125,3] w) cs x:=(e3 i cs x g1 g2).2;exact fE.aO _ _ _ _ _ _ this (Agree.refl _ _) fun _ g=>TyK.step hA g
 refine h2.sl fun g hg=> ?_;obtain⟨cs,h3⟩:=h2.blk hg;exact⟨Nat.le_trans hB (h2.lt g hg).1,_,by simp,cs,h3⟩
theorem MkO.take{A:Option Addr}{n c k:Nat}{l:List Mk}(h:MkO w base (.slice A n c) l)(hk:k≤l.length):MkO w base (.slice A k c) (l.take k):=by
 obtain⟨ys,⟨h1,h2⟩,h3,h4⟩:=h;have hall:∀y∈ys,y.length=5:=fun y hy=>by
  obtain⟨i,hi,rfl⟩:=List.getElem_of_mem hy;exact(h4 i ys[i] (l[i]'(by omega)) (List.getElem?_eq_getElem hi) (List.getElem?_eq_getElem (by omega))).1
 have iC:∀y∈ys.take k,y.length=5:=fun y hy=>hall y (List.mem_of_mem_take hy);have hft:(ys.take k).flatten=ys.flatten.take (k*5):=by
  conv=>rhs;rw[←List.take_append_drop k ys,List.flatten_append]
  have e:=pI 5 (ys.take k) iC;rw[List.length_take,Nat.min_eq_left (by omega)]at e;rw[List.take_left' e]
 have hlk:(l.take k).length=k:=(by rw[List.length_take];omega);refine⟨ys.take k,⟨?_,?_⟩,by rw[List.length_take,List.length_take,h3],fun i cs x e1 e2=> ?_⟩
 ·rw[pI 5 _ iC,hlk,List.length_take];congr 1;omega
 ·rw[hlk];rcases h2 with⟨e,h5⟩|⟨g,cap,cur,hv,hg,hh,h6,h7,h8,h9⟩
  ·injection e with e1 e2 e3
   subst e1 e3;left;have hl0:l.length=0:=h5;obtain rfl:k=0:=(by omega);exact⟨rfl,rfl⟩
  ·right;simp only[Value.slice.injEq]at hv;obtain⟨rfl,rfl,rfl⟩:=hv;refine⟨g,c,cur,rfl,hg,hh,by omega,h7,h8,?_⟩;rw[hft,←h9,List.take_take,Nat.min_eq_left (by omega)]
 ·rw[List.getElem?_take]at e1 e2;split at e1
  ·rename_i hik;rw[if_pos hik]at e2;exact h4 i cs x e1 e2
  ·cases e1
theorem MkO.at_{A:Option Addr}{n c k:Nat}{l:List Mk}(h:MkO w base (.slice A n c) l)(hk:k<l.length):
 ∃g Ay cy,A=some ⟨g,0,none⟩∧base≤g∧iX w base (.slice Ay l[k].done.length cy) l[k].done∧(∃cs,Blk w g 129 cs)∧
  w.cell? ⟨g,k*5,none⟩=some (.int .i64 l[k].c.key)∧w.cell? ⟨g,k*5+1,none⟩=some (.int .i64 l[k].c.a)∧w.cell? ⟨g,k*5+2,none⟩=some (.int .i64 l[k].c.b)∧w.cell? ⟨g,k*5+3,none⟩=some (.bool l[k].right)∧w.cell? ⟨g,k*5+4,none⟩=some (.slice Ay l[k].done.length cy)∧
  ∀q At ct tree,iX w base (.slice At (List.length tree) ct) tree→MkO ((w.setCell ⟨g,k*5+3,none⟩ (.bool q)).setCell ⟨g,k*5+4,none⟩ (.slice At tree.length ct)) base (.slice A n c) (l.set k ⟨l[k].c,q,tree⟩):=by
 obtain⟨ys,h1,h2,h3⟩:=h;have hky:k<ys.length:=(by omega);obtain⟨g1,Ay,cy,hcs,hS⟩:=h3 k ys[k] l[k] (List.getElem?_eq_getElem hky) (List.getElem?_eq_getElem hk);have hall:∀y∈ys,y.length=5:=fun y hy=>by
  obtain⟨i,hi,rfl⟩:=List.getElem_of_mem hy;exact(h3 i ys[i] (l[i]'(by omega)) (List.getElem?_eq_getElem hi) (List.getElem?_eq_getElem (by omega))).1
 have hfl:=pI 5 ys hall;obtain⟨g,rfl,hg,⟨cs,hb,-⟩,hset⟩:=tV h1 (j:=k*5+3) (by omega);have hcell:∀j,j<5→w.cell? ⟨g,k*5+j,none⟩=ys[k][j]?:=fun j hj=>by
  obtain⟨g',e,-,⟨cs',hb',hc'⟩,-⟩:=tV h1 (j:=k*5+j) (by omega);injection e with e
  injection e with e1 e2
  subst e1;rw[hb'.cell,hc',List.getElem?_eq_getElem (by omega)];rw[←C9 5 ys k j hall hky hj,List.getElem?_eq_getElem (by omega)]
 rw[hcs]at hcell;have e0:=hcell 0 (by omega);have e1:=hcell 1 (by omega);have e2:=hcell 2 (by omega);have e3:=hcell 3 (by omega);have e4:=hcell 4 (by omega);refine⟨g,Ay,cy,rfl,hg,hS,⟨cs,hb⟩,e0,e1,e2,e3,e4,fun q At ct tree hO=> ?_⟩;obtain⟨g',e,-,-,Tc⟩:=tV (hset (.bool q)) (j:=k*5+4) (by rw[List.length_set];omega);injection e with e
 injection e with e5 e6
 subst e5;have hA1:Agree (TyK base [125,3] w) w (w.setCell ⟨g,k*5+3,none⟩ (.bool q)):=TyK.aM hb (by decide) _;have hA2:Agree (TyK base [125,3] w) w ((w.setCell ⟨g,k*5+3,none⟩ (.bool q)).setCell ⟨g,k*5+4,none⟩ (.slice At tree.length ct)):=TyK.trans hA1 (TyK.aM (hb.aM (k*5+3) (.bool q)) (by decide) _);have hys:(ys.flatten.set (k*5+3) (.bool q)).set (k*5+4) (.slice At tree.length ct)=(ys.set k ((ys[k].set 3 (.bool q)).set 4 (.slice At tree.length ct))).flatten:=by
  have iC:∀y∈ys.set k (ys[k].set 3 (.bool q)),y.length=5:=fun y hy=>by
   rcases List.mem_or_eq_of_mem_set hy with hy|rfl
   ·exact hall y hy
   ·rw[List.length_set];exact g1
  rw[tX 5 ys k 3 _ hall hky (by omega),tX 5 _ k 4 _ iC (by rw[List.length_set];exact hky) (by omega)];rw[List.getElem_set_self,List.set_set]
 refine⟨ys.set k ((ys[k].set 3 (.bool q)).set 4 (.slice At tree.length ct)),by rw[List.length_set,←hys];exact Tc _,by rw[List.length_set,List.length_set];exact h2,fun i cs x f1 f2=> ?_⟩;by_cases hik:i=k
 ·subst hik;rw[List.getElem?_set_self hky]at f1;rw[List.getElem?_set_self hk]at f2;injection f1 with f1
  injection f2 with f2
  subst f1 f2;refine⟨by rw[List.length_set,List.length_set];exact g1,?_⟩;rw[hcs];exact⟨At,ct,rfl,bJ.keep hO hA2 fun _ g=>TyK.step hA2 g⟩
 ·rw[List.getElem?_set_ne (Ne.symm hik)]at f1 f2;obtain⟨q1,q2⟩:=h3 i cs x f1 f2;exact⟨q1,MkR.aO _ _ _ _ _ _ q2 hA2 fun _ g=>TyK.step hA2 g⟩
theorem take_set{α:Type}{l:List α}{k:Nat}(h:k<l.length)(x:α):(l.take (k+1)).set k x=l.take k++[x]:=by
 rw[List.take_succ_eq_append_getElem h,List.set_append,List.length_take,if_neg (by omega),Nat.min_eq_left (by omega)];simp
end
end Go.Proofs.YtfhnamomiaekdaaGreatDoor
