/-
  A row of the call's own, whose elements lead to other blocks of the call's own, grows by one element; no program in sight.
-/
import Derived.Lib.AppendZerosOnto
import Derived.Test.YtpjechjoijjhpaaGreatDoorZ02
import Derived.Test.YtpjechjoijjhpaaGreatDoorZ03
import Derived.Test.YtpjechjoijjhpaaGreatDoorZ04
import Derived.Test.YtpjechjoijjhpaaGreatDoorZ01
set_option linter.unusedVariables false
set_option linter.unusedSimpArgs false
namespace Go.Inq
open Go Go.RowKit
def TyK(base:Nat)(τs:List TypeId)(w:World):Nat→Prop:=fun b=>base≤b∧∃t,t∈τs∧∃cs,Blk w b t cs
section
variable{base:Nat}{τs:List TypeId}{w w' w1 w2:World}
theorem TyK.lt{b:Nat}(h:TyK base τs w b):b<w.heap.size:=by
 obtain⟨_,t,_,cs,h⟩:=h;exact h.lt
theorem TyK.step(ha:Agree (TyK base τs w) w w'){b:Nat}(h:TyK base τs w b):TyK base τs w' b:=by
 obtain⟨h1,t,h2,cs,h3⟩:=h;exact⟨h1,t,h2,cs,(ha b ⟨h1,t,h2,cs,h3⟩).trans h3⟩
theorem TyK.trans(ha:Agree (TyK base τs w) w w1)(hb:Agree (TyK base τs w1) w1 w2):Agree (TyK base τs w) w w2:=fun b h=>(hb b (TyK.step ha h)).trans (ha b h)
theorem TyK.below{B:Nat}(hb:Below B w w')(hB:w.heap.size≤B):Agree (TyK base τs w) w w':=Agree.below hb fun _ h=>Nat.lt_of_lt_of_le h.lt hB
theorem TyK.alloc(o:Obj):Agree (TyK base τs w) w (w.alloc o):=Agree.alloc (fun _ h=>h.lt) o
theorem TyK.off{g:Nat}{t:TypeId}{cs:Array Value}(hk:Blk w g t cs)(ht:t∉τs):¬TyK base τs w g:=fun h=>by
 obtain⟨_,t',h1,cs',h2⟩:=h;have:=hk.symm.trans h2;simp at this;exact ht (this.2▸h1)
theorem TyK.aH{g i:Nat}{t:TypeId}{cs:Array Value}(hk:Blk w g t cs)(ht:t∉τs)(u:Value):Agree (TyK base τs w) w (w.setCell ⟨g,i,none⟩ u):=
 Agree.setCell ⟨g,i,none⟩ (TyK.off hk ht) u
theorem TyK.drew:Agree (TyK base τs w) w w.drew:=Agree.drew _ _
end
section
variable{α:Type}{size:Nat}{R:World→(Nat→Prop)→List Value→α→Prop}{w w':World}{K K':Nat→Prop}{base:Nat}{e:TypeId}{v:Value}{l:List α}{τs:List TypeId}
theorem yB{n:Nat}{xs:List Value}(h:w.ownsRow base e size v n xs){g:Nat}(hg:v.ownBlock=some g):∃cs,Blk w g e cs:=by
 rcases h.2 with⟨h2,_⟩|⟨g',cap,cur,h2,_,hh,_⟩
 ·rw[h2]at hg;simp[Value.ownBlock]at hg
 ·rw[h2]at hg;simp[Value.ownBlock]at hg;subst hg;exact⟨cur,hh⟩
theorem aJ.blk(h:aJ size R w K base e v l){g:Nat}(hg:v.ownBlock=some g):∃cs,Blk w g e cs:=by
 obtain⟨ys,h1,_⟩:=h;exact yB h1 hg
theorem aJ.ne(h:aJ size R w K base e v l){g:Nat}{t:TypeId}{cs:Array Value}(hk:Blk w g t cs)(ht:t≠e):v.ownBlock≠some g:=fun hg=>by
 obtain⟨cs',h4⟩:=h.blk hg;have:=hk.symm.trans h4;simp at this;exact ht this.2
theorem aJ.JI(hR:jR R)(h:aJ size R w (TyK base τs w) base e v l)(ha:Agree (TyK base τs w) w w')(hr:∀g,v.ownBlock=some g→w'.heap[g]?=w.heap[g]?):aJ size R w' (TyK base τs w') base e v l:=
 aJ.keep hR h ha (fun _ g=>TyK.step ha g) hr
theorem aJ.GN(hR:jR R){B:Nat}(h:aJ size R w (TyK base τs w) base e v l)(hb:Below B w w')(hB:w.heap.size≤B):aJ size R w' (TyK base τs w') base e v l:=
 h.JI hR (TyK.below hb hB) fun g hg=>hb.block g (Nat.lt_of_lt_of_le (h.lt g hg).2 hB)
theorem aJ.TS(hR:jR R)(h:aJ size R w (TyK base τs w) base e v l):aJ size R w.drew (TyK base τs w.drew) base e v l:=h.JI hR TyK.drew fun _ _=>rfl
theorem aJ.TT(hR:jR R)(h:aJ size R w (TyK base τs w) base e v l){g i:Nat}{t:TypeId}{cs:Array Value}(hk:Blk w g t cs)(h1:t∉τs)(h2:t≠e)(u:Value):aJ size R (w.setCell ⟨g,i,none⟩ u) (TyK base τs (w.setCell ⟨g,i,none⟩ u)) base e v l:=
 h.JI hR (TyK.aH hk h1 u) fun k hk2=>Below.heap_setCell w ⟨g,i,none⟩ u k (fun e'=>h.ne hk h2 (by rw[hk2];exact congrArg some e'))
theorem aJ.Ny(hR:jR R)(h:aJ size R w (TyK base τs w) base e v l):SlR size R w (Old w) v l:=by
 have h2:aJ size R w (Old w) base e v l:=aJ.keep hR h (Agree.refl _ _) (fun _ g=>g.lt) fun _ _=>rfl;exact h2.sl fun g hg=>(h.lt g hg).2
theorem bO{base' n:Nat}{xs:List Value}(h:w.ownsRow base e size v n xs)(hb:base'≤base):w.ownsRow base' e size v n xs:=by
 refine⟨h.1,?_⟩;rcases h.2 with h2|⟨g,cap,cur,hv,hg,r⟩
 ·exact .inl h2
 ·exact .inr ⟨g,cap,cur,hv,by omega,r⟩
theorem aJ.Nz(hR:jR R){base':Nat}(h:aJ size R w (TyK base τs w) base e v l)(hb:base'≤base):aJ size R w (TyK base' τs w) base' e v l:=by
 obtain⟨ys,h1,h2,h3⟩:=h;exact⟨ys,bO h1 hb,h2,fun i cs x e1 e2=>⟨(h3 i cs x e1 e2).1,hR _ _ _ _ _ _ (h3 i cs x e1 e2).2 (Agree.refl _ _) fun b g=>⟨Nat.le_trans hb g.1,g.2⟩⟩⟩
theorem aJ.slT(hR:jR R)(h:aJ size R w (TyK base τs w) base e v l):SlR size R w (TyK base (e::τs) w) v l:=by
 have h2:aJ size R w (TyK base (e::τs) w) base e v l:=aJ.keep hR h (Agree.refl _ _) (fun _ g=>by
  obtain⟨g1,t,g2,g3⟩:=g;exact⟨g1,t,List.mem_cons_of_mem _ g2,g3⟩) fun _ _=>rfl
 refine h2.sl fun g hg=> ?_;obtain⟨cs,h3⟩:=h.blk hg;exact⟨(h.lt g hg).1,e,List.mem_cons_self,cs,h3⟩
end
theorem Dn{α:Type}{size:Nat}{enc:α→List Value}{w:World}{base:Nat}{e:TypeId}{v:Value}{l:List α}{τs:List TypeId}(h:w.ownsRow base e size v l.length (l.map enc).flatten)(hs:∀x,(enc x).length=size)(he:e∈τs):SlR size (Flat enc) w (TyK base τs w) v l:=by
 have h2:aJ size (Flat enc) w (TyK base τs w) base e v l:=aJ.flat h hs;refine h2.sl fun g hg=> ?_;obtain⟨cs,h3⟩:=h2.blk hg;exact⟨(h2.lt g hg).1,e,he,cs,h3⟩
theorem tO {P:Program} {W:World} {ops:Array Oper} {rest:List Oper} {o:Oper} {a:Act} {Q:Exit→Act→World→Prop} {α:Type} {R:World→(Nat→Prop)→List Value→α→Prop}
 (hR:jR R) (hone:∀w K cs x,R w K cs x→∀u∈cs,u.oneCell'=true)
 (hgd:o.guard=none) (s x:Operand) (t:TypeId) (ho:o.op= .call {callee:= .builtin .append,args:=#[s,x],argTypes:=#[t,t]})
 (base:Nat) (e:TypeId) (i:TypeInfo) (z:Value) (size bytes:Nat) (ht:P.underlying t=some (.slice e)) (hi:P.info? e=some i) (hz:i.zero=some z)
 (hsize:i.size=size) (hby:i.bytes=bytes) (hzs:z.cells.size=size) (hsz:0<size)
 (τs:List TypeId) (hτ:e∉τs) (v:Value) (l:List α) (hs:a.eval s=v) (hown:aJ size R W (TyK base τs W) base e v l)
 (cs:Array Value) (x0:α) (hcs:cs.size=size) (hrow:R W (TyK base τs W) cs.toList x0)
 (hx:a.eval x= .slice (some ⟨W.heap.size,0,none⟩) 1 1) (h63:l.length+1≤maxLen) (hbytes:(l.length+1)*bytes≤140737488355328) (hbase:base≤W.heap.size) (w0:World) (B:Nat) (hB:B≤base) (hb:Below B w0 W)
 (h:∀v' w',aJ size R w' (TyK base τs w') base e v' (l++[x0])→Agree (TyK base τs W) W w'→Below B w0 w'→(∀g,v'.ownBlock=some g→v.ownBlock=some g∨W.heap.size≤g)→(∀g t cs,Blk W g t cs→t≠e→Blk w' g t cs)→wpList P ops Q rest (a.put o.dst v') w'):
 wpList P ops Q (o::rest) a (W.alloc (.cells cs e)):=by
 have hown0:=hown;obtain⟨ys,h1,h2,h3⟩:=hown;have hq:∀y∈ys,y.length=size∧∀u∈y,u.oneCell'=true:=fun y hy=>by
  obtain⟨j,hj,rfl⟩:=List.getElem_of_mem hy;obtain⟨g1,g2⟩:=h3 j ys[j] (l[j]'(by omega)) (List.getElem?_eq_getElem hj) (List.getElem?_eq_getElem (by omega));exact⟨g1,hone _ _ _ _ g2⟩
 let enc:{y:List Value//y.length=size∧∀u∈y,u.oneCell'=true}→List Value:=fun y=>y.1
 let ts:List {y:List Value//y.length=size∧∀u∈y,u.oneCell'=true}:=ys.pmap Subtype.mk hq
 have hts:ts.map enc=ys:=by
  show(ys.pmap Subtype.mk hq).map (fun y=>y.1)=ys;rw[List.map_pmap,List.pmap_eq_map,List.map_id']
 have htl:ts.length=l.length:=(by rw[←h2,←hts,List.length_map]);have hlt:=h1.lt;have hc0:cs.toList.length=size∧∀u∈cs.toList,u.oneCell'=true:=⟨by simpa using hcs,hone _ _ _ _ hrow⟩;have hA0:Agree (TyK base τs W) W (W.alloc (.cells cs e)):=TyK.alloc _;have hblk:∀b,TyK base τs W b→v.ownBlock≠some b:=fun b hb e'=>by
  obtain⟨cs',g2⟩:=yB h1 e';exact TyK.off g2 hτ hb
 refine aN (enc:=enc) hgd s x t ho base e i z size bytes ht hi hz hsize hby hzs hsz v ts hs (by rw[htl,hts];exact h1) (fun y=>y.2.1) ⟨cs.toList,hc0⟩ cs rfl hx (fun y=>y.2.2) (by omega) (by rw[htl];exact hbytes) hbase w0 B hB hb ?_;intro v' w' g1 g2 g3 g4;have hA1:Agree (TyK base τs W) W w':=hA0.trans (Agree.grown g2 fun b hb=>⟨by have:=hb.lt;simp;omega,fun e'=>hblk b hb e'.symm⟩);rw[List.map_append,hts,List.length_append,htl]at g1;refine h v' w' ⟨ys++[cs.toList],by rw[List.length_append];exact g1,by simp[h2],fun j y x' e1 e2=> ?_⟩ hA1 g3 ?_ (fun g t cs hk ht=>(hk.alloc _).grown g2 fun e'=> ?_)
 ·by_cases hj:j<ys.length
  ·rw[List.getElem?_append_left hj]at e1;rw[List.getElem?_append_left (by omega)]at e2;obtain⟨q1,q2⟩:=h3 j y x' e1 e2;exact⟨q1,hR _ _ _ _ _ _ q2 hA1 fun _ g=>TyK.step hA1 g⟩
  ·rw[List.getElem?_append_right (by omega)]at e1 e2;have hj0:j-ys.length=0:=by
    rcases Nat.eq_zero_or_pos (j-ys.length)with e'|e'
    ·exact e'
    ·rw[List.getElem?_eq_none (by simp;omega)]at e1;cases e1
   rw[hj0]at e1;rw[show j-l.length=0 by omega]at e2;simp at e1 e2;subst e1 e2;exact⟨hc0.1,hR _ _ _ _ _ _ hrow hA1 fun _ g=>TyK.step hA1 g⟩
 ·intro g hg;rcases g4 with e'|e'
  ·exact .inl (e'▸hg)
  ·right;rw[e']at hg;injection hg with hg
   omega
 ·obtain⟨cs',h4⟩:=yB h1 e'.symm;have:=hk.symm.trans h4;simp at this;exact ht this.2
section
variable{n0 base:Nat}{σ τs:List TypeId}{W W':World}
theorem TyW.agree(h:TyW n0 σ W W')(hd:∀t∈τs,t∉σ):Agree (TyK base τs W) W W':=fun b hb=>by
 obtain⟨_,t,ht,cs,hk⟩:=hb;exact(show W'.heap[b]?=_ from h.blk hk (hd t ht)).trans hk.symm
theorem TyW.AV{α:Type}{size:Nat}{R:World→(Nat→Prop)→List Value→α→Prop}{e:TypeId}{v:Value}{l:List α}(hT:TyW n0 σ W W')(hR:jR R)(h:aJ size R W (TyK base τs W) base e v l)(hd:∀t∈e::τs,t∉σ):aJ size R W' (TyK base τs W') base e v l:=
 h.JI hR (hT.agree fun t ht=>hd t (List.mem_cons_of_mem _ ht)) fun g hg=>by
  obtain⟨cs,hk⟩:=h.blk hg;exact(show W'.heap[g]?=_ from hT.blk hk (hd e List.mem_cons_self)).trans hk.symm
end
theorem nK {P:Program} {W:World} {ops:Array Oper} {rest:List Oper} {o:Oper} {a:Act} {Q:Exit→Act→World→Prop} {α:Type} {R:World→(Nat→Prop)→List Value→α→Prop}
 (hR:jR R) (hone:∀w K cs x,R w K cs x→∀u∈cs,u.oneCell'=true)
 (hgd:o.guard=none) (s x:Operand) (t:TypeId) (ho:o.op= .call {callee:= .builtin .append,args:=#[s,x],argTypes:=#[t,t]})
 (base:Nat) (e:TypeId) (i:TypeInfo) (z:Value) (size bytes:Nat) (ht:P.underlying t=some (.slice e)) (hi:P.info? e=some i) (hz:i.zero=some z)
 (hsize:i.size=size) (hby:i.bytes=bytes) (hzs:z.cells.size=size) (hsz:0<size)
 (τs:List TypeId) (hτ:e∉τs) (v:Value) (l:List α) (hs:a.eval s=v) (hown:aJ size R W (TyK base τs W) base e v l)
 (g:Nat) (cs:Array Value) (x0:α) (kg:Blk W g e cs) (hcs:cs.size=size) (hrow:R W (TyK base τs W) cs.toList x0)
 (hx:a.eval x= .slice (some ⟨g,0,none⟩) 1 1) (h63:l.length+1≤maxLen) (hbytes:(l.length+1)*bytes≤140737488355328) (hbase:base≤W.heap.size) (n0:Nat) (hn0:n0≤base)
 (h:∀v' w',aJ size R w' (TyK base τs w') base e v' (l++[x0])→TyW n0 [e] W w'→(v'.ownBlock=v.ownBlock∨v'.ownBlock=some W.heap.size)→wpList P ops Q rest (a.put o.dst v') w'):
 wpList P ops Q (o::rest) a W:=by
 have hown0:=hown;obtain⟨ys,h1,h2,h3⟩:=hown;have hq:∀y∈ys,y.length=size∧∀u∈y,u.oneCell'=true:=fun y hy=>by
  obtain⟨j,hj,rfl⟩:=List.getElem_of_mem hy;obtain⟨g1,g2⟩:=h3 j ys[j] (l[j]'(by omega)) (List.getElem?_eq_getElem hj) (List.getElem?_eq_getElem (by omega));exact⟨g1,hone _ _ _ _ g2⟩
 let enc:{y:List Value//y.length=size∧∀u∈y,u.oneCell'=true}→List Value:=fun y=>y.1
 let ts:List {y:List Value//y.length=size∧∀u∈y,u.oneCell'=true}:=ys.pmap Subtype.mk hq
 have hts:ts.map enc=ys:=by
  show(ys.pmap Subtype.mk hq).map (fun y=>y.1)=ys;rw[List.map_pmap,List.pmap_eq_map,List.map_id']
 have htl:ts.length=l.length:=(by rw[←h2,←hts,List.length_map]);have hc0:cs.toList.length=size∧∀u∈cs.toList,u.oneCell'=true:=⟨by simpa using hcs,hone _ _ _ _ hrow⟩;refine bg (enc:=enc) hgd s x t ho base e i z size bytes ht hi hz hsize hby hzs hsz v (fun _=>True) ts hs (by rw[htl,hts];exact h1) (fun y=>y.2.1) _ [⟨cs.toList,hc0⟩] hx (SlR.one kg hcs (by unfold Flat;rfl) trivial) (fun y=>y.2.2) (by rw[htl];exact h63) (by rw[htl];exact hbytes) hbase ?_;intro v' w' g1 g2 g3;have hT:TyW n0 [e] W w':=TyW.grown (by rw[htl,hts]at*;exact h1) g2 (by simp) hn0 (Nat.le_trans hn0 hbase);have hA1:Agree (TyK base τs W) W w':=hT.agree fun t ht e'=>hτ (by rw[List.mem_singleton]at e';rw[←e'];exact ht);rw[List.map_append,hts,List.length_append,htl]at g1;refine h v' w' ⟨ys++[cs.toList],by rw[List.length_append];exact g1,by simp[h2],fun j y x' e1 e2=> ?_⟩ hT g3;by_cases hj:j<ys.length
 ·rw[List.getElem?_append_left hj]at e1;rw[List.getElem?_append_left (by omega)]at e2;obtain⟨q1,q2⟩:=h3 j y x' e1 e2;exact⟨q1,hR _ _ _ _ _ _ q2 hA1 fun _ g=>TyK.step hA1 g⟩
 ·rw[List.getElem?_append_right (by omega)]at e1 e2;have hj0:j-ys.length=0:=by
   rcases Nat.eq_zero_or_pos (j-ys.length)with e'|e'
   ·exact e'
   ·rw[List.getElem?_eq_none (by simp;omega)]at e1;cases e1
  rw[hj0]at e1;rw[show j-l.length=0 by omega]at e2;simp at e1 e2;subst e1 e2;exact⟨hc0.1,hR _ _ _ _ _ _ hrow hA1 fun _ g=>TyK.step hA1 g⟩
end Go.Inq
namespace Go.Proofs.YtpjechjoijjhpaaGreatDoor
open Go.RowKit Go.Inq
set_option maxHeartbeats 1000000
theorem yC:(Tryz.prog.info? 69).map (fun i=>(i.zero,i.size,i.bytes))=some (some (.agg #[.int .i64 0,.int .i64 0,.int .i64 0,.slice none 0 0]),4,48):=by kernel_rfl
theorem iP:∀(w:World) (K:Nat→Prop) (cs:List Value) (x:Nod),fu w K cs x→∀u∈cs,u.oneCell'=true:=by
 rintro w K cs x ⟨A,c,rfl,-⟩ u hu;simp only[List.mem_cons,List.not_mem_nil,or_false]at hu;rcases hu with rfl|rfl|rfl|rfl<;>rfl
def dH(w:World)(base:Nat)(v:Value)(l:List Nod):Prop:=aJ 4 fu w (TyK base [3] w) base 69 v l
theorem dH.s{w:World}{base:Nat}{v:Value}{l:List Nod}(h:dH w base v l):aY w (Old w) v l:=aJ.Ny fu.aS h
theorem dH.below{w w':World}{base:Nat}{v:Value}{l:List Nod}(h:dH w base v l)(hb:Below w.heap.size w w'):dH w' base v l:=aJ.GN fu.aS h hb (Nat.le_refl _)
theorem dH.base{w:World}{base base':Nat}{v:Value}{l:List Nod}(h:dH w base v l)(hb:base'≤base):dH w base' v l:=aJ.Nz fu.aS h hb
theorem dH.nil(w:World)(base:Nat):dH w base (.slice none 0 0) []:=aJ.nil _ _ _ _ _ _
theorem tQ{w:World}{base:Nat}{u:Value}{k a b:Int}{l:List Int}(h:bA w base u l):fu w (TyK base [3] w) [.int .i64 k,.int .i64 a,.int .i64 b,u] ⟨⟨k,a,b⟩,l⟩:=by
 obtain⟨A,c,rfl⟩:=h.form;exact⟨A,c,rfl,Dn (enc:=Go.Inq.encI) h (fun _=>rfl) (by simp)⟩
theorem Eu{w:World}{K:Nat→Prop}{k a b:Int}:fu w K [.int .i64 k,.int .i64 a,.int .i64 b,.slice none 0 0] ⟨⟨k,a,b⟩,[]⟩:=⟨none,0,rfl,aM.nil _ _ _ _⟩
def wI(base:Nat)(l:List Int):Wrd:=⟨[3],fun v W=>bA W base v l,fun _ _ _ _ _ h hT k=>hT.own k (h _ (by simp))⟩
def wNd(base:Nat)(x:Cho)(l:List Int):Wrd:=⟨[3],fun v W=>∃u,v= .agg #[.int .i64 x.key,.int .i64 x.a,.int .i64 x.b,u]∧bA W base u l,fun _ _ _ _ _ h hT k=>by
 obtain⟨u,h1,h2⟩:=k;exact⟨u,h1,hT.own h2 (h _ (by simp))⟩⟩
def wNs(base:Nat)(x:Cho)(l:List Int):Wrd:=⟨[69,3],fun v W=>∃g u,base≤g∧v= .slice (some ⟨g,0,none⟩) 1 1∧Blk W g 69 #[.int .i64 x.key,.int .i64 x.a,.int .i64 x.b,u]∧bA W base u l,fun _ _ _ _ _ h hT k=>by
 obtain⟨g,u,h1,h2,h3,h4⟩:=k;exact⟨g,u,h1,h2,hT.blk h3 (h _ (by simp)),hT.own h4 (h _ (by simp))⟩⟩
def wND(base:Nat)(l:List Nod):Wrd:=⟨[69,3],fun v W=>dH W base v l,fun _ _ _ _ _ h hT k=>hT.AV fu.aS k h⟩
end Go.Proofs.YtpjechjoijjhpaaGreatDoor
namespace Go.Proofs.YtpjechjoijjhpaaGreatDoor
open Go.RowKit Go.Inq
set_option maxHeartbeats 4000000
attribute [local go_sem↓] Go.wp_at_zero Go.wp_at_succ
theorem TU(w:World)(A:Option Addr)(n c:Nat):(Go.binOp .eql 35 (.slice A n c) (.slice none 0 0)).run Tryz.prog w= .ok (.bool A.isNone) w:=Lib.run_eql_slice_nil w 35 3 A n c 0 0 Tryz.underlying35
attribute [local go_sem] TU
set_option maxRecDepth 100000 in
theorem GQ(A:Option Addr)(c:Nat)(l:List Int)(K:Nat→Prop)(w:World)(hK:∀b,K b→b<w.heap.size)(h:aM w K (.slice A l.length c) l)(hl:l.length≤1000000000):
 Calls Tryz.prog 87 #[.slice A l.length c] w (AO w l):=by
 obtain⟨ii,hii,hi1,hi2,hi3⟩:=info_parts gU;replace h:=hide h;cases A with
 |none=>
  have hz:l=[]:=by
   rcases Nat.lt_or_ge 0 l.length with g|g
   ·obtain⟨b,off,hA,_⟩:=h.out.at_ g;cases hA
   ·exact List.eq_nil_of_length_eq_zero (by omega)
  subst hz;go_enter Tryz.func87,Tryz.ntmps87;go_wp2;exact bodyPost_ret (v:= .slice none 0 0) (by simp[results,Tryz.results87,go_sem]) rfl ⟨_,rfl,bA.nil _ _,Below.refl _ _⟩
 |some ad=>
  obtain⟨W0,hW0⟩:∃W0,w.alloc (.cells #[] 3)=W0:=⟨_,rfl⟩;have hB:=ah (Below.refl w.heap.size w) hW0 (Nat.le_refl _);have k0:=Blk.newEq hW0;have hS:=hide (h.out.keep (Agree.below hB hK) (fun _ h=>h));have hown:bA W0 w.heap.size (.slice (some ⟨w.heap.size,0,none⟩) 0 0) []:=⟨rfl,.inr ⟨w.heap.size,0,#[],rfl,Nat.le_refl _,k0,Nat.le_refl _,Nat.zero_le _,rfl,rfl⟩⟩;clear k0;go_enter Tryz.func87,Tryz.ntmps87;go_wp2_with (at_builtin;go_loud (refine bg (enc:=Go.Inq.encI) rfl (.tmp 5) (.tmp 6) 35 rfl w.heap.size 3 ii _ 1 8 Tryz.underlying35 hii hi1 hi2 hi3 rfl (by decide) (.slice (some ⟨w.heap.size,0,none⟩) 0 0) K [] rfl hown (fun _=>rfl) (.slice (some ad) l.length c) l rfl hS.out Go.Inq.fD (by rw[List.length_nil];unfold maxLen;omega) (by rw[List.length_nil];omega) hB.size ?_);intro v1 w1 hown1 hg1 hv1);go_ret;exact⟨_,rfl,hown1,below_grown hB hg1 hB.size (fun k hk=>by simp[Value.ownBlock]at hk;omega)⟩
def Vk(w:World)(l:List Nod)(e:Ending)(w':World):Prop:=∃v,e= .returned v∧dH w' w.heap.size v l∧Below w.heap.size w w'
set_option maxRecDepth 100000 in
theorem Ew(At:Option Addr)(ct:Nat)(tree:List Nod)(K:Nat→Prop)(w:World)(hK:∀b,K b→b<w.heap.size)(ht0:aY w K (.slice At tree.length ct) tree)(hN:tJ tree):Calls Tryz.prog 46 #[.slice At tree.length ct] w (Vk w tree):=by
 obtain⟨ino,oJ,je,jg,iQ⟩:=info_parts yC;have htl:=hN.1;have ht:aY w (Old w) (.slice At tree.length ct) tree:=ht0.fit hK;clear ht0 hK;replace ht:=hide ht;replace hN:=hide hN;go_enter Tryz.func46,Tryz.ntmps46;go_wp2_with fail;go_loopw [3,8] (fun s3 s8 wr=>∃k:Nat,k≤tree.length∧s8= .int .i64 (k:Int)∧dH wr w.heap.size s3 (tree.take k)∧Below w.heap.size w wr) (fun _ s8 _=>tree.length-(intOf s8).toNat);case atStart=>exact⟨0,by omega,by go_num,dH.nil _ _,Below.refl _ _⟩
 case round=>
  obtain⟨Wo,rfl⟩:∃Wo,Wo=wr:=⟨_,rfl⟩;obtain⟨k,hk,rfl,hO,hb⟩:=hrel;have hk0:(0:Int)≤(k:Int):=Int.natCast_nonneg _;by_cases hlt:k<tree.length
  ·have hk1:(k:Int)<(tree.length:Int):=(by omega);obtain⟨b,off,Ay,cy,rfl,-,-⟩:=ht.out.at_ hlt;obtain⟨b',off',Ay',cy',e,hbK,d⟩:=aY.at_ (ht.out.keep (Agree.below hb fun b h=>h) (fun b h=>h)) hlt;injection e with e
   injection e with e1 e2
   subst e1 e2;obtain⟨d0,d1,d2,d3,GR⟩:=d;have hyl:=hN.out.2 _ (List.getElem_mem hlt);have hstp:Hid (tree.take (k+1)=tree.take k++[tree[k]]):=hide (by rw[List.take_succ_eq_append_getElem hlt]);have hMl:(tree.take k).length≤200000000:=(by rw[List.length_take];omega);generalize tree[k]=n at*;obtain⟨⟨nk,na,nb⟩,ny⟩:=n;dsimp only at d0 d1 d2 d3 GR hyl hstp;generalize tree.take k=M at*;have hA:=ah hb (W:=Wo.alloc (.cells #[.int .i64 nk,.int .i64 na,.int .i64 nb,.slice Ay' ny.length cy'] 69)) rfl hb.size;have hO1:=hide (dH.below hO ((Below.refl Wo.heap.size Wo).alloc (Nat.le_refl _) (.cells #[.int .i64 nk,.int .i64 na,.int .i64 nb,.slice Ay' ny.length cy'] 69)));have NA:=hide (aM.keep GR (Agree.alloc (K:=fun b=>b<w.heap.size) (w:=Wo) (fun b h=>Nat.lt_of_lt_of_le h hb.size) (.cells #[.int .i64 nk,.int .i64 na,.int .i64 nb,.slice Ay' ny.length cy'] 69)) (fun b h=>h));clear hO GR;go_upto_region 5 with fail;generalize hWa:Wo.alloc (.cells #[.int .i64 nk,.int .i64 na,.int .i64 nb,.slice Ay' ny.length cy'] 69)=Wa at*;have nn:=Blk.newEq hWa;have hszA:=hA.size;have hOA:=hO1.out;have hyS:=NA.out;clear hWa d0 d1 d2 d3 hO1 NA;have hbA:=hA;generalize u3=v10 at*;refine cZ w.heap.size [wV (v10),wV (.pointer (some ⟨Wo.heap.size,0,none⟩)),wV (.agg #[.int .i64 nk,.int .i64 na,.int .i64 nb]),wV (.pointer (some ⟨Wo.heap.size,3,none⟩)),wV (.slice Ay' ny.length cy'),wI w.heap.size ny,wNd w.heap.size ⟨nk,na,nb⟩ ny,wNs w.heap.size ⟨nk,na,nb⟩ ny,wND w.heap.size (M++[⟨⟨nk,na,nb⟩,ny⟩]),wND w.heap.size (M++[⟨⟨nk,na,nb⟩,ny⟩]),wA (wX v10 (wND w.heap.size M)) (wK Wo.heap.size 69 #[.int .i64 nk,.int .i64 na,.int .i64 nb,.slice Ay' ny.length cy'])] [[],[],[1,10],[],[3,10],[4],[2,5],[6],[0,7,10],[8]] [[],[],[],[],[],[],[],[],[69],[]] [[],[],[],[],[],[3],[3],[69,3],[69,3],[69,3],[69,3,69]] [] [69] hszA (by kernel_rfl) (by kernel_rfl) (by kernel_rfl) (by kernel_rfl) (by kernel_rfl) (by kernel_rfl) rfl ⟨fun _=>⟨hOA,nn⟩,trivial⟩ (by kernel_rfl) (by kernel_rfl) ?hstep ?hend;case hstep=>
    simp only[iO,gW,RsT,acV,wV,wO,wS,wB,wU,wX,wK,wA,wI,wNd,wNs,wND,cK,gA,gZ,gS,List.getD_cons_zero,List.getD_cons_succ,List.getD_nil,Act.put,sA,sZ,sS,Nat.zero_add,Nat.reduceAdd,if_true,and_true];refine⟨?_,?_,?o2,?_,?o4,?o5,?o6,?o7,?o8,?o9⟩;all_goals intro vs W R hR hT hd
    all_goals have hsz:=Nat.le_trans hszA hT.size
    all_goals have hbW:=hbA.trans hT.below
    case o2=>
     obtain⟨e1,-,kn⟩:=hd;rw[e1];have c0:=Blk.n0 kn;have c1:=Blk.n1 kn;have c2:=Blk.n2 kn;go_wp2;exact⟨rfl,_,rfl,hR _ _ rfl (TyW.refl _ _ _)⟩
    case o4=>
     obtain⟨e1,-,kn⟩:=hd;rw[e1];have c3:=Blk.n3 kn;go_wp2;exact⟨rfl,_,rfl,hR _ _ rfl (TyW.refl _ _ _)⟩
    case o5=>
     rw[hd];go_wp2_with fail;refine(GQ Ay' cy' ny (fun b=>b<w.heap.size) W (fun b (hb:b<w.heap.size)=>Nat.lt_of_lt_of_le hb hsz) (aM.keep hyS (Agree.below hT.below fun b h=>h) (fun b h=>h)) (by omega)).mono ?_;rintro e W2 ⟨v,rfl,hv,hb2⟩;go_wp2;exact⟨rfl,_,rfl,hR _ _ (bO hv hsz) (TyW.calm hb2 hsz)⟩
    case o6=>
     obtain⟨e2,o5⟩:=hd;obtain⟨Au,cu,e5⟩:=bA.form o5;rw[e5]at o5⊢;rw[e2];go_wp2;exact⟨rfl,_,rfl,hR _ _ ⟨_,rfl,o5⟩ (TyW.refl _ _ _)⟩
    case o7=>
     obtain⟨u,e6,hu⟩:=hd;obtain⟨Au,cu,rfl⟩:=aW hu;rw[e6];go_wp2;exact⟨rfl,_,rfl,hR _ _ ⟨W.heap.size,_,hsz,rfl,Blk.new _ _ _,World.ownsRow.alloc hu _⟩ (TyW.calm ((Below.refl _ _).alloc (Nat.le_refl _) _) hsz)⟩
    case o8=>
     obtain⟨e0,⟨g,u,hg,e7,kg,hu⟩,hO,-⟩:=hd;rw[e0,e7];refine nK fu.aS iP rfl _ _ 36 rfl w.heap.size 69 ino _ 4 48 Tryz.underlying36 oJ je jg iQ rfl (by decide) [3] (by decide) v10 M rfl hO g _ ⟨⟨nk,na,nb⟩,ny⟩ kg rfl (tQ hu) rfl (by unfold maxLen;omega) (by omega) hsz w.heap.size (Nat.le_refl _) ?_;intro v8 W8 hO8 hT8 Vl;exact⟨rfl,_,rfl,hR _ _ hO8 hT8⟩
    case o9=>
     go_wp2;exact⟨rfl,_,rfl,hR _ _ hd (TyW.refl _ _ _)⟩
    all_goals (go_wp2;exact⟨rfl,_,rfl,hR _ _ (by first|rfl|trivial) (TyW.refl _ _ _)⟩)
   case hend=>
    intro vs W hT hd;have o9:dH W w.heap.size (vs 9) (M++[⟨⟨nk,na,nb⟩,ny⟩]):=hd 9 (by simp) (by kernel_rfl);have hb6:=hA.trans hT.below;simp only[acV,gA,gZ,gS,Act.put,sA,sZ,sS,List.length_cons,List.length_nil,Nat.reduceAdd];clear hd hT hyS hOA nn hA hbA;go_wp2;go_roundw;case rel=>exact⟨k+1,by omega,by go_num,by rw[hstp.out];exact o9,hb6⟩
    case measure=>simp[intOf];omega
  ·obtain rfl:k=tree.length:=(by omega);rw[List.take_length]at hO;go_wp2;go_ret;exact⟨_,rfl,hO,hb⟩
end Go.Proofs.YtpjechjoijjhpaaGreatDoor
namespace Go.Inq
inductive Tr where
 |leaf (n:Nod):Tr
 |fork (c:Cho) (l r:Tr):Tr
def Tr.flat:Tr→List Nod
 | .leaf n=>[n]
 | .fork c l r=>⟨c,[]⟩::(l.flat++r.flat)
def Tr.ok:Tr→Prop
 | .leaf n=>n.cyc≠[]
 | .fork _ l r=>l.ok∧r.ok
def Tr.leaves:Tr→Nat
 | .leaf _=>1
 | .fork _ l r=>l.leaves+r.leaves
def Tr.deep:Tr→Nat
 | .leaf _=>0
 | .fork _ l r=>1+max l.deep r.deep
def Tr.held(H:List Txn)(level:Int):Tr→List Cho→Bool
 | .leaf n,l=>decide (n.c=dA)&&iE H level l n.cyc
 | .fork c x y,l=>x.held H level (l++[c])&&y.held H level (l++[bD c])&&dh H c
def bf:Nat→List Nod→Option (Tr×List Nod)
 |0,_=>none
 |_+1,[]=>none
 |k+1,n::r=>if n.cyc≠[]then some (.leaf n,r)else match bf k r with
  |none=>none
  |some (x,r1)=>match bf k r1 with
   |none=>none
   |some (y,r2)=>some (.fork n.c x y,r2)
theorem dN:∀{k:Nat} {l r:List Nod} {t:Tr},bf k l=some (t,r)→l=t.flat++r∧t.ok
 |0,_,_,_,h=>by cases h
 |k+1,[],_,_,h=>by cases h
 |k+1,n::l,r,t,h=>by
  unfold bf at h;split at h
  ·rename_i hc;injection h with h
   injection h with h1 h2
   subst h1 h2;exact⟨rfl,hc⟩
  ·rename_i hc;split at h
   ·cases h
   ·rename_i x r1 h1;split at h
    ·cases h
    ·rename_i y r2 h2;injection h with h
     injection h with h3 h4
     subst h3 h4;obtain⟨e1,o1⟩:=dN h1;obtain⟨e2,o2⟩:=dN h2;refine⟨?_,o1,o2⟩;have hn:n=⟨n.c,[]⟩:=by
      have:n.cyc=[]:=Classical.byContradiction hc;cases n;simp at this⊢;exact this
     show n::l=(⟨n.c,[]⟩::(x.flat++y.flat))++r2;rw[e1,e2,←hn];simp
theorem tT(t:Tr):0<t.flat.length:=by cases t<;>simp[Tr.flat]
theorem jZ:∀(t:Tr) (r:List Nod) (k:Nat),t.ok→t.flat.length≤k→bf k (t.flat++r)=some (t,r)
 | .leaf n,r,k,ho,hk=>by
  obtain⟨k,rfl⟩:∃j,k=j+1:=⟨k-1,by simp[Tr.flat]at hk;omega⟩;show bf (k+1) (n::r)=_;unfold bf;rw[if_pos (show n.cyc≠[] from ho)]
 | .fork c x y,r,k,ho,hk=>by
  have hl:(Tr.fork c x y).flat.length=x.flat.length+y.flat.length+1:=(by simp[Tr.flat]);obtain⟨k,rfl⟩:∃j,k=j+1:=⟨k-1,by omega⟩;show bf (k+1) (⟨c,[]⟩::(x.flat++y.flat)++r)=_;rw[List.cons_append,List.append_assoc];unfold bf;rw[if_neg (by simp),jZ x (y.flat++r) k ho.1 (by omega)];dsimp only;rw[jZ y r k ho.2 (by omega)]
def jh(l:List Nod):Option Tr:=match bf l.length l with
 |some (t,[])=>some t
 |_=>none
theorem nL{l:List Nod}{t:Tr}:jh l=some t↔l=t.flat∧t.ok:=by
 unfold jh;constructor
 ·intro h;split at h
  ·rename_i t' h1;injection h with h
   subst h;obtain⟨e,o⟩:=dN h1;exact⟨by rw[e];simp,o⟩
  ·cases h
 ·rintro⟨rfl,ho⟩;have:=jZ t [] t.flat.length ho (Nat.le_refl _);rw[List.append_nil]at this;rw[this]
def tV(H:List Txn)(level:Int)(l:List Cho)(tree:List Nod):Bool:=kI H level&&match jh tree with
 |some t=>t.held H level l
 |none=>false
structure Mk where
 c:Cho
 right:Bool
 done:List Nod
deriving DecidableEq
def Mk.chosen(m:Mk):Cho:=if m.right then bD m.c else m.c
def aK(path:List Mk):List Cho:=path.map Mk.chosen
theorem fT(path:List Mk):(aK path).length=path.length:=List.length_map ..
theorem yV(path:List Mk)(m:Mk):aK (path++[m])=aK path++[m.chosen]:=by unfold aK;rw[List.map_append];rfl
def jm(path:List Mk)(c:Cho):Bool:=path.any fun m=>decide (c=m.c)||decide (c=bD m.c)
def gu(H:List Txn)(level:Int)(l:List Cho)(path:List Mk)(m:Mk):Bool:=
 !jm path m.c&&dh H m.c&&if m.right then tV H level (l++aK path++[m.c]) m.done else decide (m.done=[])
def jT(H:List Txn)(level:Int)(l:List Cho)(path:List Mk)(n:Nat):Bool:=(List.range n).all fun i=>gu H level l (path.take i) (path.getD i ⟨dA,false,[]⟩)
def dF(H:List Txn)(level:Int)(L:List Fct)(path:List Mk):Bool:=decide (L.length+path.length<20000)&&eu H level L&&jT H level (ay L) path path.length
theorem iG{H:List Txn}{level:Int}{l:List Cho}{path:List Mk}:jT H level l path path.length=true↔∀i (hi:i<path.length),gu H level l (path.take i) path[i]=true:=by
 unfold jT;rw[List.all_eq_true];constructor
 ·intro h i hi;have:=h i (List.mem_range.2 hi);rwa[qJ hi]at this
 ·intro h i hi;have hi:=List.mem_range.1 hi;rw[qJ hi];exact h i hi
theorem GU{H:List Txn}{level:Int}{l:List Cho}{path:List Mk}(h:jT H level l path path.length=true)(n:Nat):jT H level l (path.take n) (path.take n).length=true:=by
 rw[iG]at h⊢;intro i hi;rw[List.length_take]at hi;rw[List.take_take,Nat.min_eq_left (by omega),List.getElem_take];exact h i (by omega)
theorem GX{H:List Txn}{level:Int}{l:List Cho}{path:List Mk}{m:Mk}:jT H level l (path++[m]) (path++[m]).length=(jT H level l path path.length&&gu H level l path m):=by
 rw[Bool.eq_iff_iff,Bool.and_eq_true];constructor
 ·intro h;have h1:=GU h path.length;rw[List.take_left]at h1;rw[iG]at h;have h2:=h path.length (by simp);rw[List.take_left]at h2;simp at h2;exact⟨h1,h2⟩
 ·rintro⟨h1,h2⟩;rw[iG]at h1⊢;intro i hi;rw[List.length_append,List.length_singleton]at hi;by_cases hl:i<path.length
  ·rw[List.take_append_of_le_length (by omega),List.getElem_append_left hl];exact h1 i hl
  ·obtain rfl:i=path.length:=(by omega);rw[List.take_left];simpa using h2
def dG(H:List Txn)(level:Int)(L:List Fct):List Mk→List Nod→List Mk×Say
 |[],tree=>([],⟨2,[],fU H level L tree,[]⟩)
 |m::r,tree=>if m.right then dG H level L r (⟨m.c,[]⟩::(m.done++tree))else((⟨m.c,true,tree⟩::r).reverse,oC)
def dO(H:List Txn)(level:Int)(L:List Fct)(path:List Mk):List Mk×Say:=
 if dF H level L path then
  let row:=ay L++aK path
  if iL H level row≠[]then dG H level L path.reverse [⟨dA,iL H level row⟩]
  else match mG H row with
   |none=>(path,⟨1,(fK H.length (dW H level row)).getD [],[],[]⟩)
   |some p=>(path++[⟨p,false,[]⟩],oC)
 else(path,vG)
end Go.Inq
namespace Go.Proofs.YtpjechjoijjhpaaGreatDoor
open Go.RowKit Go.Inq
set_option maxHeartbeats 1000000
def MkR(w:World)(K:Nat→Prop)(cs:List Value)(m:Mk):Prop:=∃A c,cs=[.int .i64 m.c.key,.int .i64 m.c.a,.int .i64 m.c.b,.bool m.right,.slice A m.done.length c]∧aY w K (.slice A m.done.length c) m.done
theorem MkR.aS:jR MkR:=fun _ _ _ _ _ _ h ha hk=>by
 obtain⟨A,c,h1,h2⟩:=h;exact⟨A,c,h1,aY.keep h2 ha hk⟩
def MkS(w:World)(K:Nat→Prop)(v:Value)(l:List Mk):Prop:=SlR 5 MkR w K v l
section
variable{w w':World}{K K':Nat→Prop}{v:Value}{l:List Mk}
theorem MkS.keep(h:MkS w K v l)(ha:Agree K w w')(hk:∀b,K b→K' b):MkS w' K' v l:=SlR.keep MkR.aS h ha hk
theorem MkS.below(h:MkS w (Old w) v l)(hb:Below w.heap.size w w'):MkS w' (Old w') v l:=SlR.below MkR.aS h hb
theorem MkS.fit(h:MkS w K v l)(hk:∀b,K b→K' b):MkS w K' v l:=SlR.fit MkR.aS h hk
theorem MkS.nil(w:World)(K:Nat→Prop)(A:Option Addr)(c:Nat):MkS w K (.slice A 0 c) []:=SlR.nil _ _ _ _ _ _
theorem MkS.take{A:Option Addr}{n c:Nat}(h:MkS w K (.slice A n c) l){k:Nat}(hk:k≤l.length):MkS w K (.slice A k c) (l.take k):=SlR.take h hk
theorem MkS.cap{A:Option Addr}{n c:Nat}(h:MkS w K (.slice A n c) l):l.length≤c:=by
 obtain⟨_,_,e,h1⟩:=SlR.len h;simp only[Value.slice.injEq]at e;omega
structure Vm(w:World)(K:Nat→Prop)(b o:Nat)(m:Mk)(Ay:Option Addr)(cy:Nat):Prop where
 d0:w.cell? ⟨b,o,none⟩=some (.int .i64 m.c.key)
 d1:w.cell? ⟨b,o+1,none⟩=some (.int .i64 m.c.a)
 d2:w.cell? ⟨b,o+2,none⟩=some (.int .i64 m.c.b)
 d3:w.cell? ⟨b,o+3,none⟩=some (.bool m.right)
 d4:w.cell? ⟨b,o+4,none⟩=some (.slice Ay m.done.length cy)
 done:aY w K (.slice Ay m.done.length cy) m.done
theorem MkS.at_{A:Option Addr}{n c:Nat}(h:MkS w K (.slice A n c) l){i:Nat}(hi:i<l.length):∃b off Ay cy,A=some ⟨b,off,none⟩∧K b∧Vm w K b (off+i*5) l[i] Ay cy:=by
 obtain⟨b,off,cs,hA,hK,-,⟨Ay,cy,rfl,hy⟩,hc⟩:=SlR.at_ h hi;exact⟨b,off,Ay,cy,hA,hK,hc 0 _ rfl,hc 1 _ rfl,hc 2 _ rfl,hc 3 _ rfl,hc 4 _ rfl,hy⟩
end
def bJ(p:List Mk):Nat:=(p.map fun m=>1+m.done.length).sum
theorem nN(p:List Mk)(m:Mk):bJ (p++[m])=bJ p+(1+m.done.length):=by unfold bJ;rw[List.map_append,List.sum_append];simp
theorem tX{p:List Mk}:p.length≤bJ p:=by
 unfold bJ
 induction p with
 |nil=>simp
 |cons m p ih=>simp only[List.map_cons,List.sum_cons,List.length_cons];omega
theorem vL{p:List Mk}{m:Mk}(h:m∈p):1+m.done.length≤bJ p:=by
 unfold bJ
 induction p with
 |nil=>simp at h
 |cons x p ih=>
  simp only[List.map_cons,List.sum_cons];rcases List.mem_cons.1 h with rfl|h
  ·omega
  ·have:=ih h;omega
theorem yX(p:List Mk)(i:Nat):bJ (p.take i)≤bJ p:=by
 conv=>rhs;rw[←List.take_append_drop i p]
 unfold bJ;rw[List.map_append,List.sum_append];omega
def jU(l:List Nod):Prop:=∀n∈l,n.cyc.length≤1000000
def qU(p:List Mk):Prop:=bJ p≤50000000∧∀m∈p,jU m.done
theorem qU.len{p:List Mk}(h:qU p):p.length≤50000000:=Nat.le_trans tX h.1
theorem qU.done{p:List Mk}(h:qU p){m:Mk}(hm:m∈p):tJ m.done:=⟨by have:=vL hm;have:=h.1;omega,h.2 m hm⟩
theorem qU.at_{p:List Mk}(h:qU p){i:Nat}(hi:i<p.length):tJ p[i].done:=h.done (List.getElem_mem hi)
theorem qU.take{p:List Mk}(h:qU p)(i:Nat):qU (p.take i):=⟨Nat.le_trans (yX p i) h.1,fun m hm=>h.2 m (List.mem_of_mem_take hm)⟩
end Go.Proofs.YtpjechjoijjhpaaGreatDoor
namespace Go.Proofs.YtpjechjoijjhpaaGreatDoor
open Go.RowKit Go.Inq
set_option maxHeartbeats 4000000
attribute [local go_sem↓] Go.wp_at_zero Go.wp_at_succ
theorem NC:(Tryz.prog.info? 64).map (fun i=>(i.zero,i.size,i.bytes))=some (some (.agg #[.int .i64 0,.int .i64 0,.int .i64 0,.bool false,.slice none 0 0]),5,56):=by kernel_rfl
theorem mk_one:∀(w:World) (K:Nat→Prop) (cs:List Value) (x:Mk),MkR w K cs x→∀u∈cs,u.oneCell'=true:=by
 rintro w K cs x ⟨A,c,rfl,-⟩ u hu;simp only[List.mem_cons,List.not_mem_nil,or_false]at hu;rcases hu with rfl|rfl|rfl|rfl|rfl<;>rfl
def MkO(w:World)(base:Nat)(v:Value)(l:List Mk):Prop:=aJ 5 MkR w (TyK base [69,3] w) base 64 v l
theorem MkO.s{w:World}{base:Nat}{v:Value}{l:List Mk}(h:MkO w base v l):MkS w (Old w) v l:=aJ.Ny MkR.aS h
theorem MkO.below{w w':World}{base:Nat}{v:Value}{l:List Mk}(h:MkO w base v l)(hb:Below w.heap.size w w'):MkO w' base v l:=aJ.GN MkR.aS h hb (Nat.le_refl _)
theorem MkO.base{w:World}{base base':Nat}{v:Value}{l:List Mk}(h:MkO w base v l)(hb:base'≤base):MkO w base' v l:=aJ.Nz MkR.aS h hb
theorem MkO.nil(w:World)(base:Nat):MkO w base (.slice none 0 0) []:=aJ.nil _ _ _ _ _ _
theorem dH.slK{w:World}{base:Nat}{v:Value}{l:List Nod}(h:dH w base v l):aY w (TyK base [69,3] w) v l:=aJ.slT fu.aS h
theorem tY{w:World}{base:Nat}{e:TypeId}{size n m c j:Nat}{A:Option Addr}{xs:List Value}(h:w.ownsRow base e size (.slice A m c) n xs)(hj:j<xs.length):
 ∃g,A=some ⟨g,0,none⟩∧base≤g∧(∃cs,Blk w g e cs∧cs[j]?=xs[j]?)∧∀u,(w.setCell ⟨g,j,none⟩ u).ownsRow base e size (.slice A m c) n (xs.set j u):=by
 have h0:=h.1;rcases h.2 with⟨_,h4⟩|⟨g,cap,cur,hv,hg,hh,h6,h7,h8,h9⟩
 ·exfalso;rw[h4]at h0;simp at h0;rw[h0]at hj;simp at hj
 ·simp only[Value.slice.injEq]at hv;obtain⟨rfl,hn,rfl⟩:=hv;have hk:Blk w g e cur:=hh;have hjc:j<n*size:=(by omega);refine⟨g,rfl,hg,⟨cur,hk,?_⟩,fun u=>⟨by rw[List.length_set];exact h0,.inr ⟨g,c,_,by rw[hn],hg,hk.aH j u,h6,h7,by simpa using h8,?_⟩⟩⟩
  ·rw[←h9,List.getElem?_take,if_pos hjc,Array.getElem?_toList]
  ·rw[←h9,Array.toList_setIfInBounds,List.take_set]
theorem tZ{α:Type}(size:Nat):∀(ys:List (List α)) (i j:Nat) (u:α),(∀y∈ys,y.length=size)→(hi:i<ys.length)→j<size→ys.flatten.set (i*size+j) u=(ys.set i (ys[i].set j u)).flatten
 |[],i,j,u,_,hi,_=>by simp at hi
 |y::ys,0,j,u,hs,_,hj=>by
  have:=hs y (by simp);simp[List.set_append,this,hj]
 |y::ys,i+1,j,u,hs,hi,hj=>by
  have h1:=hs y (by simp);have ih:=tZ size ys i j u (fun z hz=>hs z (by simp[hz])) (by simpa using hi) hj;simp only[List.flatten_cons,sS,List.getElem_cons_succ];rw[←ih,List.set_append,if_neg (by rw[h1,Nat.add_mul];omega),h1,show(i+1)*size+j-size=i*size+j by rw[Nat.add_mul];omega]
theorem Dp{α:Type}(size:Nat):∀(ys:List (List α)) (i j:Nat),(∀y∈ys,y.length=size)→(hi:i<ys.length)→j<size→ys.flatten[i*size+j]?=ys[i][j]?
 |[],i,j,_,hi,_=>by simp at hi
 |y::ys,0,j,hs,_,hj=>by
  have:=hs y (by simp);simp only[Nat.zero_mul,Nat.zero_add,List.flatten_cons,List.getElem_cons_zero];rw[List.getElem?_append_left (by omega)]
 |y::ys,i+1,j,hs,hi,hj=>by
  have h1:=hs y (by simp);have ih:=Dp size ys i j (fun z hz=>hs z (by simp[hz])) (by simpa using hi) hj;simp only[List.flatten_cons,List.getElem_cons_succ];rw[←ih,List.getElem?_append_right (by rw[h1,Nat.add_mul];omega),h1,show(i+1)*size+j-size=i*size+j by rw[Nat.add_mul];omega]
theorem pY{α:Type}(size:Nat):∀(ys:List (List α)),(∀y∈ys,y.length=size)→ys.flatten.length=ys.length*size
 |[],_=>by simp
 |y::ys,hs=>by
  have ih:=pY size ys fun z hz=>hs z (by simp[hz]);rw[List.flatten_cons,List.length_append,ih,hs y (by simp),List.length_cons,Nat.add_mul];omega
def MkJ(w:World)(base:Nat)(v:Value)(l:List Mk)(k:Nat):Prop:=
 ∃ys:List (List Value),w.ownsRow base 64 5 v l.length ys.flatten∧ys.length=l.length∧∀(i:Nat) cs x,ys[i]?=some cs→l[i]?=some x→cs.length=5∧(i<k→MkR w (TyK base [69,3] w) cs x)∧(k≤i→MkR w (fun b=>b<base) cs x)
theorem MkJ.start{w:World}{base:Nat}{v:Value}{l:List Mk}(h:aJ 5 MkR w (fun b=>b<base) base 64 v l):MkJ w base v l 0:=by
 obtain⟨ys,h1,h2,h3⟩:=h;exact⟨ys,h1,h2,fun i cs x e1 e2=>⟨(h3 i cs x e1 e2).1,fun g=>absurd g (by omega),fun _=>(h3 i cs x e1 e2).2⟩⟩
theorem MkJ.fin{w:World}{base:Nat}{v:Value}{l:List Mk}(h:MkJ w base v l l.length):MkO w base v l:=by
 obtain⟨ys,h1,h2,h3⟩:=h;exact⟨ys,h1,h2,fun i cs x e1 e2=>⟨(h3 i cs x e1 e2).1,(h3 i cs x e1 e2).2.1 (List.getElem?_eq_some_iff.1 e2).1⟩⟩
theorem MkJ.form{w:World}{base:Nat}{v:Value}{l:List Mk}{k:Nat}(h:MkJ w base v l k):∃A c,v= .slice A l.length c:=by
 obtain⟨ys,h1,-⟩:=h;exact aW h1
theorem MkJ.below{w w':World}{base:Nat}{v:Value}{l:List Mk}{k:Nat}(h:MkJ w base v l k)(hb:Below w.heap.size w w')(hB:base≤w.heap.size):MkJ w' base v l k:=by
 obtain⟨ys,h1,h2,h3⟩:=h;refine⟨ys,own_below h1 hb (Nat.le_refl _),h2,fun i cs x e1 e2=> ?_⟩;obtain⟨g1,g2,g3⟩:=h3 i cs x e1 e2;have hA:=TyK.below (base:=base) (τs:=[69,3]) hb (Nat.le_refl _);exact⟨g1,fun hi=>MkR.aS _ _ _ _ _ _ (g2 hi) hA fun _ g=>TyK.step hA g,fun hi=>MkR.aS _ _ _ _ _ _ (g3 hi) (Agree.below hb fun b (h:b<base)=>by omega) fun _ g=>g⟩
theorem MkJ.cells{w:World}{base:Nat}{A:Option Addr}{n c:Nat}{l:List Mk}{k:Nat}(h:MkJ w base (.slice A n c) l k)(hk:k<l.length):
 ∃g Ay cy,A=some ⟨g,0,none⟩∧base≤g∧g<w.heap.size∧aY w (fun b=>b<base) (.slice Ay l[k].done.length cy) l[k].done∧(∃cs,Blk w g 64 cs)∧
  w.cell? ⟨g,k*5,none⟩=some (.int .i64 l[k].c.key)∧w.cell? ⟨g,k*5+1,none⟩=some (.int .i64 l[k].c.a)∧w.cell? ⟨g,k*5+2,none⟩=some (.int .i64 l[k].c.b)∧w.cell? ⟨g,k*5+3,none⟩=some (.bool l[k].right)∧w.cell? ⟨g,k*5+4,none⟩=some (.slice Ay l[k].done.length cy)∧
  ∀At ct,dH w base (.slice At l[k].done.length ct) l[k].done→MkJ (w.setCell ⟨g,k*5+4,none⟩ (.slice At l[k].done.length ct)) base (.slice A n c) l (k+1):=by
 obtain⟨ys,h1,h2,h3⟩:=h;have hky:k<ys.length:=(by omega);obtain⟨g1,-,g3⟩:=h3 k ys[k] l[k] (List.getElem?_eq_getElem hky) (List.getElem?_eq_getElem hk);obtain⟨Ay,cy,hcs,hS⟩:=g3 (Nat.le_refl _);have hall:∀y∈ys,y.length=5:=fun y hy=>by
  obtain⟨i,hi,rfl⟩:=List.getElem_of_mem hy;exact(h3 i ys[i] (l[i]'(by omega)) (List.getElem?_eq_getElem hi) (List.getElem?_eq_getElem (by omega))).1
 have hfl:=pY 5 ys hall;obtain⟨g,rfl,hg,⟨cs,hb,-⟩,hset⟩:=tY h1 (j:=k*5+4) (by omega);have hcell:∀j,j<5→w.cell? ⟨g,k*5+j,none⟩=ys[k][j]?:=fun j hj=>by
  obtain⟨g',e,-,⟨cs',hb',hc'⟩,-⟩:=tY h1 (j:=k*5+j) (by omega);injection e with e
  injection e with e1 e2
  subst e1;rw[hb'.cell,hc',List.getElem?_eq_getElem (by omega)];rw[←Dp 5 ys k j hall hky hj,List.getElem?_eq_getElem (by omega)]
 rw[hcs]at hcell;have e0:=hcell 0 (by omega);have e1:=hcell 1 (by omega);have e2:=hcell 2 (by omega);have e3:=hcell 3 (by omega);have e4:=hcell 4 (by omega);refine⟨g,Ay,cy,rfl,hg,hb.lt,hS,⟨cs,hb⟩,e0,e1,e2,e3,e4,fun At ct hO=> ?_⟩;have hA:Agree (TyK base [69,3] w) w (w.setCell ⟨g,k*5+4,none⟩ (.slice At l[k].done.length ct)):=TyK.aH hb (by decide) _;have hA2:Agree (fun b=>b<base) w (w.setCell ⟨g,k*5+4,none⟩ (.slice At l[k].done.length ct)):=Agree.setCell ⟨g,k*5+4,none⟩ (by show¬g<base;omega) _;refine⟨ys.set k (ys[k].set 4 (.slice At l[k].done.length ct)),by rw[←tZ 5 ys k 4 _ hall hky (by omega)];exact hset _,by rw[List.length_set];exact h2,fun i cs x f1 f2=> ?_⟩;by_cases hik:i=k
 ·subst hik;rw[List.getElem?_set_self hky]at f1;rw[List.getElem?_eq_getElem hk]at f2;injection f1 with f1
  injection f2 with f2
  subst f1 f2;refine⟨by rw[List.length_set];exact g1,fun _=> ?_,fun h=>absurd h (by omega)⟩;rw[hcs];exact⟨At,ct,rfl,aY.keep (dH.slK hO) hA fun _ g=>TyK.step hA g⟩
 ·rw[List.getElem?_set_ne (Ne.symm hik)]at f1;obtain⟨q1,q2,q3⟩:=h3 i cs x f1 f2;exact⟨q1,fun hi=>MkR.aS _ _ _ _ _ _ (q2 (by omega)) hA fun _ g=>TyK.step hA g,fun hi=>MkR.aS _ _ _ _ _ _ (q3 (by omega)) hA2 fun _ g=>g⟩
theorem Vn(w:World)(A:Option Addr)(n c:Nat):(Go.binOp .eql 26 (.slice A n c) (.slice none 0 0)).run Tryz.prog w= .ok (.bool A.isNone) w:=Lib.run_eql_slice_nil w 26 64 A n c 0 0 Tryz.underlying26
attribute [local go_sem] Vn
set_option maxRecDepth 100000 in
theorem GY(A:Option Addr)(c:Nat)(l:List Mk)(w:World)(h:MkS w (Old w) (.slice A l.length c) l)(hl:l.length≤50000000):
 Calls Tryz.prog 45 #[.slice A l.length c] w fun e w'=>∃v,e= .returned v∧MkJ w' w.heap.size v l 0∧Below w.heap.size w w':=by
 obtain⟨ii,hii,hi1,hi2,hi3⟩:=info_parts NC;replace h:=hide h;cases A with
 |none=>
  have hz:l=[]:=by
   rcases Nat.lt_or_ge 0 l.length with g|g
   ·obtain⟨b,off,_,_,hA,_⟩:=h.out.at_ g;cases hA
   ·exact List.eq_nil_of_length_eq_zero (by omega)
  subst hz;go_enter Tryz.func45,Tryz.ntmps45;go_wp2;exact bodyPost_ret (v:= .slice none 0 0) (by simp[results,Tryz.results45,go_sem]) rfl ⟨_,rfl,MkJ.start (aJ.nil _ _ _ _ _ _),Below.refl _ _⟩
 |some ad=>
  obtain⟨W0,hW0⟩:∃W0,w.alloc (.cells #[] 64)=W0:=⟨_,rfl⟩;have hB:=ah (Below.refl w.heap.size w) hW0 (Nat.le_refl _);have k0:=Blk.newEq hW0;have hS:Hid (SlR 5 MkR W0 (fun b=>b<w.heap.size) (.slice (some ad) l.length c) l):=hide (MkS.keep h.out (Agree.below hB fun b h=>h) (fun _ h=>h));have hown:aJ 5 MkR W0 (fun b=>b<w.heap.size) w.heap.size 64 (.slice (some ⟨w.heap.size,0,none⟩) 0 0) []:=⟨[],⟨rfl,.inr ⟨w.heap.size,0,#[],rfl,Nat.le_refl _,k0,Nat.le_refl _,Nat.zero_le _,rfl,rfl⟩⟩,rfl,fun i cs x e=>by simp at e⟩;have hs0:=hB.size;clear k0 h;go_enter Tryz.func45,Tryz.ntmps45;go_wp2_with (at_builtin;go_loud (refine bB (R:=MkR) rfl (.tmp 5) (.tmp 6) 26 rfl w.heap.size 64 ii _ 5 56 Tryz.underlying26 hii hi1 hi2 hi3 rfl (by decide) (.slice (some ⟨w.heap.size,0,none⟩) 0 0) (fun b=>b<w.heap.size) [] rfl hown (.slice (some ad) l.length c) l rfl hS.out (mk_one _ _) (by simp[maxLen];omega) (by simp;omega) hs0 (fun w' hg cs x hx=>MkR.aS _ _ _ _ _ _ hx (Agree.grown hg (fun b hb=>⟨by omega,fun e=>by simp[Value.ownBlock]at e;omega⟩)) (fun _ h=>h)) ?_);intro v1 w6 hown1 hg1 jN;obtain⟨A6,c6,rfl⟩:=hown1.form;rw[List.nil_append]at hown1);go_ret;exact⟨_,rfl,MkJ.start hown1,below_grown hB hg1 hB.size (fun k hk=>by simp[Value.ownBlock]at hk;omega)⟩
set_option maxRecDepth 100000 in
theorem KH(A:Option Addr)(c:Nat)(l:List Mk)(w:World)(h:MkS w (Old w) (.slice A l.length c) l)(hF:qU l):
 Calls Tryz.prog 20 #[.slice A l.length c] w fun e w'=>∃v,e= .returned v∧MkO w' w.heap.size v l∧Below w.heap.size w w':=by
 have hll:=hF.len;have hc:=hide (GY A c l w h hll);have hfit:=hide (fun k (hk:k<l.length)=>hF.at_ hk);clear h hF;go_enter Tryz.func20,Tryz.ntmps20;go_wp2_with fail;refine hc.out.mono ?_;rintro e w1 ⟨v,rfl,hJ,hb⟩;obtain⟨Av,cv,rfl⟩:=hJ.form;clear hc;go_wp2_with fail;go_loopw [4,5,10] (fun _ _ s10 wr=>∃k:Nat,k≤l.length∧s10= .int .i64 (k:Int)∧MkJ wr w.heap.size (.slice Av l.length cv) l k∧Below w.heap.size w wr) (fun _ _ s10 _=>l.length-(intOf s10).toNat);case atStart=>exact⟨0,by omega,by go_num,hJ,hb⟩
 case round=>
  clear hJ hb;obtain⟨Wo,rfl⟩:∃Wo,Wo=wr:=⟨_,rfl⟩;obtain⟨k,hk,rfl,hJ,hb⟩:=hrel;have hk0:(0:Int)≤(k:Int):=Int.natCast_nonneg _;by_cases hlt:k<l.length
  ·have hk1:(k:Int)<(l.length:Int):=(by omega);have hsz:=hb.size;obtain⟨g,Ay,cy,rfl,hg,hgl,hS,-,e0,e1,e2,e3,e4,-⟩:=hJ.cells hlt;have hft:=hfit.out k hlt;have hnl:l[k].done.length≤100000000:=hft.1;obtain⟨Wa,hWa⟩:∃Wa,Wo.alloc (.cells #[.int .i64 l[k].c.key,.int .i64 l[k].c.a,.int .i64 l[k].c.b,.bool l[k].right,.slice Ay l[k].done.length cy] 64)=Wa:=⟨_,rfl⟩;have hba:=ah (Below.refl Wo.heap.size Wo) hWa (Nat.le_refl _);have hJ1:=hide (hJ.below hba hsz);have hB1:=hb.trans (hba.mono hsz);have hS1:=hS.keep (Agree.below hba fun b (hb:b<w.heap.size)=>by omega) (fun _ h=>h);have hnd:=hide (Ew Ay cy l[k].done (fun b=>b<w.heap.size) Wa (fun b hb=>by have:=hba.size;omega) hS1 hft);have nn:=Blk.newEq hWa;have Xk:g<Wo.heap.size:=hgl;clear hJ hS hS1 hft;obtain⟨X,hX⟩:∃X,X=l[k]:=⟨_,rfl⟩;rw[←hX]at hWa hnd nn e0 e1 e2 e3 e4 hnl;obtain⟨⟨xk,xa,xb⟩,xq,xd⟩:=X;dsimp only at hWa hnd nn e0 e1 e2 e3 e4 hnl;replace hX:=hide hX;have m4:=Blk.n4 nn;go_upto_region 5 with fail;try rw[hWa]
   clear hWa e0 e1 e2 e3 e4;go_wp2_with fail;refine hnd.out.mono ?_;rintro e W2 ⟨vt,rfl,hO,hb2⟩;obtain⟨At,ct,rfl⟩:=aJ.form hO;have hJ2:=hJ1.out.below hb2 (Nat.le_trans hsz hba.size);obtain⟨g',Ay',cy',e,-,TV,-,⟨cs,kb⟩,-,-,-,-,e4,hst⟩:=hJ2.cells hlt;injection e with e
   injection e with e5 e6
   subst e5;have hx2:l[k].done=xd:=(by rw[←hX.out]);have oK:=hst At ct;rw[hx2]at oK e4;have hJ3:=hide (oK (dH.base hO (Nat.le_trans hsz hba.size)));have hB3:=hide ((hB1.trans (hb2.mono hB1.size)).setCell (p:=⟨g,k*5+4,none⟩) hg (.slice At xd.length ct));have f4:=kb.frozen (k*5+4);clear hJ1 hnd hO hJ2 hst oK nn m4 kb hb2 hX hx2;go_wp2_with fail;go_roundw;case rel=>exact⟨k+1,by omega,by go_num,hJ3.out,hB3.out⟩
   case measure=>simp[intOf];omega
  ·obtain rfl:k=l.length:=(by omega);go_wp2;go_ret;exact⟨_,rfl,hJ.fin,hb⟩
end Go.Proofs.YtpjechjoijjhpaaGreatDoor
namespace Go.Proofs.YtpjechjoijjhpaaGreatDoor
open Go Go.RowKit Go.Inq
set_option maxHeartbeats 4000000
attribute [local go_sem↓] Go.wp_at_zero Go.wp_at_succ
theorem wpList_append_run {P:Program} {w w':World} {ops:Array Oper} {rest:List Oper} {o:Oper} {a:Act} {Q:Exit→Act→World→Prop} (hgd:o.guard=none) (s x:Operand) (t u:TypeId) (ho:o.op= .call {callee:= .builtin .append,args:=#[s,x],argTypes:=#[t,u]})
 (vs vx v:Value) (hs:a.eval s=vs) (hx:a.eval x=vx) (hrun:(Builtin.append_ #[t,u] o.type #[vs,vx]).run P w= .ok v w') (h:wpList P ops Q rest (a.put o.dst v) w'):wpList P ops Q (o::rest) a w:=by
 refine wpList_plain hgd fun K hK'=> ?_;unfold Oper.wp;simp[execOp,ho,resolve,invoke,builtin,hs,hx,hrun,Result.andThen];exact hK' _ _ h
set_option maxRecDepth 100000 in
theorem GZ(n:Nat)(hn:n≤200000000)(w:World):Calls Tryz.prog 100 #[.slice none 0 0,.int .i64 (n:Int)] w fun e w'=>∃v,e= .returned v∧w'.ownsRow w.heap.size 69 4 v 0 []∧Below w.heap.size w w':=by
 obtain⟨ino,oJ,je,jg,iQ⟩:=info_parts yC;have hn0:(0:Int)≤(n:Int):=Int.natCast_nonneg _;rcases Nat.eq_zero_or_pos n with rfl|hp
 ·go_enter Tryz.func100,Tryz.ntmps100;go_wp2;go_ret;exact⟨_,rfl,World.ownsRow_nil _ _ _ _,Below.refl _ _⟩
 ·have hap:=Lib.run_append_grow_zeros (P:=Tryz.prog) w 36 3 36 69 ino (.agg #[.int .i64 0,.int .i64 0,.int .i64 0,.slice none 0 0]) .i64 .i64 Tryz.underlying36 Tryz.underlying3 oJ je none 0 0 [] (by kernel_rfl) n hp (by rw[jg];decide) (by omega) (by omega) (by rw[iQ];omega) (by
   have:Builtin.nextslicecap (0+n) 0=n:=(by unfold Builtin.nextslicecap;simp;omega);rw[this,iQ];omega)
  rw[Nat.zero_add]at hap;have hc1:=grownCap_ge w n 0 69;have hc2:=grownCap_le_maxLen w n 0 69 (by unfold maxLen;omega);generalize grownCap w n 0 69=cp at*;obtain⟨cs,hcs⟩:∃cs,((#[]:Array Value)++Builtin.zeroCells (Value.agg #[Value.int IntKind.i64 0,Value.int IntKind.i64 0,Value.int IntKind.i64 0,Value.slice none 0 0]).cells n++Builtin.zeroCells (Value.agg #[Value.int IntKind.i64 0,Value.int IntKind.i64 0,Value.int IntKind.i64 0,Value.slice none 0 0]).cells (cp-n))=cs:=⟨_,rfl⟩;have hsz:cs.size=cp*4:=by
   rw[←hcs,Array.size_append,Array.size_append,size_zeroCells,size_zeroCells];have:(Value.agg #[Value.int IntKind.i64 0,Value.int IntKind.i64 0,Value.int IntKind.i64 0,Value.slice none 0 0]).cells.size=4:=(by kernel_rfl);rw[this];simp;omega
  have TW:(Builtin.append_ #[36,3] 36 #[.slice none 0 0,.int .i64 (n:Int)]).run Tryz.prog w= .ok (.slice (some ⟨w.heap.size,0,none⟩) n cp) (w.drew.alloc (.cells cs 69)):=by
   rw[←hcs];exact hap
  obtain⟨W1,hW1⟩:∃W1,w.drew.alloc (.cells cs 69)=W1:=⟨_,rfl⟩;have hb:Below w.heap.size w W1:=ah (Below.refl w.heap.size w).drew hW1 (Nat.le_refl _);have kb:Blk W1 w.heap.size 69 cs:=by
   have:=Blk.newEq hW1;exact this
  rw[hW1]at TW;have hO:W1.ownsRow w.heap.size 69 4 (.slice (some ⟨w.heap.size,0,none⟩) 0 cp) 0 []:=⟨rfl,.inr ⟨w.heap.size,cp,cs,rfl,Nat.le_refl _,kb,Nat.zero_le _,hc2,hsz,rfl⟩⟩;have g1:(0:Int)≤(cp:Int):=Int.natCast_nonneg _;have g2:decide ((n:Int)>0)=true:=decide_eq_true (by omega);have g3:decide (0<n)=true:=decide_eq_true hp;replace hsz:=hide hsz;replace hO:=hide hO;clear hap hcs kb;go_enter Tryz.func100,Tryz.ntmps100;go_wp2_with (at_builtin;refine wpList_append_run rfl (.tmp 20) (.tmp 21) 36 3 rfl (.slice none 0 0) (.int .i64 (n:Int)) _ rfl rfl TW ?_);go_ret;exact⟨_,rfl,hO.out,hb⟩
def sD(K1:Nat→Prop)(w:World)(_:Nat→Prop)(cs:List Value)(n:Nod):Prop:=fu w K1 cs n
theorem sD.own{w:World}{base:Nat}{v:Value}{l:List Nod}(h:dH w base v l)(K:Nat→Prop):aJ 4 (sD (TyK base [3] w)) w K base 69 v l:=h
theorem sD.sl{w:World}{base:Nat}{v:Value}{l:List Nod}(h:dH w base v l):SlR 4 (sD (TyK base [3] w)) w (Old w) v l:=aJ.sl (sD.own h (Old w)) fun g hg=>(h.lt g hg).2
def Qc(K1:Nat→Prop)(w:World)(K:Nat→Prop)(cs:List Value)(l:List Nod):Prop:=∃A c,cs=[.slice A l.length c]∧SlR 4 (sD K1) w K (.slice A l.length c) l
theorem SlR.kept{α:Type}{size:Nat}{R:World→(Nat→Prop)→List Value→α→Prop}{w w':World}{K:Nat→Prop}{v:Value}{l:List α}(hR:∀cs x,R w K cs x→R w' K cs x)(h:SlR size R w K v l)(ha:Agree K w w'):SlR size R w' K v l:=by
 obtain⟨A,c,xs,h1,h2,h3,h4,h5⟩:=h;refine⟨A,c,xs,h1,h2,h3,fun i cs x e1 e2=>⟨(h4 i cs x e1 e2).1,hR _ _ (h4 i cs x e1 e2).2⟩,fun h0=> ?_⟩;obtain⟨b,off,e1,e2,e3⟩:=h5 h0;exact⟨b,off,e1,e2,fun i j cs u g1 g2=>(ha.cell (p:=⟨b,off+i*size+j,none⟩) e2).trans (e3 i j cs u g1 g2)⟩
theorem Cg{K1:Nat→Prop}{w w':World}(ha:Agree K1 w w'){K:Nat→Prop}{cs:List Value}{x:Nod}(h:sD K1 w K cs x):sD K1 w' K cs x:=fu.aS _ _ _ _ _ _ h ha fun _ h=>h
def gK(rows:List (List Nod))(k:Nat):List Nod:=(rows.take k).flatten
theorem Ey{rows:List (List Nod)}{k:Nat}(h:k<rows.length):gK rows (k+1)=gK rows k++rows[k]:=by unfold gK;rw[List.take_succ_eq_append_getElem h,List.flatten_append,List.flatten_cons,List.flatten_nil,List.append_nil]
theorem KI(rows:List (List Nod))(k:Nat):(gK rows k).length≤rows.flatten.length:=by
 unfold gK
 conv=>rhs;rw[←List.take_append_drop k rows,List.flatten_append,List.length_append]
 omega
theorem Ez{K1:Nat→Prop}{w:World}{K:Nat→Prop}{A:Option Addr}{n c:Nat}{rows:List (List Nod)}(h:SlR 1 (Qc K1) w K (.slice A n c) rows){i:Nat}(hi:i<rows.length):∃b off Ay cy,A=some ⟨b,off,none⟩∧K b∧w.cell? ⟨b,off+i,none⟩=some (.slice Ay rows[i].length cy)∧SlR 4 (sD K1) w K (.slice Ay rows[i].length cy) rows[i]:=by
 obtain⟨b,off,cs,hA,hK,-,⟨Ay,cy,rfl,hy⟩,hc⟩:=SlR.at_ h hi;have h0:=hc 0 _ rfl;rw[Nat.mul_one]at h0;exact⟨b,off,Ay,cy,hA,hK,h0,hy⟩
set_option maxRecDepth 100000 in
theorem Dq(K1:Nat→Prop)(A:Option Addr)(c:Nat)(rows:List (List Nod))(w:World)(hK1:∀b,K1 b→b<w.heap.size)(h:SlR 1 (Qc K1) w (Old w) (.slice A rows.length c) rows)(hrl:rows.length≤1000)(hn:rows.flatten.length≤200000000):
 Calls Tryz.prog 55 #[.slice A rows.length c] w fun e w'=>∃v,e= .returned v∧aJ 4 (sD K1) w' (fun b=>b<w.heap.size) w.heap.size 69 v rows.flatten∧Below w.heap.size w w':=by
 obtain⟨ino,oJ,je,jg,iQ⟩:=info_parts yC;have hrow:=hide (fun W (hb:Below w.heap.size w W)=>(SlR.kept (K:=fun b=>b<w.heap.size) (fun cs x hx=>by
  obtain⟨A,c,e,hs⟩:=hx;exact⟨A,c,e,SlR.kept (fun cs x hx=>Cg (Agree.below hb hK1) hx) hs (Agree.below hb fun b h=>h)⟩) h (Agree.below hb fun b h=>h):SlR 1 (Qc K1) W (fun b=>b<w.heap.size) (.slice A rows.length c) rows))
 have hst:=hide (fun k (hk:k<rows.length)=>Ey hk);have hfl:=hide (KI rows);have hall:Hid (gK rows rows.length=rows.flatten):=hide (by unfold gK;rw[List.take_length]);have h0:Hid (gK rows 0=[]):=hide rfl;obtain⟨F,hF⟩:∃F,rows.flatten=F:=⟨_,rfl⟩;rw[hF]at hn hfl hall⊢;clear h hF;go_enter Tryz.func55,Tryz.ntmps55;go_wp2_with fail;go_loopw [3,5,11] (fun s3 _ s11 wr=>wr=w∧∃k:Nat,k≤rows.length∧s11= .int .i64 (k:Int)∧s3= .int .i64 ((gK rows k).length:Int)) (fun _ _ s11 _=>rows.length-(intOf s11).toNat);case atStart=>exact⟨rfl,0,by omega,by go_num,by rw[h0.out];rfl⟩
 case round=>
  obtain⟨hw,k,hk,rfl,rfl⟩:=hrel;obtain rfl:w=wr:=hw.symm;have hk0:(0:Int)≤(k:Int):=Int.natCast_nonneg _;by_cases hlt:k<rows.length
  ·have hk1:(k:Int)<(rows.length:Int):=(by omega);obtain⟨b,off,Ay,cy,rfl,-,d0,-⟩:=Ez (hrow.out _ (Below.refl _ _)) hlt;have hs:=hst.out k hlt;have hs2:(gK rows (k+1)).length=(gK rows k).length+rows[k].length:=(by rw[hs,List.length_append]);have hle:=hfl.out (k+1);generalize hq:(gK rows k).length=q at*;generalize rows[k]=x at*;generalize hq2:(gK rows (k+1)).length=q2 at*;obtain⟨xl,hxl⟩:∃xl,x.length=xl:=⟨_,rfl⟩;rw[hxl]at d0 hs2;replace hs2:=hide hs2;replace hq:=hide hq;replace hq2:=hide hq2;replace hxl:=hide hxl;have g1:decide ((q:Int)+(xl:Int)<0)=false:=decide_eq_false (by omega);have g4:(q:Int)+(xl:Int)≤200000000:=(by have:=hs2.out;omega);clear hs;go_wp2_with fail;go_roundw;case rel=>exact⟨by trivial,k+1,by omega,by go_num,by rw[hq2.out,hs2.out];go_num⟩
   case measure=>simp[intOf];omega
  ·obtain rfl:k=rows.length:=(by omega);rw[hall.out];have hgr:=hide (GZ F.length hn w);go_wp2_with fail;refine hgr.out.mono ?_;rintro e w1 ⟨v,rfl,hO,hb⟩;have hO1:aJ 4 (sD K1) w1 (fun b=>b<w.heap.size) w.heap.size 69 v []:=⟨[],by simpa using hO,rfl,fun i cs x e=>by simp at e⟩;clear hgr hO;go_wp2_with fail;go_loopw [6,8,27] (fun s6 _ s27 wr=>∃k:Nat,k≤rows.length∧s27= .int .i64 (k:Int)∧aJ 4 (sD K1) wr (fun b=>b<w.heap.size) w.heap.size 69 s6 (gK rows k)∧Below w.heap.size w wr) (fun _ _ s27 _=>rows.length-(intOf s27).toNat);case atStart=>exact⟨0,by omega,by go_num,by rw[h0.out];exact hO1,hb⟩
   case round=>
    clear hb hO1;obtain⟨Wo,rfl⟩:∃Wo,Wo=wr:=⟨_,rfl⟩;obtain⟨k,hk,rfl,hO,hb⟩:=hrel;have hk0:(0:Int)≤(k:Int):=Int.natCast_nonneg _;by_cases hlt:k<rows.length
    ·have hk1:(k:Int)<(rows.length:Int):=(by omega);obtain⟨b,off,Ay,cy,rfl,-,d0,hS⟩:=Ez (hrow.out _ hb) hlt;have hs:=hide (hst.out k hlt);have hle:=hfl.out (k+1);have hl2:(gK rows k).length+rows[k].length≤200000000:=(by rw[hs.out,List.length_append]at hle;omega);obtain⟨Av,cv,rfl⟩:=aJ.form hO;have hsz:=hb.size;have hat:∀g,(Value.slice Av (gK rows k).length cv).ownBlock=some g→w.heap.size≤g:=fun g hg=>(aJ.lt hO g hg).1;clear hle;generalize rows[k]=x at*;generalize gK rows k=M at*;replace hO:=hide hO;go_wp2_with (at_builtin;go_loud (refine bB (R:=sD K1) rfl (.tmp 31) (.tmp 32) 36 rfl w.heap.size 69 ino _ 4 48 Tryz.underlying36 oJ je jg iQ rfl (by decide) (.slice Av M.length cv) (fun b=>b<w.heap.size) M rfl hO.out (.slice Ay x.length cy) x rfl hS (fun cs x h=>iP _ _ _ _ h) (by unfold maxLen;omega) (by omega) hsz (fun w' hg cs x hx=>Cg (Agree.grown hg (fun b hb=>⟨by have:=hK1 b hb;omega,fun e=>by have:=hat b e.symm;have:=hK1 b hb;omega⟩)) hx) ?_);intro v1 w6 hown1 hg1 jN);have hb6:=hb.grown hg1 hsz (fun g hg=>hat g hg);go_wp2;go_roundw;case rel=>exact⟨k+1,by omega,by go_num,by rw[hs.out];exact hown1,hb6⟩
     case measure=>simp[intOf];omega
    ·obtain rfl:k=rows.length:=(by omega);rw[hall.out]at hO;go_wp2;go_ret;exact⟨_,rfl,hO,hb⟩
end Go.Proofs.YtpjechjoijjhpaaGreatDoor
namespace Go.Proofs.YtpjechjoijjhpaaGreatDoor
open Go.RowKit Go.Inq
end Go.Proofs.YtpjechjoijjhpaaGreatDoor
namespace Go.Inq
def TY(H:List Txn)(level:Int)(l:List Cho):Bool:= !AL H.length (dW H level l)
end Go.Inq
namespace Go.Proofs.YtpjechjoijjhpaaGreatDoor
open Go.RowKit Go.Inq
def ND(H:List Txn)(level:Int):List Cho→List Cho→Bool
 |[],l=>TY H level l
 |c::P,l=>ND H level P (l++[c])||ND H level P (l++[bD c])
def hasB(H:List Txn)(level:Int):Bool:=ND H level (dD H) []
set_option maxHeartbeats 1000000
theorem NG{H:List Txn}{level:Int}{l:List Cho}{path:List Mk}{m:Mk}(h:gu H level l path m=true):dh H m.c=true:=by
 unfold gu at h;rw[Bool.and_eq_true,Bool.and_eq_true]at h;exact h.1.2
theorem G5{H:List Txn}{m:Mk}(h:dh H m.c=true):dh H m.chosen=true:=by
 unfold Mk.chosen;split
 ·exact D9 h
 ·exact h
theorem NH{H:List Txn}{level:Int}{l:List Cho}{path:List Mk}(h:jT H level l path path.length=true):∀c∈aK path,dh H c=true:=fun c hc=>by
 unfold aK at hc;obtain⟨m,hm,rfl⟩:=List.mem_map.1 hc;obtain⟨i,hi,rfl⟩:=List.getElem_of_mem hm;exact G5 (NG (iG.1 h i hi))
structure RiP(H:List Txn)(level:Int)(L:List Fct)(path:List Mk):Prop where
 len:L.length+path.length<20000
 uf:eu H level L=true
 marks:jT H level (ay L) path path.length=true
theorem iB{H:List Txn}{level:Int}{L:List Fct}{path:List Mk}:dF H level L path=true↔RiP H level L path:=by
 unfold dF;rw[Bool.and_eq_true,Bool.and_eq_true,decide_eq_true_eq];exact⟨fun h=>⟨h.1.1,h.1.2,h.2⟩,fun h=>⟨⟨h.len,h.uf⟩,h.marks⟩⟩
section
variable{H:List Txn}{level:Int}{L:List Fct}{path:List Mk}
theorem RiP.one(h:RiP H level L path):∀c∈ay L++aK path,dh H c=true:=fun c hc=>by
 rw[List.mem_append]at hc;exact hc.elim (Ej h.uf c) (NH h.marks c)
theorem RiP.snoc{m:Mk}(h:RiP H level L path)(hl:L.length+path.length+1<20000)(hm:gu H level (ay L) path m=true):RiP H level L (path++[m]):=
 ⟨by rw[List.length_append,List.length_singleton];omega,h.uf,by rw[GX,h.marks,hm];rfl⟩
end
def Qd(H:List Txn)(level:Int)(L:List Fct):Nat→List Mk→List Mk×Say
 |0,path=>(path,oC)
 |n+1,path=>if(dO H level L path).2.said=0 then Qd H level L n (dO H level L path).1 else dO H level L path
theorem qM(p:List Mk):bJ p.reverse=bJ p:=by
 unfold bJ;rw[List.map_reverse,List.sum_reverse]
theorem kK(m:Mk)(p:List Mk):bJ (m::p)=1+m.done.length+bJ p:=by unfold bJ;simp
theorem KJ{H:List Txn}{level:Int}{L:List Fct}:∀(r:List Mk) (tree:List Nod),jU tree→(∀m∈r,jU m.done)→
 bJ (dG H level L r tree).1≤bJ r+tree.length∧∀m∈(dG H level L r tree).1,jU m.done:=by
 intro r
 induction r with
 |nil=>intro tree _ _;exact⟨by simp[dG,bJ],fun m hm=>by simp[dG]at hm⟩
 |cons m r ih=>
  intro tree ht hr;unfold dG;split
  ·obtain⟨h1,h2⟩:=ih (⟨m.c,[]⟩::(m.done++tree)) (fun n hn=>by
    rw[List.mem_cons,List.mem_append]at hn;rcases hn with rfl|hn|hn
    ·simp
    ·exact hr m (by simp) n hn
    ·exact ht n hn) fun m' hm'=>hr m' (by simp[hm'])
   refine⟨?_,h2⟩;rw[kK];simp only[List.length_cons,List.length_append]at h1;omega
  ·refine⟨?_,fun m' hm'=> ?_⟩
   ·dsimp only;rw[qM,kK,kK];dsimp only;omega
   ·dsimp only at hm';rw[List.mem_reverse,List.mem_cons]at hm';rcases hm' with rfl|hm'
    ·exact ht
    ·exact hr m' (by simp[hm'])
theorem mH{H:List Txn}(hr:aG H=true)(level:Int)(row:List Cho):(iL H level row).length≤1000000:=by
 have hn:=((aD H).1 hr).1;unfold iL;rw[List.length_map];exact Nat.le_trans BZ (by omega)
theorem Ch{H:List Txn}{level:Int}{L:List Fct}{path:List Mk}(h:∀m∈path,jU m.done):
 bJ (dO H level L path).1≤bJ path+1∧∀m∈(dO H level L path).1,jU m.done:=by
 unfold dO;split
 ·rename_i hg;have hr:aG H=true:=(gQ.1 (dP (iB.1 hg).uf)).1;dsimp only;split
  ·obtain⟨h1,h2⟩:=KJ (H:=H) (level:=level) (L:=L) path.reverse [⟨dA,iL H level (ay L++aK path)⟩] (fun n hn=>by
    rw[List.mem_singleton]at hn;subst hn;exact mH hr _ _) fun m hm=>h m (List.mem_reverse.1 hm)
   rw[qM]at h1;exact⟨h1,h2⟩
  ·split
   ·exact⟨by dsimp only;omega,h⟩
   ·refine⟨by dsimp only;rw[nN];simp,fun m hm=> ?_⟩;dsimp only at hm;rw[List.mem_append,List.mem_singleton]at hm;rcases hm with hm|rfl
    ·exact h m hm
    ·intro n hn;simp at hn
 ·exact⟨by dsimp only;omega,h⟩
structure NI(H:List Txn)(level:Int)(L:List Fct)(N k:Nat)(path:List Mk)(F:List Mk×Say):Prop where
 le:k≤N
 size:bJ path≤k
 cyc:∀m∈path,jU m.done
 fin:F=Qd H level L (N-k) path
theorem NI.start{H:List Txn}{level:Int}{L:List Fct}{N:Nat}:NI H level L N 0 [] (Qd H level L N []):=⟨Nat.zero_le _,by simp[bJ],fun m hm=>by simp at hm,rfl⟩
theorem NI.step{H:List Txn}{level:Int}{L:List Fct}{N k:Nat}{path:List Mk}{F:List Mk×Say}(h:NI H level L N k path F)(hk:k<N){r:List Mk×Say}(hr:dO H level L path=r):
 (r.2.said=0→NI H level L N (k+1) r.1 F)∧(r.2.said≠0→F=r):=by
 obtain⟨h1,h2⟩:=Ch (H:=H) (level:=level) (L:=L) h.cyc;rw[hr]at h1 h2;have hf:=h.fin;rw[show N-k=(N-(k+1))+1 by omega]at hf;unfold Qd at hf;rw[hr]at hf;have hs:=h.size;refine⟨fun g=>⟨hk,by omega,h2,?_⟩,fun g=> ?_⟩
 ·rw[if_pos g]at hf;exact hf
 ·rw[if_neg g]at hf;exact hf
end Go.Proofs.YtpjechjoijjhpaaGreatDoor
namespace Go.Proofs.YtpjechjoijjhpaaGreatDoor
open Go Go.RowKit Go.Inq
set_option maxHeartbeats 4000000
def jo(w:World)(base:Nat)(v:Value)(l:List Nod):Prop:=aY w (TyK base [69,3] w) v l
section
variable{w w':World}{base:Nat}{v:Value}{l:List Nod}
theorem jo.ty{n0:Nat}{σ:List TypeId}(h:jo w base v l)(hT:TyW n0 σ w w')(h1:69∉σ)(h2:3∉σ):jo w' base v l:=by
 have hA:Agree (TyK base [69,3] w) w w':=hT.agree fun t ht hs=>by
  simp only[List.mem_cons,List.not_mem_nil,or_false]at ht;rcases ht with rfl|rfl
  ·exact h1 hs
  ·exact h2 hs
 exact aY.keep h hA fun _ g=>TyK.step hA g
theorem jo.below(h:jo w base v l)(hb:Below w.heap.size w w'):jo w' base v l:=h.ty (TyW.calm (σ:=[]) (n0:=0) hb (Nat.zero_le _)) (by simp) (by simp)
theorem jo.s(h:jo w base v l):aY w (Old w) v l:=aY.fit h fun _ g=>g.lt
theorem jo.form(h:jo w base v l):∃A c,v= .slice A l.length c:=by
 obtain⟨A,c,_,e,_⟩:=h;exact⟨A,c,e⟩
theorem dH.p(h:dH w base v l):jo w base v l:=dH.slK h
theorem jo.k{K':Nat→Prop}(h:jo w base v l)(hk:∀b,TyK base [69,3] w b→K' b):SlR 4 (sD (TyK base [69,3] w)) w K' v l:=by
 obtain⟨A,c,xs,h1,h2,h3,h4,h5⟩:=h;refine⟨A,c,xs,h1,h2,h3,h4,fun h0=> ?_⟩;obtain⟨b,off,e1,e2,e3⟩:=h5 h0;exact⟨b,off,e1,hk b e2,e3⟩
theorem jo.Vo{B:Nat}{K:Nat→Prop}(h:aJ 4 (sD (TyK base [69,3] w)) w' K B 69 v l)(hb:Below w.heap.size w w')(hB:base≤B):jo w' base v l:=by
 have hA:=TyK.below (base:=base) (τs:=[69,3]) hb (Nat.le_refl _);have h2:aJ 4 fu w' (TyK base [69,3] w') B 69 v l:=by
  obtain⟨ys,e1,e2,e3⟩:=h;refine⟨ys,e1,e2,fun i cs x g1 g2=>⟨(e3 i cs x g1 g2).1,?_⟩⟩;have:fu w' (TyK base [69,3] w) cs x:=(e3 i cs x g1 g2).2;exact fu.aS _ _ _ _ _ _ this (Agree.refl _ _) fun _ g=>TyK.step hA g
 refine h2.sl fun g hg=> ?_;obtain⟨cs,h3⟩:=h2.blk hg;exact⟨Nat.le_trans hB (h2.lt g hg).1,_,by simp,cs,h3⟩
theorem MkO.take{A:Option Addr}{n c k:Nat}{l:List Mk}(h:MkO w base (.slice A n c) l)(hk:k≤l.length):MkO w base (.slice A k c) (l.take k):=by
 obtain⟨ys,⟨h1,h2⟩,h3,h4⟩:=h;have hall:∀y∈ys,y.length=5:=fun y hy=>by
  obtain⟨i,hi,rfl⟩:=List.getElem_of_mem hy;exact(h4 i ys[i] (l[i]'(by omega)) (List.getElem?_eq_getElem hi) (List.getElem?_eq_getElem (by omega))).1
 have bK:∀y∈ys.take k,y.length=5:=fun y hy=>hall y (List.mem_of_mem_take hy);have hft:(ys.take k).flatten=ys.flatten.take (k*5):=by
  conv=>rhs;rw[←List.take_append_drop k ys,List.flatten_append]
  have e:=pY 5 (ys.take k) bK;rw[List.length_take,Nat.min_eq_left (by omega)]at e;rw[List.take_left' e]
 have hlk:(l.take k).length=k:=(by rw[List.length_take];omega);refine⟨ys.take k,⟨?_,?_⟩,by rw[List.length_take,List.length_take,h3],fun i cs x e1 e2=> ?_⟩
 ·rw[pY 5 _ bK,hlk,List.length_take];congr 1;omega
 ·rw[hlk];rcases h2 with⟨e,h5⟩|⟨g,cap,cur,hv,hg,hh,h6,h7,h8,h9⟩
  ·injection e with e1 e2 e3
   subst e1 e3;left;have hl0:l.length=0:=h5;obtain rfl:k=0:=(by omega);exact⟨rfl,rfl⟩
  ·right;simp only[Value.slice.injEq]at hv;obtain⟨rfl,rfl,rfl⟩:=hv;refine⟨g,c,cur,rfl,hg,hh,by omega,h7,h8,?_⟩;rw[hft,←h9,List.take_take,Nat.min_eq_left (by omega)]
 ·rw[List.getElem?_take]at e1 e2;split at e1
  ·rename_i hik;rw[if_pos hik]at e2;exact h4 i cs x e1 e2
  ·cases e1
theorem MkO.at_{A:Option Addr}{n c k:Nat}{l:List Mk}(h:MkO w base (.slice A n c) l)(hk:k<l.length):
 ∃g Ay cy,A=some ⟨g,0,none⟩∧base≤g∧jo w base (.slice Ay l[k].done.length cy) l[k].done∧(∃cs,Blk w g 64 cs)∧
  w.cell? ⟨g,k*5,none⟩=some (.int .i64 l[k].c.key)∧w.cell? ⟨g,k*5+1,none⟩=some (.int .i64 l[k].c.a)∧w.cell? ⟨g,k*5+2,none⟩=some (.int .i64 l[k].c.b)∧w.cell? ⟨g,k*5+3,none⟩=some (.bool l[k].right)∧w.cell? ⟨g,k*5+4,none⟩=some (.slice Ay l[k].done.length cy)∧
  ∀q At ct tree,jo w base (.slice At (List.length tree) ct) tree→MkO ((w.setCell ⟨g,k*5+3,none⟩ (.bool q)).setCell ⟨g,k*5+4,none⟩ (.slice At tree.length ct)) base (.slice A n c) (l.set k ⟨l[k].c,q,tree⟩):=by
 obtain⟨ys,h1,h2,h3⟩:=h;have hky:k<ys.length:=(by omega);obtain⟨g1,Ay,cy,hcs,hS⟩:=h3 k ys[k] l[k] (List.getElem?_eq_getElem hky) (List.getElem?_eq_getElem hk);have hall:∀y∈ys,y.length=5:=fun y hy=>by
  obtain⟨i,hi,rfl⟩:=List.getElem_of_mem hy;exact(h3 i ys[i] (l[i]'(by omega)) (List.getElem?_eq_getElem hi) (List.getElem?_eq_getElem (by omega))).1
 have hfl:=pY 5 ys hall;obtain⟨g,rfl,hg,⟨cs,hb,-⟩,hset⟩:=tY h1 (j:=k*5+3) (by omega);have hcell:∀j,j<5→w.cell? ⟨g,k*5+j,none⟩=ys[k][j]?:=fun j hj=>by
  obtain⟨g',e,-,⟨cs',hb',hc'⟩,-⟩:=tY h1 (j:=k*5+j) (by omega);injection e with e
  injection e with e1 e2
  subst e1;rw[hb'.cell,hc',List.getElem?_eq_getElem (by omega)];rw[←Dp 5 ys k j hall hky hj,List.getElem?_eq_getElem (by omega)]
 rw[hcs]at hcell;have e0:=hcell 0 (by omega);have e1:=hcell 1 (by omega);have e2:=hcell 2 (by omega);have e3:=hcell 3 (by omega);have e4:=hcell 4 (by omega);refine⟨g,Ay,cy,rfl,hg,hS,⟨cs,hb⟩,e0,e1,e2,e3,e4,fun q At ct tree hO=> ?_⟩;obtain⟨g',e,-,-,T9⟩:=tY (hset (.bool q)) (j:=k*5+4) (by rw[List.length_set];omega);injection e with e
 injection e with e5 e6
 subst e5;have hA1:Agree (TyK base [69,3] w) w (w.setCell ⟨g,k*5+3,none⟩ (.bool q)):=TyK.aH hb (by decide) _;have hA2:Agree (TyK base [69,3] w) w ((w.setCell ⟨g,k*5+3,none⟩ (.bool q)).setCell ⟨g,k*5+4,none⟩ (.slice At tree.length ct)):=TyK.trans hA1 (TyK.aH (hb.aH (k*5+3) (.bool q)) (by decide) _);have hys:(ys.flatten.set (k*5+3) (.bool q)).set (k*5+4) (.slice At tree.length ct)=(ys.set k ((ys[k].set 3 (.bool q)).set 4 (.slice At tree.length ct))).flatten:=by
  have bK:∀y∈ys.set k (ys[k].set 3 (.bool q)),y.length=5:=fun y hy=>by
   rcases List.mem_or_eq_of_mem_set hy with hy|rfl
   ·exact hall y hy
   ·rw[List.length_set];exact g1
  rw[tZ 5 ys k 3 _ hall hky (by omega),tZ 5 _ k 4 _ bK (by rw[List.length_set];exact hky) (by omega)];rw[List.getElem_set_self,List.set_set]
 refine⟨ys.set k ((ys[k].set 3 (.bool q)).set 4 (.slice At tree.length ct)),by rw[List.length_set,←hys];exact T9 _,by rw[List.length_set,List.length_set];exact h2,fun i cs x f1 f2=> ?_⟩;by_cases hik:i=k
 ·subst hik;rw[List.getElem?_set_self hky]at f1;rw[List.getElem?_set_self hk]at f2;injection f1 with f1
  injection f2 with f2
  subst f1 f2;refine⟨by rw[List.length_set,List.length_set];exact g1,?_⟩;rw[hcs];exact⟨At,ct,rfl,aY.keep hO hA2 fun _ g=>TyK.step hA2 g⟩
 ·rw[List.getElem?_set_ne (Ne.symm hik)]at f1 f2;obtain⟨q1,q2⟩:=h3 i cs x f1 f2;exact⟨q1,MkR.aS _ _ _ _ _ _ q2 hA2 fun _ g=>TyK.step hA2 g⟩
theorem take_set{α:Type}{l:List α}{k:Nat}(h:k<l.length)(x:α):(l.take (k+1)).set k x=l.take k++[x]:=by
 rw[List.take_succ_eq_append_getElem h,List.set_append,List.length_take,if_neg (by omega),Nat.min_eq_left (by omega)];simp
end
end Go.Proofs.YtpjechjoijjhpaaGreatDoor
