/-
  Walks: layer 22: what facts choose.
-/
import Derived.Test.YtfhnamomiaekdaaGreatDoorY08
import Derived.Test.YtfhnamomiaekdaaGreatDoorY05
import Derived.Test.YtfhnamomiaekdaaGreatDoorY09
import Derived.Test.YtfhnamomiaekdaaGreatDoorY07
set_option linter.unusedVariables false
set_option linter.unusedSimpArgs false
namespace Go.Proofs.YtfhnamomiaekdaaGreatDoor
open Go.RowKit Go.Inq
set_option maxHeartbeats 4000000
attribute [local go_sem↓] Go.wp_at_zero Go.wp_at_succ
theorem uy{L:List Fct}{k:Nat}(h:k<L.length):ak (L.take (k+1))=ak (L.take k)++[L[k].c]:=by rw[List.take_succ_eq_append_getElem h,EG]
set_option maxRecDepth 100000 in
theorem gU(A:Option Addr)(c:Nat)(L:List Fct)(w:World)(h:bF w (Old w) (.slice A L.length c) L)(hn:L.length≤1000000):
 Calls Tryz.prog 54 #[.slice A L.length c] w (Kq w (ak L)):=by
 obtain⟨ic,hic,hi1,hi2,hi3⟩:=info_parts mP;have hst:=hide (fun k (hk:k<L.length)=>uy hk);have hall:=hide (show ak (L.take L.length)=ak L by rw[List.take_length]);replace h:=hide h;go_enter Tryz.func54,Tryz.ntmps54;go_wp2_with fail;go_loopw [3,8] (fun s3 s8 wr=>∃k:Nat,k≤L.length∧s8= .int .i64 k∧dw wr w.heap.size s3 (ak (L.take k))∧Below w.heap.size w wr) (fun _ s8 _=>L.length-(intOf s8).toNat);case atStart=>exact⟨0,Nat.zero_le _,by go_num,dw.nil _ _,Below.refl _ _⟩
 case round=>
  obtain⟨Wo,rfl⟩:∃Wo,Wo=wr:=⟨_,rfl⟩;obtain⟨k,hk,rfl,hown,hb⟩:=hrel;have hk1:(0:Int)≤(k:Int):=Int.natCast_nonneg _;by_cases hlt:k<L.length
  ·have hk2:(k:Int)<(L.length:Int):=(by omega);obtain⟨b,off,Ay,cy,rfl,-,d⟩:=(h.out.below hb).at_ hlt;obtain⟨d0,d1,d2,d3,d4,d5,d6,-⟩:=d;have hs:=hide (hst.out k hlt);have hl2:(ak (L.take k)).length≤1000000:=(by rw[bM,List.length_take];omega);generalize L[k]=f at*;obtain⟨⟨fk,fa,fb⟩,fd,fi,fj,fy⟩:=f;dsimp only at d0 d1 d2 d3 d4 d5 d6 hs;obtain⟨Av,cv,rfl⟩:=hown.form;generalize ak (L.take k)=M at*;have qN:=hb.size;have hA:=ah hb (W:=Wo.alloc (.cells #[.int .i64 fk,.int .i64 fa,.int .i64 fb,.int .i64 fd,.int .i64 fi,.int .i64 fj,.slice Ay fy.length cy] 104)) rfl qN;have hown2:=hide (World.ownsRow.alloc hown (.cells #[.int .i64 fk,.int .i64 fa,.int .i64 fb,.int .i64 fd,.int .i64 fi,.int .i64 fj,.slice Ay fy.length cy] 104));clear hown;go_upto_region 5 with fail;generalize hWa:Wo.alloc (.cells #[.int .i64 fk,.int .i64 fa,.int .i64 fb,.int .i64 fd,.int .i64 fi,.int .i64 fj,.slice Ay fy.length cy] 104)=Wa at*;have nn:=Blk.newEq hWa;have hsa:=hA.size;clear hWa d0 d1 d2 d3 d4 d5 d6;have e0:=Blk.n0 nn;have e1:=Blk.n1 nn;have e2:=Blk.n2 nn;go_wp2_with (at_builtin;refine aT (enc:=jJ) rfl (.tmp 12) (.tmp 15) 65 rfl w.heap.size 102 ic _ 3 24 Tryz.underlying65 hic hi1 hi2 hi3 rfl (by decide) (.slice Av M.length cv) M rfl hown2.out (fun _=>rfl) (⟨fk,fa,fb⟩:Cho) _ rfl rfl iG (by simp[maxLen];omega) (by omega) hsa w w.heap.size (Nat.le_refl _) hA ?_;intro v1 w6 hown1 hg1 hb1 ji);go_wp2;go_roundw;case rel=>exact⟨k+1,by omega,by go_num,by rw[hs.out];exact hown1,hb1⟩
   case measure=>simp[intOf];omega
  ·obtain rfl:k=L.length:=(by omega);rw[hall.out]at hown;go_wp2;go_ret;exact⟨_,rfl,hown,hb⟩
end Go.Proofs.YtfhnamomiaekdaaGreatDoor
namespace Go.Inq
open Go Go.RowKit
def TyK(base:Nat)(τs:List TypeId)(w:World):Nat→Prop:=fun b=>base≤b∧∃t,t∈τs∧∃cs,Blk w b t cs
section
variable{base:Nat}{τs:List TypeId}{w w' w1 w2:World}
theorem TyK.lt{b:Nat}(h:TyK base τs w b):b<w.heap.size:=by
 obtain⟨_,t,_,cs,h⟩:=h;exact h.lt
theorem TyK.step(ha:Agree (TyK base τs w) w w'){b:Nat}(h:TyK base τs w b):TyK base τs w' b:=by
 obtain⟨h1,t,h2,cs,h3⟩:=h;exact⟨h1,t,h2,cs,(ha b ⟨h1,t,h2,cs,h3⟩).trans h3⟩
theorem TyK.trans(ha:Agree (TyK base τs w) w w1)(hb:Agree (TyK base τs w1) w1 w2):Agree (TyK base τs w) w w2:=fun b h=>(hb b (TyK.step ha h)).trans (ha b h)
theorem TyK.below{B:Nat}(hb:Below B w w')(hB:w.heap.size≤B):Agree (TyK base τs w) w w':=Agree.below hb fun _ h=>Nat.lt_of_lt_of_le h.lt hB
theorem TyK.alloc(o:Obj):Agree (TyK base τs w) w (w.alloc o):=Agree.alloc (fun _ h=>h.lt) o
theorem TyK.off{g:Nat}{t:TypeId}{cs:Array Value}(hk:Blk w g t cs)(ht:t∉τs):¬TyK base τs w g:=fun h=>by
 obtain⟨_,t',h1,cs',h2⟩:=h;have:=hk.symm.trans h2;simp at this;exact ht (this.2▸h1)
theorem TyK.aD{g i:Nat}{t:TypeId}{cs:Array Value}(hk:Blk w g t cs)(ht:t∉τs)(u:Value):Agree (TyK base τs w) w (w.setCell ⟨g,i,none⟩ u):=
 Agree.setCell ⟨g,i,none⟩ (TyK.off hk ht) u
theorem TyK.drew:Agree (TyK base τs w) w w.drew:=Agree.drew _ _
end
section
variable{α:Type}{size:Nat}{R:World→(Nat→Prop)→List Value→α→Prop}{w w':World}{K K':Nat→Prop}{base:Nat}{e:TypeId}{v:Value}{l:List α}{τs:List TypeId}
theorem sH{n:Nat}{xs:List Value}(h:w.ownsRow base e size v n xs){g:Nat}(hg:v.ownBlock=some g):∃cs,Blk w g e cs:=by
 rcases h.2 with⟨h2,_⟩|⟨g',cap,cur,h2,_,hh,_⟩
 ·rw[h2]at hg;simp[Value.ownBlock]at hg
 ·rw[h2]at hg;simp[Value.ownBlock]at hg;subst hg;exact⟨cur,hh⟩
theorem aW.blk(h:aW size R w K base e v l){g:Nat}(hg:v.ownBlock=some g):∃cs,Blk w g e cs:=by
 obtain⟨ys,h1,_⟩:=h;exact sH h1 hg
theorem aW.ne(h:aW size R w K base e v l){g:Nat}{t:TypeId}{cs:Array Value}(hk:Blk w g t cs)(ht:t≠e):v.ownBlock≠some g:=fun hg=>by
 obtain⟨cs',h4⟩:=h.blk hg;have:=hk.symm.trans h4;simp at this;exact ht this.2
theorem aW.Gs(hR:jD R)(h:aW size R w (TyK base τs w) base e v l)(ha:Agree (TyK base τs w) w w')(hr:∀g,v.ownBlock=some g→w'.heap[g]?=w.heap[g]?):aW size R w' (TyK base τs w') base e v l:=
 aW.keep hR h ha (fun _ g=>TyK.step ha g) hr
theorem aW.KJ(hR:jD R){B:Nat}(h:aW size R w (TyK base τs w) base e v l)(hb:Below B w w')(hB:w.heap.size≤B):aW size R w' (TyK base τs w') base e v l:=
 h.Gs hR (TyK.below hb hB) fun g hg=>hb.block g (Nat.lt_of_lt_of_le (h.lt g hg).2 hB)
theorem aW.PY(hR:jD R)(h:aW size R w (TyK base τs w) base e v l):aW size R w.drew (TyK base τs w.drew) base e v l:=h.Gs hR TyK.drew fun _ _=>rfl
theorem aW.PZ(hR:jD R)(h:aW size R w (TyK base τs w) base e v l){g i:Nat}{t:TypeId}{cs:Array Value}(hk:Blk w g t cs)(h1:t∉τs)(h2:t≠e)(u:Value):aW size R (w.setCell ⟨g,i,none⟩ u) (TyK base τs (w.setCell ⟨g,i,none⟩ u)) base e v l:=
 h.Gs hR (TyK.aD hk h1 u) fun k hk2=>Below.heap_setCell w ⟨g,i,none⟩ u k (fun e'=>h.ne hk h2 (by rw[hk2];exact congrArg some e'))
theorem aW.NK(hR:jD R)(h:aW size R w (TyK base τs w) base e v l):SlR size R w (Old w) v l:=by
 have h2:aW size R w (Old w) base e v l:=aW.keep hR h (Agree.refl _ _) (fun _ g=>g.lt) fun _ _=>rfl;exact h2.sl fun g hg=>(h.lt g hg).2
theorem cO{base' n:Nat}{xs:List Value}(h:w.ownsRow base e size v n xs)(hb:base'≤base):w.ownsRow base' e size v n xs:=by
 refine⟨h.1,?_⟩;rcases h.2 with h2|⟨g,cap,cur,hv,hg,r⟩
 ·exact .inl h2
 ·exact .inr ⟨g,cap,cur,hv,by omega,r⟩
theorem aW.NM(hR:jD R){base':Nat}(h:aW size R w (TyK base τs w) base e v l)(hb:base'≤base):aW size R w (TyK base' τs w) base' e v l:=by
 obtain⟨ys,h1,h2,h3⟩:=h;exact⟨ys,cO h1 hb,h2,fun i cs x e1 e2=>⟨(h3 i cs x e1 e2).1,hR _ _ _ _ _ _ (h3 i cs x e1 e2).2 (Agree.refl _ _) fun b g=>⟨Nat.le_trans hb g.1,g.2⟩⟩⟩
end
theorem wE{α:Type}{size:Nat}{enc:α→List Value}{w:World}{base:Nat}{e:TypeId}{v:Value}{l:List α}{τs:List TypeId}(h:w.ownsRow base e size v l.length (l.map enc).flatten)(hs:∀x,(enc x).length=size)(he:e∈τs):SlR size (Flat enc) w (TyK base τs w) v l:=by
 have h2:aW size (Flat enc) w (TyK base τs w) base e v l:=aW.flat h hs;refine h2.sl fun g hg=> ?_;obtain⟨cs,h3⟩:=h2.blk hg;exact⟨(h2.lt g hg).1,e,he,cs,h3⟩
theorem sI {P:Program} {W:World} {ops:Array Oper} {rest:List Oper} {o:Oper} {a:Act} {Q:Exit→Act→World→Prop} {α:Type} {R:World→(Nat→Prop)→List Value→α→Prop}
 (hR:jD R) (hone:∀w K cs x,R w K cs x→∀u∈cs,u.oneCell'=true)
 (hgd:o.guard=none) (s x:Operand) (t:TypeId) (ho:o.op= .call {callee:= .builtin .append,args:=#[s,x],argTypes:=#[t,t]})
 (base:Nat) (e:TypeId) (i:TypeInfo) (z:Value) (size bytes:Nat) (ht:P.underlying t=some (.slice e)) (hi:P.info? e=some i) (hz:i.zero=some z)
 (hsize:i.size=size) (hby:i.bytes=bytes) (hzs:z.cells.size=size) (hsz:0<size)
 (τs:List TypeId) (hτ:e∉τs) (v:Value) (l:List α) (hs:a.eval s=v) (hown:aW size R W (TyK base τs W) base e v l)
 (cs:Array Value) (x0:α) (hcs:cs.size=size) (hrow:R W (TyK base τs W) cs.toList x0)
 (hx:a.eval x= .slice (some ⟨W.heap.size,0,none⟩) 1 1) (h63:l.length+1≤maxLen) (hbytes:(l.length+1)*bytes≤140737488355328) (hbase:base≤W.heap.size) (w0:World) (B:Nat) (hB:B≤base) (hb:Below B w0 W)
 (h:∀v' w',aW size R w' (TyK base τs w') base e v' (l++[x0])→Agree (TyK base τs W) W w'→Below B w0 w'→(∀g,v'.ownBlock=some g→v.ownBlock=some g∨W.heap.size≤g)→(∀g t cs,Blk W g t cs→t≠e→Blk w' g t cs)→wpList P ops Q rest (a.put o.dst v') w'):
 wpList P ops Q (o::rest) a (W.alloc (.cells cs e)):=by
 have hown0:=hown;obtain⟨ys,h1,h2,h3⟩:=hown;have hq:∀y∈ys,y.length=size∧∀u∈y,u.oneCell'=true:=fun y hy=>by
  obtain⟨j,hj,rfl⟩:=List.getElem_of_mem hy;obtain⟨g1,g2⟩:=h3 j ys[j] (l[j]'(by omega)) (List.getElem?_eq_getElem hj) (List.getElem?_eq_getElem (by omega));exact⟨g1,hone _ _ _ _ g2⟩
 let enc:{y:List Value//y.length=size∧∀u∈y,u.oneCell'=true}→List Value:=fun y=>y.1
 let ts:List {y:List Value//y.length=size∧∀u∈y,u.oneCell'=true}:=ys.pmap Subtype.mk hq
 have hts:ts.map enc=ys:=by
  show(ys.pmap Subtype.mk hq).map (fun y=>y.1)=ys;rw[List.map_pmap,List.pmap_eq_map,List.map_id']
 have htl:ts.length=l.length:=(by rw[←h2,←hts,List.length_map]);have hlt:=h1.lt;have hc0:cs.toList.length=size∧∀u∈cs.toList,u.oneCell'=true:=⟨by simpa using hcs,hone _ _ _ _ hrow⟩;have hA0:Agree (TyK base τs W) W (W.alloc (.cells cs e)):=TyK.alloc _;have hblk:∀b,TyK base τs W b→v.ownBlock≠some b:=fun b hb e'=>by
  obtain⟨cs',g2⟩:=sH h1 e';exact TyK.off g2 hτ hb
 refine aT (enc:=enc) hgd s x t ho base e i z size bytes ht hi hz hsize hby hzs hsz v ts hs (by rw[htl,hts];exact h1) (fun y=>y.2.1) ⟨cs.toList,hc0⟩ cs rfl hx (fun y=>y.2.2) (by omega) (by rw[htl];exact hbytes) hbase w0 B hB hb ?_;intro v' w' g1 g2 g3 g4;have hA1:Agree (TyK base τs W) W w':=hA0.trans (Agree.grown g2 fun b hb=>⟨by have:=hb.lt;simp;omega,fun e'=>hblk b hb e'.symm⟩);rw[List.map_append,hts,List.length_append,htl]at g1;refine h v' w' ⟨ys++[cs.toList],by rw[List.length_append];exact g1,by simp[h2],fun j y x' e1 e2=> ?_⟩ hA1 g3 ?_ (fun g t cs hk ht=>(hk.alloc _).grown g2 fun e'=> ?_)
 ·by_cases hj:j<ys.length
  ·rw[List.getElem?_append_left hj]at e1;rw[List.getElem?_append_left (by omega)]at e2;obtain⟨q1,q2⟩:=h3 j y x' e1 e2;exact⟨q1,hR _ _ _ _ _ _ q2 hA1 fun _ g=>TyK.step hA1 g⟩
  ·rw[List.getElem?_append_right (by omega)]at e1 e2;have hj0:j-ys.length=0:=by
    rcases Nat.eq_zero_or_pos (j-ys.length)with e'|e'
    ·exact e'
    ·rw[List.getElem?_eq_none (by simp;omega)]at e1;cases e1
   rw[hj0]at e1;rw[show j-l.length=0 by omega]at e2;simp at e1 e2;subst e1 e2;exact⟨hc0.1,hR _ _ _ _ _ _ hrow hA1 fun _ g=>TyK.step hA1 g⟩
 ·intro g hg;rcases g4 with e'|e'
  ·exact .inl (e'▸hg)
  ·right;rw[e']at hg;injection hg with hg
   omega
 ·obtain⟨cs',h4⟩:=sH h1 e'.symm;have:=hk.symm.trans h4;simp at this;exact ht this.2
end Go.Inq
namespace Go.Proofs.YtfhnamomiaekdaaGreatDoor
open Go.RowKit Go.Inq
set_option maxHeartbeats 8000000
attribute [local go_sem↓] Go.wp_at_zero Go.wp_at_succ
set_option maxRecDepth 100000 in
theorem Bd(A:Option Addr)(c:Nat)(H:List Txn)(level:Int)(Al:Option Addr)(cl:Nat)(L:List Fct)(f:Fct)(Ac:Option Addr)(cc:Nat)(w:World)(h:aF w (Old w) (.slice A H.length c) H)(hn:aB H)(hL:bF w (Old w) (.slice Al L.length cl) L)(hl:L.length≤1000000)(hy:aI w (Old w) (.slice Ac f.cyc.length cc) f.cyc)(hyl:f.cyc.length≤1000000):
 Calls Tryz.prog 183 #[.agg #[.slice A H.length c,.int .i64 level,.slice Al L.length cl,.int .i64 f.c.key,.int .i64 f.c.a,.int .i64 f.c.b,.int .i64 f.kind,.int .i64 f.i,.int .i64 f.j,.slice Ac f.cyc.length cc]] w fun e w'=>e= .returned (.bool (Ck H level L f))∧Below w.heap.size w w':=by
 obtain⟨ic,hic,hi1,hi2,hi3⟩:=info_parts mP;obtain⟨⟨key,a,b⟩,kind,i,j,cyc⟩:=f;dsimp only at hy hyl⊢;obtain⟨W0,hW0⟩:∃W0,w.alloc (.cells #[.slice A H.length c,.int .i64 level,.slice Al L.length cl,.int .i64 key,.int .i64 a,.int .i64 b,.int .i64 kind,.int .i64 i,.int .i64 j,.slice Ac cyc.length cc] 190)=W0:=⟨_,rfl⟩;have hB:=ah (Below.refl w.heap.size w) hW0 (Nat.le_refl _);have k0:=Blk.newEq hW0;obtain⟨r,hr⟩:∃r,Ck H level L ⟨⟨key,a,b⟩,kind,i,j,cyc⟩=r:=⟨_,rfl⟩;have hre:Hid (r=(decide (i=0)&&decide (j=0)&&kD H level (ak L++[⟨key,b,a⟩]) cyc)):=hide hr.symm;rw[hr];have hcs:=hide (fun W (hb:Below w.heap.size w W)=>gU Al cl L W (hL.below hb) hl);have hMl:(ak L).length≤1000000:=(by rw[bM];exact hl);have hrg:=hide (fun W (hb:Below w.heap.size w W) Al' cl' (hC:bq W (Old W) (.slice Al' (ak L++[(⟨key,b,a⟩:Cho)]).length cl') (ak L++[⟨key,b,a⟩]))=>Ey A c H level Al' cl' (ak L++[⟨key,b,a⟩]) Ac cc cyc W (h.below hb) hn hC (by rw[List.length_append,List.length_singleton];omega) (hy.below hb) (by omega));generalize kD H level (ak L++[⟨key,b,a⟩]) cyc=q at*;generalize ak L=M at*;have c2:=Blk.n2 k0;clear hr h hL hy c2;go_enter Tryz.func183,Tryz.ntmps183;go_upto_region 1 with fail;clear hW0;refine bJ W0.heap.size [wV (.pointer (some ⟨w.heap.size,2,none⟩)),wV (.slice Al L.length cl),wO W0.heap.size 102 3 M.length (M.map jJ).flatten,wV (.pointer (some ⟨w.heap.size,3,none⟩)),wV (.pointer (some ⟨w.heap.size,3,none⟩)),wV (.pointer (some ⟨w.heap.size,3,none⟩)),wV (.int .i64 key),wV (.pointer (some ⟨w.heap.size,3,none⟩)),wV (.pointer (some ⟨w.heap.size,3,none⟩)),wV (.pointer (some ⟨w.heap.size,5,none⟩)),wV (.int .i64 b),wV (.pointer (some ⟨w.heap.size,3,none⟩)),wV (.pointer (some ⟨w.heap.size,3,none⟩)),wV (.pointer (some ⟨w.heap.size,4,none⟩)),wV (.int .i64 a),wV (.agg #[.int .i64 key,.int .i64 b,.int .i64 a]),wS W0.heap.size 102 1 #[.int .i64 key,.int .i64 b,.int .i64 a],wO W0.heap.size 102 3 (M++[(⟨key,b,a⟩:Cho)]).length ((M++[(⟨key,b,a⟩:Cho)]).map jJ).flatten,wO W0.heap.size 102 3 (M++[(⟨key,b,a⟩:Cho)]).length ((M++[(⟨key,b,a⟩:Cho)]).map jJ).flatten] [[],[0],[1],[],[3],[4],[5],[],[7],[8],[9],[],[11],[12],[13],[6,10,14],[15],[2,16],[17]] [[],[],[],[],[],[],[],[],[],[],[],[],[],[],[],[],[],[102],[]] [[],[],[102],[],[],[],[],[],[],[],[],[],[],[],[],[],[102],[102],[102]] [] [102] (Nat.le_refl _) (by kernel_rfl) (by kernel_rfl) (by kernel_rfl) (by kernel_rfl) (by kernel_rfl) (by kernel_rfl) rfl trivial (by kernel_rfl) (by kernel_rfl) ?hstep ?hend;case hstep=>
  simp only[gP,fM,RsT,acV,wV,wO,wS,wB,wU,dh,gA,gZ,gS,List.getD_cons_zero,List.getD_cons_succ,List.getD_nil,Act.put,sA,sZ,sS,Nat.zero_add,Nat.reduceAdd,if_true,and_true];refine⟨?_,?_,?o2,?_,?_,?_,?_,?_,?_,?_,?_,?_,?_,?_,?_,?_,?o16,?o17,?o18⟩;all_goals intro vs W R hR hT hd
  all_goals have hsz:=hT.size
  all_goals have hbW:=hB.trans (hT.below.mono hB.size)
  all_goals have kq:=hT.blk k0 (by decide)
  all_goals have c2:=kq.cell 2
  all_goals have c3:=kq.cell 3
  all_goals have c4:=kq.cell 4
  all_goals have c5:=kq.cell 5
  all_goals simp only[gA,gZ,gS]at c2 c3 c4 c5
  case o2=>
   rw[hd];go_wp2_with fail;refine(hcs.out W hbW).mono ?_;rintro e W2 ⟨v,rfl,hv,hb2⟩;go_wp2;exact⟨rfl,_,rfl,hR _ _ (cO hv hsz) (TyW.calm hb2 hsz)⟩
  case o16=>
   go_wp2;exact⟨rfl,_,rfl,hR _ _ ⟨W.heap.size,hsz,rfl,Blk.new _ _ _⟩ (TyW.calm ((Below.refl _ _).alloc (Nat.le_refl _) _) hsz)⟩
  case o17=>
   obtain⟨o2,g,hg,e16,kg⟩:=hd;rw[e16];refine dM (enc:=jJ) rfl (.tmp 6) (.tmp 20) 65 rfl W0.heap.size 102 ic _ 3 24 Tryz.underlying65 hic hi1 hi2 hi3 rfl (by decide) (vs 2) (fun b=>b=g) M rfl o2 (fun _=>rfl) (.slice (some ⟨g,0,none⟩) 1 1) [(⟨key,b,a⟩:Cho)] rfl (SlR.one kg rfl rfl rfl) iG (by simp[maxLen];omega) (by simp;omega) hsz ?_;intro v6 W6 hown6 EJ P5;exact⟨rfl,_,rfl,hR _ _ hown6 (TyW.grown o2 EJ (by simp) (Nat.le_refl _) hsz)⟩
  case o18=>
   go_wp2;exact⟨rfl,_,rfl,hR _ _ hd (TyW.refl _ _ _)⟩
  all_goals (go_wp2;exact⟨rfl,_,rfl,hR _ _ (by first|rfl|trivial) (TyW.refl _ _ _)⟩)
 case hend=>
  intro vs W hT hd;have o18:dw W W0.heap.size (vs 18) (M++[(⟨key,b,a⟩:Cho)]):=hd 18 (by simp) (by kernel_rfl);have hsz:=hT.size;have hbW:=hB.trans (hT.below.mono hB.size);have kq:=hT.blk k0 (by decide);simp only[acV,gA,gZ,gS,Act.put,sA,sZ,sS,List.length_cons,List.length_nil,Nat.reduceAdd];generalize M++[(⟨key,b,a⟩:Cho)]=N at*;obtain⟨A18,c18,e18⟩:=o18.form;have hC:=hrg.out W hbW A18 c18 (e18▸o18.sl (K:=Old W) fun g _ h=>h);rw[e18];have c0:=Blk.n0 kq;have c1:=Blk.n1 kq;have c7:=Blk.n7 kq;have c8:=Blk.n8 kq;have c9:=Blk.n9 kq;replace hC:=hide hC;clear hd o18 e18 hrg hcs kq k0 hT;by_cases h1:i=0
  ·by_cases h2:j=0
   ·have hrq:r=q:=(by rw[hre.out];simp[h1,h2]);have g1:(i==0)=true:=(by simp[h1]);have g2:(j==0)=true:=(by simp[h2]);subst hrq;clear h1 h2 hre;go_wp2_with fail;refine hC.out.mono ?_;rintro e w1 ⟨rfl,hb1⟩;go_wp2;go_ret;exact⟨rfl,hbW.trans (hb1.mono hbW.size)⟩
   ·have hrq:r=false:=(by rw[hre.out];simp[h2]);have g1:(i==0)=true:=(by simp[h1]);have g2:(j==0)=false:=(by simp[h2]);subst hrq;clear h1 h2 hre;go_wp2;go_ret;exact⟨rfl,hbW⟩
  ·have hrq:r=false:=(by rw[hre.out];simp[h1]);have g1:(i==0)=false:=(by simp[h1]);subst hrq;clear h1 hre;go_wp2;go_ret;exact⟨rfl,hbW⟩
end Go.Proofs.YtfhnamomiaekdaaGreatDoor
