/-
  Walks: event.Right, and the references of layers 1 and 3 that tell whether an event may be.
-/
import Derived.Test.YtfhnamomiaekdaaGreatDoorProg
import Derived.Laws.CopyOwn
import Derived.Laws.BitsAllLaws
import Derived.Laws.Shifts
import Derived.Lib.TrailingZeros
import Derived.Laws.Bits64b
import Derived.Maps.OwnIn
import Derived.Test.YtfhnamomiaekdaaGreatDoorQ01
import Derived.Test.YtfhnamomiaekdaaGreatDoorQ03
set_option linter.unusedVariables false
set_option linter.unusedSimpArgs false
namespace Go.Proofs.YtfhnamomiaekdaaGreatDoor
open Go.RowKit Go.Inq
set_option maxHeartbeats 400000
end Go.Proofs.YtfhnamomiaekdaaGreatDoor
namespace Go.Proofs.YtfhnamomiaekdaaGreatDoor
open Go.RowKit Go.Inq
set_option maxHeartbeats 1000000
attribute [local go_sem↓] Go.wp_at_zero Go.wp_at_succ
def aC(l:List Txn):Prop:=l.length≤1000000∧∀t∈l,t.writes.length≤1000000∧t.reads.length≤1000000
end Go.Proofs.YtfhnamomiaekdaaGreatDoor
namespace Go.Proofs.YtfhnamomiaekdaaGreatDoor
open Go.RowKit Go.Inq Go.Shelf
set_option maxHeartbeats 4000000
attribute [local go_sem] Oper.semAt_some
attribute [local go_sem↓] Go.wp_at_zero Go.wp_at_succ
theorem AZ(v:Value)(w:World):Calls Tryz.prog 125 #[.agg #[v]] w fun e w'=>e= .returned (.func (.func 190) #[] #[.pointer (some ⟨w.heap.size,0,none⟩)])∧w'=w.alloc (.cells #[v] 24):=by
 go_enter Tryz.func125,Tryz.ntmps125;go_wp2;go_ret;exact⟨rfl,rfl⟩
theorem xX(Bh n₀ c:Nat)(A:Option Addr)(H:List Txn)(hn:aC H)(w:World)(hBn:Bh<n₀)(hnW:n₀≤w.heap.size)(hc:w.cell? ⟨Bh,0,none⟩=some (.slice A H.length c))(hT:av w (fun b=>b<n₀) (.slice A H.length c) H):
 SeqStopsK Fence.wide (3-1) Tryz.prog 190 #[.pointer (some ⟨Bh,0,none⟩)] (fun x:Bool=>#[Value.bool x]) (cB n₀) (fun ys=>ys=dK H) (fun pre=>pre<+:dK H) (dK H).length w:=fun l J Jx W hW hJ _ hY h0=>
 Dr (3-1) (by omega) l Bh n₀ c A H hn.1 hn.2 J Jx W hJ hY ((hW.cell (p:=⟨Bh,0,none⟩) (by show Bh<_;omega)).trans hc) hBn (Nat.le_trans hnW hW.size) (av.keep hT (Agree.below hW fun b h=>by omega) (fun b h=>h)) h0
set_option maxRecDepth 100000 in
theorem cK(A:Option Addr)(c:Nat)(H:List Txn)(w:World)(h:av w (Old w) (.slice A H.length c) H)(hn:aC H):
 Calls Tryz.prog 67 #[.agg #[.slice A H.length c]] w fun e w'=>e= .returned (.bool (aA H))∧Below w.heap.size w w':=by
 refine(callsIn_wide (n:=3)).1 ?_;have hro:Fence.wide.round=none:=rfl;refine callsIn_of_wp_marks Tryz.func67 rfl trivial ?_ hro;simp only[Tryz.ntmps67,List.size_toArray,List.length_cons,List.length_nil,Nat.reduceAdd,Nat.reduceSub,Array.replicate_succ,Array.replicate_zero,List.push_toArray,List.append_toArray,List.nil_append,List.cons_append]
 gi_wp2_with fail
 refine⟨trivial,?_⟩;refine(callsIn_wide.2 (AZ _ _)).mono ?_;rintro e w1 ⟨rfl,rfl⟩;dsimp only
 gi_wp2
 obtain⟨W0,hW0⟩:∃W0,((w.alloc (.cells #[.slice A H.length c] 24)).alloc (.cells #[.bool false] 4)).alloc (.cells #[.slice A H.length c] 24)=W0:=⟨_,rfl⟩;have hs0:W0.heap.size=w.heap.size+3:=(by rw[←hW0];simp);have hBW:Below w.heap.size w W0:=(by rw[←hW0];exact(((Below.refl _ w).alloc (Nat.le_refl _) _).alloc (by simp) _).alloc (by simp;omega) _);have k1:Blk W0 (w.heap.size+1) 4 #[.bool false]:=by
  rw[←hW0];have:=Blk.new (w.alloc (.cells #[.slice A H.length c] 24)) 4 #[.bool false];simp only[World.size_alloc]at this;exact this.alloc _
 have k2:Blk W0 (w.heap.size+2) 24 #[.slice A H.length c]:=by
  rw[←hW0];have:=Blk.new ((w.alloc (.cells #[.slice A H.length c] 24)).alloc (.cells #[.bool false] 4)) 24 #[.slice A H.length c];simp only[World.size_alloc]at this;exact this
 simp only[World.size_alloc];rw[hW0];have h2:av W0 (fun b=>b<w.heap.size) (.slice A H.length c) H:=av.keep h (Agree.below hBW fun b h=>h) (fun b h=>h);have c2:=Blk.n0 k2;have c1:=Blk.n0 k1;have f1:=k1.frozen 0;clear hW0;refine wpIn_rangeFunc_ownF hro (by omega) (gf:=190) (lb:=#[.pointer (some ⟨w.heap.size+2,0,none⟩)]) rfl trivial (enters_of Tryz.func190 (by kernel_rfl) rfl)
  (xX (w.heap.size+2) (w.heap.size+3) c A H hn W0 (by omega) (by omega) c2 (av.fit h2 (fun b h=>by omega))) cB.t (cB.b (by omega)) (Below.refl _ _) (fun _=>rfl)
  (fun pre W=>((pre.all id=true)∧W.cell? ⟨w.heap.size+1,0,none⟩=some (.bool false)∧W.frozen? ⟨w.heap.size+1,0,none⟩=false)∧Below w.heap.size w W)
  (fun cc pre W=>(cc= .ret∧false∈pre∧W.cell? ⟨w.heap.size+1,0,none⟩=some (.bool false))∧Below w.heap.size w W)
  (OwnFrom.and (Own.from (fun s A B row hs hg hr=>⟨hs.1,cell_kept hs.2.1 hg hr,(frozen_kept hs.2.1 hg hr).trans hs.2.2⟩) _) (ownFrom_below (Nat.le_refl _) (by omega)))
  (fun cc=>OwnFrom.and (Own.from (fun s A B row hs hg hr=>⟨hs.1,hs.2.1,cell_kept hs.2.2 hg hr⟩) _) (ownFrom_below (Nat.le_refl _) (by omega)))
  ⟨⟨rfl,c1,f1⟩,hBW⟩
  (fun x=>{tmps:=#[.agg #[.slice A H.length c],.pointer (some ⟨w.heap.size,0,none⟩),.pointer (some ⟨w.heap.size+1,0,none⟩),.bool x,.agg #[.slice A H.length c],.func (.func 190) #[] #[.pointer (some ⟨w.heap.size+2,0,none⟩)],.bool x,undef,undef],defers:=[]}) ?assign ?body ?done ?stop
 case assign=>
  intro l x W K hK
  gi_wp2
  exact hK
 case body=>
  rintro l pre x W ⟨⟨hp,hcr,hfr⟩,hB⟩ _;cases x with
  |false=>
   gi_wp2
   exact⟨KeepsOthers.setCell _ _ _,⟨rfl,by simp,World.cell?_setCell_same' _ _ _ (by rw[hcr];rfl)⟩,hB.setCell (p:=⟨w.heap.size+1,0,none⟩) (by simp) _⟩
  |true=>
   gi_wp2
   exact⟨KeepsOthers.refl _,cB.refl _ _,⟨by rw[List.all_append,hp];rfl,hcr,hfr⟩,hB⟩
 case done=>
  rintro D xs W hD rfl ⟨⟨hall,hcr,hfr⟩,hB⟩ hK;have hall:=hide hall
  gi_wp2
  have hK':=(KeepsOthers.setCell W ⟨w.heap.size+1,0,none⟩ (.bool true)).same D _ hK rfl;refine⟨by simp,.inl ⟨_,_,rfl,run_takeDeferred hK',?_⟩⟩;have hc5:=cell_kept (World.cell?_setCell_same' W ⟨w.heap.size+1,0,none⟩ (.bool true) (by rw[hcr];rfl)) (grownBy_putObj' _ D (.deferred none)) (fun r e=>by cases e;exact⟨_,hK',rfl⟩);refine⟨.bool true,?_,by unfold aA;rw[hall.out],(hB.setCell (p:=⟨w.heap.size+1,0,none⟩) (by simp) _).trans (belowK_b (w:=w) (Nat.le_refl _) _ D _ _ (by omega) hK' rfl rfl)⟩;simp[results,Tryz.f67,go_sem,hc5]
 case stop=>
  rintro D cc pre W hD hpre ⟨⟨rfl,hin,hcr⟩,hB⟩ hK;have hf:=hide (FY hpre hin)
  gi_wp2
  refine⟨by simp,.inl ⟨_,_,rfl,run_takeDeferred hK,?_⟩⟩;have hc5:=cell_kept hcr (grownBy_putObj' _ D (.deferred none)) (fun r e=>by cases e;exact⟨_,hK,rfl⟩);refine⟨.bool false,?_,by unfold aA;rw[hf.out],hB.trans (belowK_b (w:=w) (Nat.le_refl _) W D _ _ (by omega) hK rfl rfl)⟩;simp[results,Tryz.f67,go_sem,hc5]
end Go.Proofs.YtfhnamomiaekdaaGreatDoor
namespace Go.Inq
open Go Go.RowKit
theorem below_grown{B:Nat}{w0 w w':World}{row:Option Nat}(hb:Below B w0 w)(hg:w.grownBy w' row)(hB:B≤w.heap.size)(hr:∀k,row=some k→B≤k):Below B w0 w':=
 hb.trans ⟨hg.os,hg.tape,hg.output,hg.size,fun k hk=>hg.block k (Nat.lt_of_lt_of_le hk hB) (fun e=>by have:=hr k e.symm;omega)⟩
theorem bI {P:Program} {W:World} {ops:Array Oper} {rest:List Oper} {o:Oper} {a:Act} {Q:Exit→Act→World→Prop} {α:Type} {enc:α→List Value}
 (hgd:o.guard=none) (s x:Operand) (t:TypeId) (ho:o.op= .call {callee:= .builtin .append,args:=#[s,x],argTypes:=#[t,t]})
 (base:Nat) (e:TypeId) (i:TypeInfo) (z:Value) (size bytes:Nat) (ht:P.underlying t=some (.slice e)) (hi:P.info? e=some i) (hz:i.zero=some z)
 (hsize:i.size=size) (hby:i.bytes=bytes) (hzs:z.cells.size=size) (hsz:0<size)
 (v:Value) (l:List α) (hs:a.eval s=v) (hown:W.ownsRow base e size v l.length (l.map enc).flatten) (hen:∀x,(enc x).length=size)
 (x0:α) (cs:Array Value) (hcs:cs.toList=enc x0) (hx:a.eval x= .slice (some ⟨W.heap.size,0,none⟩) 1 1)
 (h1:∀x,∀u∈enc x,u.oneCell'=true) (h63:l.length+1≤maxLen) (hbytes:(l.length+1)*bytes≤140737488355328) (hbase:base≤W.heap.size)
 (w0:World) (B:Nat) (hB:B≤base) (hb:Below B w0 W)
 (h:∀v' w',w'.ownsRow base e size v' (l++[x0]).length ((l++[x0]).map enc).flatten→(W.alloc (.cells cs e)).grownBy w' v.ownBlock→Below B w0 w'→(v'.ownBlock=v.ownBlock∨v'.ownBlock=some (W.heap.size+1))→wpList P ops Q rest (a.put o.dst v') w'):
 wpList P ops Q (o::rest) a (W.alloc (.cells cs e)):=by
 have hk:Blk (W.alloc (.cells cs e)) W.heap.size e cs:=Blk.new _ _ _;have hl:cs.size=size:=(by rw[←Array.length_toList,hcs,hen]);refine bY (enc:=enc) hgd s x t ho base e i z size bytes ht hi hz hsize hby hzs hsz v (fun _=>True) l hs (hown.alloc _) hen _ [x0] hx (SlR.one hk hl (by unfold Flat;exact hcs) trivial) h1 h63 hbytes (by simp;omega) ?_;intro v' w' g1 g2 g3;refine h v' w' g1 g2 (below_grown (hb.alloc (by omega) _) g2 (by simp;omega) ?_) (by simpa using g3);intro k hk;have:=(hown.lt k hk).1;omega
theorem qC {P:Program} {w:World} {ops:Array Oper} {rest:List Oper} {o:Oper} {a:Act} {Q:Exit→Act→World→Prop} {α:Type} (f:α→Value)
 (hgd:o.guard=none) (d s:Operand) (dT sT:TypeId) (ho:o.op= .call {callee:= .builtin .copy,args:=#[d,s],argTypes:=#[dT,sT]})
 (elem:TypeId) (hu:P.underlying dT=some (.slice elem)) (hsz:(P.info? elem).map (·.size)=some 1)
 (g n dc c:Nat) (A:Option Addr) (hd:a.eval d= .slice (some ⟨g,0,none⟩) n dc) (hs:a.eval s= .slice A n c)
 (cur:Array Value) (t:TypeId) (hg:Blk w g t cur) (hcur:cur.size=n) (l:List α) (hl:l.length=n)
 (hsrc:∀i (hi:i<l.length),∃b off,A=some ⟨b,off,none⟩∧w.cell? ⟨b,off+i,none⟩=some (f l[i])) (h1:∀x∈l,(f x).oneCell'=true)
 (h:∀w',Blk w' g t (l.map f).toArray→w.grownBy w' (some g)→wpList P ops Q rest (a.put o.dst (goInt n)) w'):wpList P ops Q (o::rest) a w:=by
 by_cases h0:n=0
 ·subst h0;have:l=[]:=List.eq_nil_of_length_eq_zero hl;subst this;have hc:cur=#[]:=Array.eq_empty_of_size_eq_zero hcur;subst hc;exact wpList_copy_nothing hgd d s dT sT ho elem hu hsz _ _ 0 dc 0 c hd hs rfl (h w (by simpa using hg) ⟨rfl,rfl,rfl,Nat.le_refl _,fun _ _ _=>rfl⟩)
 ·obtain⟨b,off,rfl,_⟩:=hsrc 0 (by omega);have hcs:(l.map f).length=n:=(by simpa using hl);refine wpList_copy_own hgd d s dT sT ho elem hu hsz g 0 n dc ⟨b,off,none⟩ n c hd hs cur t hg (l.map f) (by rw[hcs];simp[Nat.min_def]) (fun j v hj=> ?_) (by rw[hcs];omega) (fun v hv=> ?_) ?_
  ·rw[List.getElem?_map]at hj;cases hlj:l[j]? with
   |none=>rw[hlj]at hj;cases hj
   |some x=>
    rw[hlj]at hj;injection hj with hj
    obtain⟨hjl,rfl⟩:=List.getElem?_eq_some_iff.1 hlj;obtain⟨b',off',hA,hc⟩:=hsrc j hjl;injection hA with hA
    injection hA with e1 e2
    subst e1 e2;rw[Addr.add_lit,←hj];exact hc
  ·obtain⟨x,hx,rfl⟩:=List.mem_map.1 hv;exact h1 x hx
  ·rw[hcs];have e:(cur.toList.take 0++(l.map f++cur.toList.drop (0+n))).toArray=(l.map f).toArray:=by
    rw[List.drop_of_length_le (by simp;omega)];simp
   rw[e];exact h _ (setRow_heap w g cur _ t _ hg) ⟨rfl,rfl,rfl,by simp[World.setRow],fun k hk hne=>setRow_other w g k _ (fun e=>hne (by rw[e]))⟩
section
variable{w W:World}{o:Obj}{K:Nat→Prop}
theorem Blk.au{g:Nat}{t:TypeId}{cs:Array Value}(h:Blk w g t cs)(e:w.alloc o=W):Blk W g t cs:=by subst e;exact h.alloc o
theorem Agree.au(e:w.alloc o=W)(hk:∀b,K b→b<w.heap.size):Agree K w W:=by subst e;exact Agree.alloc hk o
theorem ah{B:Nat}{w0:World}(h:Below B w0 w)(e:w.alloc o=W)(hB:B≤w.heap.size):Below B w0 W:=by subst e;exact h.alloc hB o
theorem Blk.newEq{t:TypeId}{cs:Array Value}(e:w.alloc (.cells cs t)=W):Blk W w.heap.size t cs:=by subst e;exact Blk.new _ _ _
theorem Blk.j6{t:TypeId}{cs:Array Value}(e:(w.alloc (.cells cs t)).alloc o=W):Blk W w.heap.size t cs:=by subst e;exact(Blk.new _ _ _).alloc _
theorem Blk.jd{t:TypeId}{cs:Array Value}(e:(w.alloc o).alloc (.cells cs t)=W):Blk W (w.heap.size+1) t cs:=by
 subst e;have:=Blk.new (w.alloc o) t cs;simpa using this
theorem size_two{o':Obj}(e:(w.alloc o).alloc o'=W):W.heap.size=w.heap.size+2:=by subst e;simp
theorem aQ{o':Obj}(e:(w.alloc o).alloc o'=W):Below w.heap.size w W:=by subst e;exact((Below.refl _ _).alloc (Nat.le_refl _) _).alloc (by simp) _
theorem Blk.zG{o':Obj}{t:TypeId}{cs:Array Value}(e:((w.alloc (.cells cs t)).alloc o).alloc o'=W):Blk W w.heap.size t cs:=by subst e;exact((Blk.new _ _ _).alloc _).alloc _
theorem Blk.u6{o':Obj}{t:TypeId}{cs:Array Value}(e:((w.alloc o).alloc (.cells cs t)).alloc o'=W):Blk W (w.heap.size+1) t cs:=by
 subst e;have:=(Blk.new (w.alloc o) t cs).alloc o';simpa using this
theorem Blk.u7{o':Obj}{t:TypeId}{cs:Array Value}(e:((w.alloc o).alloc o').alloc (.cells cs t)=W):Blk W (w.heap.size+1+1) t cs:=by
 subst e;have:=Blk.new ((w.alloc o).alloc o') t cs;simpa using this
theorem Dt{o' o'':Obj}(e:((w.alloc o).alloc o').alloc o''=W):W.heap.size=w.heap.size+3:=by subst e;simp
theorem gY{o' o'':Obj}(e:((w.alloc o).alloc o').alloc o''=W):Below w.heap.size w W:=by subst e;exact(((Below.refl _ _).alloc (Nat.le_refl _) _).alloc (by simp) _).alloc (by simp;omega) _
theorem ay(e:w.alloc o=W):W.heap.size=w.heap.size+1:=by subst e;simp
end
theorem aj{w w' w'':World}{r:Option Nat}(h:w.grownBy w' r)(h':w'.grownBy w'' r):w.grownBy w'' r:=
 ⟨h'.os.trans h.os,h'.tape.trans h.tape,h'.output.trans h.output,Nat.le_trans h.size h'.size,fun k hk hne=>(h'.block k (Nat.lt_of_lt_of_le hk h.size) hne).trans (h.block k hk hne)⟩
theorem aX{w w':World}{B:Nat}{r:Option Nat}(hb:Below B w w')(hB:w.heap.size≤B):w.grownBy w' r:=⟨hb.os,hb.tape,hb.output,hb.size,fun k hk _=>hb.block k (by omega)⟩
theorem aI{w:World}(g i:Nat)(u:Value):w.grownBy (w.setCell ⟨g,i,none⟩ u) (some g):=
 ⟨rfl,rfl,rfl,by simp,fun k hk hne=>Below.heap_setCell w ⟨g,i,none⟩ u k (fun e=>hne (by simp at e;rw[e]))⟩
theorem fH{w:World}{r:Option Nat}:w.grownBy w.drew r:=⟨rfl,rfl,rfl,Nat.le_refl _,fun _ _ _=>rfl⟩
theorem Agree.jH{K:Nat→Prop}{w w':World}{g:Nat}(h:w.grownBy w' (some g))(hK:∀b,K b→b<g)(hg:g≤w.heap.size):Agree K w w':=Agree.grown h fun b hb=>⟨by have:=hK b hb;omega,by have:=hK b hb;simp;omega⟩
end Go.Inq
namespace Go.Proofs.YtfhnamomiaekdaaGreatDoor
open Go.RowKit Go.Inq Go.Shelf
set_option maxHeartbeats 4000000
attribute [local go_sem] Oper.semAt_some
attribute [local go_sem↓] Go.wp_at_zero Go.wp_at_succ
def qD(k:Nat)(l:List It):List (Nat×It):=l.map fun r=>(k,r)
def bR(H:List Txn)(k:Nat):List (Nat×It):=((List.range k).map fun t=>qD t (aG H t).reads).flatten
def gu(H:List Txn):List (Nat×It):=bR H H.length
theorem lG(H:List Txn)(k:Nat):bR H (k+1)=bR H k++qD k (aG H k).reads:=by
 unfold bR;rw[List.range_succ,List.map_append,List.flatten_append];simp
theorem A8{H:List Txn}{k:Nat}(h:k≤H.length):bR H k<+:gu H:=by
 unfold gu bR;obtain⟨m,hm⟩:=Nat.le.dest h;rw[←hm,List.range_add,List.map_append,List.flatten_append];exact List.prefix_append _ _
theorem yF{k:Nat}{l:List It}{j:Nat}(h:j<l.length):qD k (l.take (j+1))=qD k (l.take j)++[(k,l[j])]:=by
 unfold qD;rw[take_snoc' h,List.map_append];rfl
theorem Ga{H:List Txn}{k j:Nat}(h:k<H.length)(hj:j<H[k].reads.length):bR H k++qD k (H[k].reads.take j)++[(k,H[k].reads[j])]<+:gu H:=by
 refine List.IsPrefix.trans ?_ (A8 (k:=k+1) (by omega));rw[lG,aH h,List.append_assoc,←yF hj];refine(List.prefix_append_right_inj _).2 ?_;unfold qD;rw[List.map_take];exact List.take_prefix _ _
def A9(x:Nat×It):Value:= .agg #[.int .i64 (x.1:Nat),.int .i64 x.2.a,.int .i64 x.2.b]
set_option maxRecDepth 100000 in
theorem Gb (n:Nat) (hn:1≤n) (l Bh n₀ c:Nat) (A:Option Addr) (H:List Txn) (hS:aC H) (hr:aA H=true) (J Jx:List (Nat×It)→World→Prop) (W:World)
 (hJ:AbidesFrom W.heap.size J)
 (hY:∀pre x W,J pre W→pre.length<(gu H).length→YieldAt Fence.wide (n-1) Tryz.prog l #[A9 x] W fun e W'=>
  (e= .returned (.bool true)∧J (pre++[x]) W'∧Below n₀ W W')∨(e= .returned (.bool false)∧Jx (pre++[x]) W'))
 (hBh:W.cell? ⟨Bh,0,none⟩=some (.slice A H.length c)) (hnW:n₀≤W.heap.size) (hT:av W (fun b=>b<n₀) (.slice A H.length c) H) (h0:J [] W):
 CallsIn Fence.wide n Tryz.prog 272 #[.func (.yield l) #[] #[],.pointer (some ⟨Bh,0,none⟩)] W fun e W'=>(∃v,e= .returned v)∧
  ((∃ys,ys=gu H∧J ys W')∨(∃pre,pre<+:gu H∧Jx pre W')):=by
 have hro:Fence.wide.round=none:=rfl;refine callsIn_of_wp Tryz.func272 rfl trivial ?_ hro;simp only[Tryz.ntmps272,List.size_toArray,List.length_cons,List.length_nil,Nat.reduceAdd,Nat.reduceSub,Array.replicate_succ,Array.replicate_zero,List.push_toArray,List.append_toArray,List.nil_append,List.cons_append];have hTo:=hide (av.fit (K':=Old W) hT (fun b h=>Nat.lt_of_lt_of_le h hnW));replace hr:=hide hr;have hlen:=hS.1;have hrl:=hide (fun i (hi:i<H.length)=>(hS.2 _ (List.getElem_mem hi)).2);replace hS:=hide hS;have hBl:Bh<W.heap.size:=block_lt_of_cell hBh
 gi_wp2_with fail
 refine⟨trivial,?_⟩;refine(callsIn_wide.2 (cK A c H _ hTo.out hS.out)).mono ?_;rintro e W3 ⟨rfl,hb3⟩;rw[hr.out];dsimp only;have c0:=(hb3.cell (p:=⟨Bh,0,none⟩) hBl).trans hBh;have hJ3:J [] W3:=hJ _ _ _ none h0 (aX hb3 (Nat.le_refl _)) (fun r e=>by cases e);have hT3:=av.keep hT (Agree.below hb3 (fun b h=>Nat.lt_of_lt_of_le h hnW)) (fun b h=>h);have F8:n₀≤W3.heap.size:=Nat.le_trans hnW hb3.size;clear hTo hBh h0
 gi_wp2
 gi_loopw [13] (fun s13 wr=>∃k:Nat,k≤H.length∧s13= .int .i64 k∧J (bR H k) wr∧Below n₀ W3 wr) (fun s13 _=>H.length-(intOf s13).toNat)
 case atStart=>exact⟨0,Nat.zero_le _,by go_num,hJ3,Below.refl _ _⟩
 case round=>
  obtain⟨Wo,rfl⟩:∃Wo,Wo=wr:=⟨_,rfl⟩;obtain⟨k,hk,rfl,hJs,hb⟩:=hrel;have hk1:(0:Int)≤(k:Int):=Int.natCast_nonneg _;by_cases hlt:k<H.length
  ·have hi2:(k:Int)<(H.length:Int):=(by omega);obtain⟨b,off,Aw,cw,Ar,cr,rfl,hbK,d0',d1',d2',_,hrs⟩:=av.at_ hT3 hlt;have d0:=(hb.cell (p:=⟨b,off+k*3,none⟩) hbK).trans d0';have d1:=(hb.cell (p:=⟨b,off+k*3+1,none⟩) hbK).trans d1';have d2:=(hb.cell (p:=⟨b,off+k*3+2,none⟩) hbK).trans d2';clear d0' d1' d2';have htr:=fun j=>Ga (j:=j) hlt;have hts:=lG H k;rw[aH hlt]at hts;have q2:=hrl.out k hlt;generalize H[k]=t at*;obtain⟨ts,ws,rs⟩:=t;dsimp only at*;replace htr:=hide htr;replace hts:=hide hts;have hJ4:J (bR H k) (Wo.alloc (.cells #[.int .i64 ts,.slice Aw ws.length cw,.slice Ar rs.length cr] 109)):=hJ _ _ _ none hJs (World.grownBy_alloc Wo _ none) (fun r e=>by cases e);have hb4:Below n₀ W3 (Wo.alloc (.cells #[.int .i64 ts,.slice Aw ws.length cw,.slice Ar rs.length cr] 109)):=hb.alloc (Nat.le_trans F8 hb.size) _;have kT:Blk (Wo.alloc (.cells #[.int .i64 ts,.slice Aw ws.length cw,.slice Ar rs.length cr] 109)) Wo.heap.size 109 #[.int .i64 ts,.slice Aw ws.length cw,.slice Ar rs.length cr]:=Blk.new _ _ _;have e2:=Blk.n2 kT;have hrn:=hide (show bR H k++qD k (rs.take 0)=bR H k by simp[qD])
   gi_wp2
   generalize hWo:Wo.alloc (.cells #[.int .i64 ts,.slice Aw ws.length cw,.slice Ar rs.length cr] 109)=Wp at*;clear hWo kT e2 hJs hb
   gi_loopw [21] (fun s21 wq=>∃j:Nat,j≤rs.length∧s21= .int .i64 j∧J (bR H k++qD k (rs.take j)) wq∧Below n₀ W3 wq) (fun s21 _=>rs.length-(intOf s21).toNat)
   case atStart=>exact⟨0,Nat.zero_le _,by go_num,by rw[hrn.out];exact hJ4,hb4⟩
   case round=>
    clear hJ4 hb4;obtain⟨j,hj,rfl,hJs,hb⟩:=hrel;have hj1:(0:Int)≤(j:Int):=Int.natCast_nonneg _;by_cases hjl:j<rs.length
    ·have hj2:(j:Int)<(rs.length:Int):=(by omega);obtain⟨bw,ow,rfl,hbw,ec0,ec1⟩:=ItS.at_ (ItS.keep hrs (Agree.below hb fun b h=>h) (fun b h=>h)) hjl;have hpre:=htr.out j hjl;have hstp:=hide (yF (k:=k) hjl);generalize rs[j]=x at*;obtain⟨xa,xb⟩:=x;dsimp only at ec0 ec1;have hBw:n₀≤wr.heap.size:=Nat.le_trans F8 hb.size;have hJ6:J (bR H k++qD k (rs.take j)) (wr.alloc (.cells #[.int .i64 xa,.int .i64 xb] 106)):=hJ _ _ _ none hJs (World.grownBy_alloc wr _ none) (fun r e=>by cases e);have hb6:Below n₀ W3 (wr.alloc (.cells #[.int .i64 xa,.int .i64 xb] 106)):=hb.alloc hBw _;have hN:=iZ hpre;obtain⟨fn,tmps,assign,body,hy,hR⟩:=hY _ (k,⟨xa,xb⟩) _ hJ6 hN;clear hJs hb;replace hpre:=hide hpre;unfold A9 at hy;dsimp only at hy
     gi_wp2
     refine hR.mono ?_;clear hR hy fn tmps assign body;rintro e W4 (⟨rfl,hJ5,hk5⟩|⟨rfl,jc⟩)
     ·have hb5:=hb6.trans hk5;rw[List.append_assoc,←hstp.out]at hJ5
      gi_wp2
      go_roundw;case rel=>exact⟨j+1,by omega,by go_num,hJ5,hb5⟩
      case measure=>simp[intOf];omega
     ·gi_wp2
      refine bodyPost_ret (results_none rfl _ _ _) rfl ?_;exact⟨⟨_,rfl⟩,.inr ⟨_,hpre.out,jc⟩⟩
    ·obtain rfl:j=rs.length:=(by omega);rw[List.take_length]at hJs;have Rb:bR H (k+1)=bR H k++qD k rs:=hts.out
     gi_wp2
     go_roundw;case rel=>exact⟨k+1,by omega,by go_num,by rw[hts.out];exact hJs,hb⟩
     case measure=>simp[intOf];omega
  ·obtain rfl:k=H.length:=by omega
   gi_wp2
   go_end0
   exact⟨⟨_,rfl⟩,.inl ⟨_,rfl,hJs⟩⟩
end Go.Proofs.YtfhnamomiaekdaaGreatDoor
namespace Go.Inq
def bO(key:Int)(l:List Nat)(i:Nat):List Cho:=((List.range i).map fun a=>(l.drop (a+1)).map fun(b:Nat)=>(⟨key,(l.getD a 0:Nat),b⟩:Cho)).flatten
theorem Ba(key:Int)(l:List Nat){i:Nat}(h:i<l.length):bO key l (i+1)=bO key l i++(l.drop (i+1)).map fun(b:Nat)=>(⟨key,(l[i]:Nat),b⟩:Cho):=by
 unfold bO;rw[List.range_succ,List.map_append,List.flatten_append];simp[List.getD_eq_getElem?_getD,List.getElem?_eq_getElem h]
theorem tF(key:Int)(a:Nat)(r:List Nat):∀i,bO key (a::r) (i+1)=(r.map fun(b:Nat)=>(⟨key,a,b⟩:Cho))++bO key r i
 |0=>by simp[bO,List.range_succ]
 |i+1=>by
  have h1:bO key (a::r) (i+1+1)=bO key (a::r) (i+1)++((a::r).drop (i+1+1)).map fun(b:Nat)=>(⟨key,((a::r).getD (i+1) 0:Nat),b⟩:Cho):=by
   unfold bO;rw[List.range_succ,List.map_append,List.flatten_append];simp
  have h2:bO key r (i+1)=bO key r i++(r.drop (i+1)).map fun(b:Nat)=>(⟨key,(r.getD i 0:Nat),b⟩:Cho):=by
   unfold bO;rw[List.range_succ,List.map_append,List.flatten_append];simp
  rw[h1,h2,tF key a r i];simp
theorem vg(key:Int):∀l:List Nat,bO key l l.length=dG key l
 |[]=>by simp[bO,dG]
 |a::r=>by rw[List.length_cons,tF,vg key r];rfl
def dF(H:List Txn)(k:Nat):List Cho:=(((bQ H).take k).map fun key=>dG key (aY H key)).flatten
theorem qE{H:List Txn}{k:Nat}(h:k<(bQ H).length):dF H (k+1)=dF H k++dG (bQ H)[k] (aY H (bQ H)[k]):=by
 unfold dF;rw[List.take_succ_eq_append_getElem h,List.map_append,List.flatten_append];simp
theorem tH(H:List Txn):dF H (bQ H).length=bN H:=by unfold dF bN;rw[List.take_length]
theorem vv(key:Int):∀l:List Nat,(dG key l).length≤l.length*l.length
 |[]=>by simp[dG]
 |a::r=>by
  unfold dG;rw[List.length_append,List.length_map,List.length_cons];have:=vv key r;rw[Nat.add_mul,Nat.mul_add];omega
theorem vB(key:Int)(l:List Nat):∀i,(bO key l i).length≤i*l.length
 |0=>by simp[bO]
 |i+1=>by
  have h1:bO key l (i+1)=bO key l i++(l.drop (i+1)).map fun(b:Nat)=>(⟨key,(l.getD i 0:Nat),b⟩:Cho):=by
   unfold bO;rw[List.range_succ,List.map_append,List.flatten_append];simp
  rw[h1,List.length_append,List.length_map,List.length_drop,Nat.add_mul];have:=vB key l i;omega
theorem jI{H:List Txn}(hr:aA H=true):(bQ H).length≤16:=by
 have hb:∀t∈H,∀k∈t.writes,0≤k∧k<16:=fun t ht k hk=>by
  obtain⟨i,hi,rfl⟩:=List.getElem_of_mem ht;exact(((aD H).1 hr).2 i hi).Jg k hk
 rw[uX hb,List.length_map];exact Nat.le_trans (List.length_filter_le _ _) (by simp)
theorem mQ{H:List Txn}(h32:H.length≤32):∀k,k≤(bQ H).length→(dF H k).length≤k*1024
 |0,_=>by simp[dF]
 |k+1,hk=>by
  rw[qE (by omega),List.length_append];have h1:=mQ h32 k (by omega);have h2:=vv (bQ H)[k] (aY H (bQ H)[k]);have h3:=mO H (bQ H)[k];have h4:(aY H (bQ H)[k]).length*(aY H (bQ H)[k]).length≤32*32:=Nat.mul_le_mul (by omega) (by omega);omega
theorem vC{H:List Txn}(hr:aA H=true):(bN H).length≤16384:=by
 have h1:=mQ ((aD H).1 hr).1 _ (Nat.le_refl _);rw[tH]at h1;have:=jI hr;omega
theorem je{key:Int}{c:Cho}:∀{l:List Nat},c∈dG key l→c.key=key∧∃a b:Nat,c.a=a∧c.b=b∧a∈l∧b∈l
 |[],h=>by simp[dG]at h
 |a::r,h=>by
  unfold dG at h;rw[List.mem_append]at h;rcases h with h|h
  ·obtain⟨b,hb,rfl⟩:=List.mem_map.1 h;exact⟨rfl,a,b,rfl,rfl,by simp,by simp[hb]⟩
  ·obtain⟨h1,x,y,h2,h3,h4,h5⟩:=je h;exact⟨h1,x,y,h2,h3,by simp[h4],by simp[h5]⟩
theorem rU{key:Int}{c:Cho}:∀{l:List Nat},l.Pairwise (·<·)→c∈dG key l→c.a<c.b
 |[],_,h=>by simp[dG]at h
 |a::r,hp,h=>by
  rw[List.pairwise_cons]at hp;unfold dG at h;rw[List.mem_append]at h;rcases h with h|h
  ·obtain⟨b,hb,rfl⟩:=List.mem_map.1 h;have:=hp.1 b hb;show(a:Int)<(b:Int);omega
  ·exact rU hp.2 h
theorem vD{H:List Txn}{c:Cho}(h:c∈bN H):∃a b:Nat,c.a=a∧c.b=b∧a<b∧b<H.length∧c.key∈(aG H a).writes∧c.key∈(aG H b).writes:=by
 unfold bN at h;obtain⟨l,hl,hc⟩:=List.mem_flatten.1 h;obtain⟨key,_,rfl⟩:=List.mem_map.1 hl;obtain⟨hk,a,b,ha,hb,h1,h2⟩:=je hc;have hlt:=rU (fK H key) hc;obtain⟨_,h3⟩:=bB.1 h1;obtain⟨h4,h5⟩:=bB.1 h2;rw[hk];exact⟨a,b,ha,hb,by omega,h4,h3,h5⟩
def wrB(H:List Txn)(t key:Int):Bool:=decide (0≤t)&&decide (t<(H.length:Int))&&(aG H t.toNat).writes.contains key
def eY(H:List Txn)(c:Cho):Bool:=decide (c.a≠c.b)&&wrB H c.a c.key&&wrB H c.b c.key
def dn(H:List Txn)(l:List Cho):Bool:=aA H&&decide (l.length≤20000)&&l.all (eY H)
theorem zH{H:List Txn}{t:Nat}{key:Int}(h:t<H.length):wrB H (t:Int) key=(aG H t).writes.contains key:=by unfold wrB;simp[h]
theorem Fg{H:List Txn}{t key:Int}:wrB H t key=true↔∃n:Nat,t=n∧n<H.length∧key∈(aG H n).writes:=by
 unfold wrB;constructor
 ·intro h;simp only[Bool.and_eq_true,decide_eq_true_eq,List.contains_iff_mem]at h;exact⟨t.toNat,by omega,by omega,h.2⟩
 ·rintro⟨n,rfl,h1,h2⟩;simp[h1,h2]
theorem vE{H:List Txn}{c:Cho}:eY H c=true↔∃a b:Nat,c.a=a∧c.b=b∧a≠b∧a<H.length∧b<H.length∧c.key∈(aG H a).writes∧c.key∈(aG H b).writes:=by
 unfold eY;rw[Bool.and_eq_true,Bool.and_eq_true,Fg,Fg];constructor
 ·rintro⟨⟨h1,a,ha,h2,h3⟩,b,hb,h4,h5⟩;have:=of_decide_eq_true h1;exact⟨a,b,ha,hb,by omega,h2,h4,h3,h5⟩
 ·rintro⟨a,b,ha,hb,h1,h2,h3,h4,h5⟩;exact⟨⟨decide_eq_true (by omega),a,ha,h2,h4⟩,b,hb,h3,h5⟩
def iI(c:Cho):Cho:=⟨c.key,c.b,c.a⟩
def oU(H:List Txn)(x y:Nat):Bool:=(aG H y).reads.any fun r=>decide (r.b=(x:Int))
def qF(H:List Txn)(x y:Nat)(c:Cho):Bool:=decide (c.a=(x:Int))&&decide (c.b=(y:Int))&&decide (x≠y)&&(aG H x).writes.contains c.key&&(aG H y).writes.contains c.key
def ou(H:List Txn)(l:List Cho)(x y:Nat):Bool:=l.any (qF H x y)
def oz(H:List Txn)(l:List Cho)(y:Nat)(r:It):Bool:=(aG H y).writes.contains r.a&&(decide (r.b<0)||(decide (r.b≠(y:Int))&&l.any fun c=>decide (c=⟨r.a,r.b,y⟩)))
def lY(H:List Txn)(l:List Cho)(x y:Nat):Bool:=decide (x≠y)&&(aG H x).reads.any (oz H l y)
def Jl(H:List Txn)(l:List Cho)(x y:Nat):Bool:=soE H x y||oU H x y||ou H l x y
def uz(H:List Txn)(x y:Int):Bool:=aA H&&decide (0≤x)&&decide (x<(H.length:Int))&&decide (0≤y)&&decide (y<(H.length:Int))
def bM(H:List Txn)(l:List Cho)(x y:Int):Bool:=uz H x y&&Jl H l x.toNat y.toNat
def iJ(H:List Txn)(l:List Cho)(x y:Int):Bool:=uz H x y&&lY H l x.toNat y.toNat
def isB(H:List Txn)(level:Int)(l:List Cho)(x y:Int):Bool:=
 if level=0 then bM H l x y||iJ H l x y
 else if level=1 then(List.range H.length).any fun m=>bM H l x (m:Int)&&(decide ((m:Int)=y)||iJ H l (m:Int) y)
 else false
def ig(H:List Txn)(level:Int)(l:List Cho)(row:List Int):Bool:=
 decide (0<row.length)&&(List.range row.length).all fun i=> !(row.take i).contains (row.getD i 0)&&isB H level l (row.getD i 0) (row.getD ((i+1)%row.length) 0)
theorem qG{H:List Txn}{x y:Int}:uz H x y=true↔aA H=true∧∃a b:Nat,x=a∧y=b∧a<H.length∧b<H.length:=by
 unfold uz;simp only[Bool.and_eq_true,decide_eq_true_eq];constructor
 ·rintro⟨⟨⟨⟨h1,h2⟩,h3⟩,h4⟩,h5⟩;exact⟨h1,x.toNat,y.toNat,by omega,by omega,by omega,by omega⟩
 ·rintro⟨h1,a,b,rfl,rfl,h2,h3⟩;exact⟨⟨⟨⟨h1,by omega⟩,by omega⟩,by omega⟩,by omega⟩
theorem jJ{H:List Txn}{l:List Cho}{x y:Nat}(hr:aA H=true)(hx:x<H.length)(hy:y<H.length):bM H l x y=Jl H l x y:=by
 unfold bM;rw[qG.2 ⟨hr,x,y,rfl,rfl,hx,hy⟩];simp
theorem rV{H:List Txn}{l:List Cho}{x y:Nat}(hr:aA H=true)(hx:x<H.length)(hy:y<H.length):iJ H l x y=lY H l x y:=by
 unfold iJ;rw[qG.2 ⟨hr,x,y,rfl,rfl,hx,hy⟩];simp
structure Fct where
 c:Cho
 kind:Int
 i:Int
 j:Int
 cyc:List Int
deriving DecidableEq
def Fh(L:List Fct)(f:Fct):Bool:=
 decide (0≤f.i)&&decide (f.i<(L.length:Int))&&decide (0≤f.j)&&decide (f.j<(L.length:Int))&&
  match L[f.i.toNat]?,L[f.j.toNat]? with
  |some x,some y=>decide (x.c.b=y.c.a)&&decide (x.c.key=y.c.key)&&decide (f.c=⟨x.c.key,x.c.a,y.c.b⟩)
  |_,_=>false
def tJ(H:List Txn)(f:Fct):Bool:=
 decide (f.j=0)&&decide (f.i≠f.c.a)&&decide (0≤f.i)&&decide (f.i<(H.length:Int))&&
  ((aG H f.i.toNat).reads.any fun x=>decide (x.a=f.c.key)&&decide (x.b=f.c.b))&&bM H [] f.c.a f.i
def axB(H:List Txn)(f:Fct):Bool:=decide (f.i=0)&&decide (f.j=0)&&bM H [] f.c.a f.c.b
def Fj(H:List Txn)(level:Int)(L:List Fct)(f:Fct):Bool:=decide (f.i=0)&&decide (f.j=0)&&ig H level (L.map (·.c)++[iI f.c]) f.cyc
def nY(H:List Txn)(level:Int)(L:List Fct)(f:Fct):Bool:=
 if f.kind=1 then axB H f else if f.kind=2 then Fh L f else if f.kind=3 then tJ H f else if f.kind=4 then Fj H level L f else false
def l9(H:List Txn)(level:Int):Bool:=aA H&&(decide (level=0)||decide (level=1))
def bP(H:List Txn)(level:Int)(L:List Fct)(f:Fct):Bool:=
 l9 H level&&eY H f.c&&(decide (f.kind=4)||decide (f.cyc=[]))&&nY H level L f
end Go.Inq
namespace Go.Proofs.YtfhnamomiaekdaaGreatDoor
open Go.RowKit Go.Inq Go.Shelf
set_option maxHeartbeats 4000000
attribute [local go_sem] Oper.semAt_some
attribute [local go_sem↓] Go.wp_at_zero Go.wp_at_succ
def mkF(c:Cho):Option Nat→Fct
 |none=>⟨c,1,0,0,[]⟩
 |some i=>⟨c,3,(i:Int),0,[]⟩
def gB(k:Nat):List (Option Nat):=none::(List.range k).map some
theorem vF(k:Nat):gB (k+1)=gB k++[some k]:=by unfold gB;rw[List.range_succ,List.map_append];rfl
theorem yG{k n:Nat}(h:k≤n):gB k<+:gB n:=by
 obtain⟨m,rfl⟩:=Nat.le.dest h;clear h
 induction m with
 |zero=>exact List.prefix_refl _
 |succ m ih=>exact ih.trans (by rw[←Nat.add_assoc,vF];exact List.prefix_append _ _)
theorem yH(k:Nat):(gB k).length=k+1:=by simp[gB]
def Jm(c:Cho)(x:Option Nat):Value:= .agg #[.int .i64 c.key,.int .i64 c.a,.int .i64 c.b,.int .i64 (mkF c x).kind,.int .i64 (mkF c x).i,.int .i64 0,.slice none 0 0]
set_option maxRecDepth 100000 in
theorem Bd (n:Nat) (hn:1≤n) (l Bc Bh n₀ c:Nat) (A:Option Addr) (H:List Txn) (p:Cho) (hlen:H.length≤1000000) (J Jx:List (Option Nat)→World→Prop) (W:World)
 (hY:∀pre x W,J pre W→pre.length<(gB H.length).length→YieldAt Fence.wide (n-1) Tryz.prog l #[Jm p x] W fun e W'=>
  (e= .returned (.bool true)∧J (pre++[x]) W'∧Below n₀ W W')∨(e= .returned (.bool false)∧Jx (pre++[x]) W'))
 (hBc:Blk W Bc 102 #[.int .i64 p.key,.int .i64 p.a,.int .i64 p.b]) (hBh:W.cell? ⟨Bh,0,none⟩=some (.slice A H.length c)) (hc0:Bc<n₀) (hh0:Bh<n₀) (h0:J [] W):
 CallsIn Fence.wide n Tryz.prog 178 #[.func (.yield l) #[] #[],.pointer (some ⟨Bc,0,none⟩),.pointer (some ⟨Bh,0,none⟩)] W fun e W'=>(∃v,e= .returned v)∧
  ((∃ys,ys=gB H.length∧J ys W')∨(∃pre,pre<+:gB H.length∧Jx pre W')):=by
 have hro:Fence.wide.round=none:=rfl;refine callsIn_of_wp Tryz.func178 rfl trivial ?_ hro;simp only[Tryz.ntmps178,List.size_toArray,List.length_cons,List.length_nil,Nat.reduceAdd,Nat.reduceSub,Array.replicate_succ,Array.replicate_zero,List.push_toArray,List.append_toArray,List.nil_append,List.cons_append];have c0:=Blk.n0 hBc;have c1:=Blk.n1 hBc;have c2:=Blk.n2 hBc;have hpl:=hide (yH H.length);obtain⟨fn,tmps,assign,body,hy,hR⟩:=hY [] none W h0 (by rw[hpl.out];simp);unfold Jm mkF at hy;dsimp only at hy;have Oz:=hide (show([none]:List (Option Nat))<+:gB H.length from yG (k:=0) (Nat.zero_le _))
 gi_wp2
 refine hR.mono ?_;clear hR hy fn tmps assign body;rintro e W4 (⟨rfl,hJ5,hk5⟩|⟨rfl,jc⟩)
 ·have d0:=hBc.below hk5 hc0;have e0:=(hk5.cell (p:=⟨Bh,0,none⟩) hh0).trans hBh;clear c0 c1 c2 hBc hBh h0
  gi_wp2
  gi_loopw [13] (fun s13 wr=>∃k:Nat,k≤H.length∧s13= .int .i64 k∧J (gB k) wr∧Below n₀ W4 wr) (fun s13 _=>H.length-(intOf s13).toNat)
  case atStart=>exact⟨0,Nat.zero_le _,by go_num,hJ5,Below.refl _ _⟩
  case round=>
   obtain⟨Wo,rfl⟩:∃Wo,Wo=wr:=⟨_,rfl⟩;obtain⟨k,hk,rfl,hJs,hb⟩:=hrel;have hk1:(0:Int)≤(k:Int):=Int.natCast_nonneg _;by_cases hlt:k<H.length
   ·have hi2:(k:Int)<(H.length:Int):=(by omega);have dk:=d0.below hb hc0;have c0:=Blk.n0 dk;have c1:=Blk.n1 dk;have c2:=Blk.n2 dk;have hst:=hide (vF k);have hpre:=hide (show gB (k+1)<+:gB H.length from yG (by omega));obtain⟨fn,tmps,assign,body,hy,hR⟩:=hY (gB k) (some k) Wo hJs (by rw[hpl.out,yH];omega);unfold Jm mkF at hy;dsimp only at hy
    gi_wp2
    refine hR.mono ?_;clear hR hy fn tmps assign body;rintro e W6 (⟨rfl,hJ7,hk7⟩|⟨rfl,OA⟩)
    ·rw[←hst.out]at hJ7;have hb7:=hb.trans hk7
     gi_wp2
     go_roundw;case rel=>exact⟨k+1,by omega,by go_num,hJ7,hb7⟩
     case measure=>simp[intOf];omega
    ·rw[←hst.out]at OA
     gi_wp2
     refine bodyPost_ret (results_none rfl _ _ _) rfl ?_;exact⟨⟨_,rfl⟩,.inr ⟨_,hpre.out,OA⟩⟩
   ·obtain rfl:k=H.length:=by omega
    gi_wp2
    go_end0
    exact⟨⟨_,rfl⟩,.inl ⟨_,rfl,hJs⟩⟩
 ·gi_wp2
  refine bodyPost_ret (results_none rfl _ _ _) rfl ?_;exact⟨⟨_,rfl⟩,.inr ⟨_,Oz.out,jc⟩⟩
theorem xY(v:Value)(p:Cho)(w:World):Calls Tryz.prog 110 #[.agg #[v],.agg #[.int .i64 p.key,.int .i64 p.a,.int .i64 p.b]] w fun e w'=>e= .returned (.func (.func 178) #[] #[.pointer (some ⟨w.heap.size+1,0,none⟩),.pointer (some ⟨w.heap.size,0,none⟩)])∧w'=(w.alloc (.cells #[v] 24)).alloc (.cells #[.int .i64 p.key,.int .i64 p.a,.int .i64 p.b] 102):=by
 go_enter Tryz.func110,Tryz.ntmps110;go_wp2;go_ret;exact⟨rfl,rfl⟩
theorem uD(Bc Bh n₀ c:Nat)(A:Option Addr)(H:List Txn)(p:Cho)(hlen:H.length≤1000000)(w:World)(hc0:Bc<n₀)(hh0:Bh<n₀)(hnW:n₀≤w.heap.size)(hBc:Blk w Bc 102 #[.int .i64 p.key,.int .i64 p.a,.int .i64 p.b])(hBh:w.cell? ⟨Bh,0,none⟩=some (.slice A H.length c)):
 SeqStopsK Fence.wide (3-1) Tryz.prog 178 #[.pointer (some ⟨Bc,0,none⟩),.pointer (some ⟨Bh,0,none⟩)] (fun x:Option Nat=>#[Jm p x]) (fun W W'=>Below n₀ W W') (fun ys=>ys=gB H.length) (fun pre=>pre<+:gB H.length) (gB H.length).length w:=fun l J Jx W hW hJ _ hY h0=>
 Bd (3-1) (by omega) l Bc Bh n₀ c A H p hlen J Jx W hY (hBc.below hW (by omega)) ((hW.cell (p:=⟨Bh,0,none⟩) (by show Bh<_;omega)).trans hBh) hc0 hh0 h0
end Go.Proofs.YtfhnamomiaekdaaGreatDoor
namespace Go.Inq
def qH(i:Int):Nat:=if 0≤i∧i<64 then 2^i.toNat else 0
theorem Fp{i:Int}(h0:0≤i)(h:i<64):qH i=2^i.toNat:=by unfold qH;rw[if_pos ⟨h0,h⟩]
theorem Jo{i:Int}(h:i<0):qH i=0:=by unfold qH;rw[if_neg (by omega)]
theorem Gc{i:Int}(h:64≤i):qH i=0:=by unfold qH;rw[if_neg (by omega)]
theorem zI(i:Int):qH i<18446744073709551616:=by
 unfold qH;split
 ·rename_i h;exact Nat.lt_of_lt_of_le (Nat.pow_lt_pow_right (by decide) (show i.toNat<64 by omega)) (by decide)
 ·decide
def hasB(s:Nat)(i:Int):Bool:=decide (0≤i)&&s.testBit i.toNat
theorem Jp(s i:Nat):hasB s (i:Int)=s.testBit i:=by unfold hasB;simp
theorem Jq{s:Nat}(hs:s<18446744073709551616)(i:Int):decide (s&&&qH i=0)= !hasB s i:=by
 unfold hasB qH;by_cases h0:0≤i
 ·by_cases h:i<64
  ·rw[if_pos ⟨h0,h⟩,Bool.eq_iff_iff,decide_eq_true_iff,and_one];simp[h0]
  ·rw[if_neg (by omega)];have:s.testBit i.toNat=false:=Nat.testBit_lt_two_pow (Nat.lt_of_lt_of_le (show s<2^64 from hs) (Nat.pow_le_pow_right (by decide) (by omega)));simp[this]
 ·rw[if_neg (by omega)];simp[h0]
def mU(s:Nat)(i:Int):Nat:=s|||qH i
theorem yI(s:Nat){i:Nat}(hi:i<64)(j:Nat):(mU s (i:Int)).testBit j=(s.testBit j||decide (i=j)):=by
 unfold mU;rw[Fp (by omega) (by omega),Int.toNat_natCast];exact Ni s i j
def joinL(l:List Nat):Nat:=l.foldl (·|||·) 0
theorem zJ(l:List Nat):∀(a i:Nat),(l.foldl (·|||·) a).testBit i=(a.testBit i||l.any fun x=>x.testBit i):=by
 induction l with
 |nil=>intro a i;simp
 |cons x r ih=>intro a i;rw[List.foldl_cons,ih,Nat.testBit_or,List.any_cons,Bool.or_assoc]
theorem Gd(l:List Nat)(i:Nat):(joinL l).testBit i=l.any fun x=>x.testBit i:=by
 unfold joinL;rw[zJ];simp
theorem vG{l:List Nat}{n:Nat}(h:∀x∈l,x<2^n):joinL l<2^n:=by
 refine Nat.lt_pow_two_of_testBit _ (fun i hi=> ?_);rw[Gd,List.any_eq_false];intro x hx;rw[Nat.testBit_lt_two_pow (Nat.lt_of_lt_of_le (h x hx) (Nat.pow_le_pow_right (by decide) hi))];simp
theorem Du{l:List Nat}{k:Nat}(h:k<l.length):joinL (l.take (k+1))=joinL (l.take k)|||l[k]:=by
 unfold joinL;rw[List.take_succ_eq_append_getElem h,List.foldl_append];rfl
def Gf(a b:Nat):Bool:=decide (a&&&(18446744073709551615-b)=0)
theorem Bj{a b:Nat}(ha:a<18446744073709551616)(hb:b<18446744073709551616):Gf a b=true↔∀i,a.testBit i=true→b.testBit i=true:=by
 unfold Gf;rw[decide_eq_true_iff];have hc:∀i,(18446744073709551615-b).testBit i=(decide (i<64)&& !b.testBit i):=by
  intro i;have:=Nat.testBit_two_pow_sub_succ (n:=64) (x:=b) hb i;rw[show 2^64-(b+1)=18446744073709551615-b by omega]at this;exact this
 constructor
 ·intro h i hi;have PO:i<64:=by
   rcases Nat.lt_or_ge i 64 with h|h
   ·exact h
   ·rw[Nat.testBit_lt_two_pow (Nat.lt_of_lt_of_le (show a<2^64 from ha) (Nat.pow_le_pow_right (by decide) h))]at hi;cases hi
  have:=congrArg (fun y=>y.testBit i) h;simp only[Nat.testBit_and,hc,hi,decide_eq_true PO,Nat.zero_testBit,Bool.true_and]at this;simpa using this
 ·intro h;refine Nat.eq_of_testBit_eq (fun i=> ?_);rw[Nat.testBit_and,hc,Nat.zero_testBit];by_cases hi:a.testBit i=true
  ·rw[h i hi];simp
  ·simp[hi]
theorem fO{n:Nat}(h:n≤64):2^n≤18446744073709551616:=Nat.le_trans (Nat.pow_le_pow_right (by decide) h) (by decide)
theorem Gg{l:List Nat}{n:Nat}(hn:n≤64)(h:∀x∈l,x<2^n):Gf (joinL l) (2^n-1)=true:=by
 have hp:=fO hn;have hj:=vG h;rw[Bj (by omega) (by have:=Nat.two_pow_pos n;omega)];intro i hi;rw[Nat.testBit_two_pow_sub_one];refine decide_eq_true ?_;rcases Nat.lt_or_ge i n with h|h
 ·exact h
 ·rw[Nat.testBit_lt_two_pow (Nat.lt_of_lt_of_le hj (Nat.pow_le_pow_right (by decide) h))]at hi;cases hi
theorem lH{p:Nat→Bool}{n:Nat}(hn:n≤64):gP (aS p n)=(List.range n).filter p:=by
 unfold gP;obtain⟨m,hm⟩:=Nat.le.dest hn;rw[←hm,List.range_add,List.filter_append];have h1:(List.range n).filter (fun i=>(aS p n).testBit i)=(List.range n).filter p:=List.filter_congr fun i hi=>by
  have:i<n:=(by simpa using hi);rw[aK];simp[this]
 have h2:((List.range m).map (n+·)).filter (fun i=>(aS p n).testBit i)=[]:=by
  rw[List.filter_eq_nil_iff];intro i hi;obtain⟨k,_,rfl⟩:=List.mem_map.1 hi;rw[aK];simp;intro h;omega
 rw[h1,h2,List.append_nil]
def iO(a b:Nat):ak:=fun x y=>decide (x=a)&&decide (y=b)
def noE:ak:=fun _ _=>false
theorem Bn(n:Nat):dA n noE=List.replicate n 0:=by
 refine List.ext_getElem (by simp[aL]) fun a h1 h2=> ?_;have ha:a<n:=(by rw[aL]at h1;exact h1);rw[fA ha,List.getElem_replicate];refine Nat.eq_of_testBit_eq (fun i=> ?_);rw[aK];simp[noE]
theorem rW{p:Nat→Bool}{n b:Nat}(hb:b<n)(hn:n≤64):mU (aS p n) (b:Int)=aS (fun y=>p y||decide (y=b)) n:=by
 refine zD ?_ (fun i hi=> ?_)
 ·refine Nat.lt_pow_two_of_testBit _ (fun i hi=> ?_);rw[yI _ (by omega),aK];simp;omega
 ·rw[yI _ (by omega),aK];have:decide (b=i)=decide (i=b):=(by simp[eq_comm]);simp[hi,this]
theorem Gh{n:Nat}{E:ak}{a b:Nat}(ha:a<n)(hb:b<n)(hn:n≤64):(dA n E).set a (mU ((dA n E)[a]'(by rw[aL];exact ha)) (b:Int))=dA n (orE E (iO a b)):=by
 generalize e2:(dA n E)[a]'(by rw[aL];exact ha)=v;rw[fA ha]at e2;subst e2;refine List.ext_getElem (by simp[aL]) fun x h1 h2=> ?_;have hx:x<n:=(by rw[aL]at h2;exact h2);have e1:(dA n (orE E (iO a b)))[x]'h2=aS (orE E (iO a b) x) n:=fA hx;have e3:(dA n E)[x]'(by rw[aL];exact hx)=aS (E x) n:=fA hx;rw[List.getElem_set,e1];split
 ·rename_i e;subst e;rw[rW hb hn];exact bZ fun y hy=>by simp[orE,iO]
 ·rename_i e;rw[e3];exact bZ fun y hy=>by
   have:decide (x=a)=false:=(by simp;omega);simp[orE,iO,this]
theorem rX(a b:Nat):joinL [a,b]=a|||b:=by unfold joinL;simp
theorem zK{p q:Nat→Bool}{n:Nat}:aS p n|||aS q n=aS (fun y=>p y||q y) n:=by
 refine zD (Nat.or_lt_two_pow (jG _ _) (jG _ _)) (fun i hi=> ?_);rw[Nat.testBit_or,aK,aK];simp[hi]
def mV(n:Nat)(E:ak):List (Nat×Nat):=((List.range n).map fun a=>((List.range n).filter (E a)).map fun b=>(a,b)).flatten
theorem vH{n:Nat}{E:ak}{a b:Nat}:(a,b)∈mV n E↔a<n∧b<n∧E a b=true:=by
 unfold mV;rw[List.mem_flatten];constructor
 ·rintro⟨l,hl,h⟩;obtain⟨x,hx,rfl⟩:=List.mem_map.1 hl;obtain⟨y,hy,e⟩:=List.mem_map.1 h;injection e with e1 e2
  subst e1 e2;rw[List.mem_filter]at hy;exact⟨by simpa using hx,by simpa using hy.1,hy.2⟩
 ·rintro⟨ha,hb,he⟩;exact⟨_,List.mem_map.2 ⟨a,by simpa using ha,rfl⟩,List.mem_map.2 ⟨b,List.mem_filter.2 ⟨by simpa using hb,he⟩,rfl⟩⟩
def ofL(l:List (Nat×Nat)):ak:=fun a b=>l.contains (a,b)
theorem Jr(l:List (Nat×Nat))(a b:Nat):ofL (l++[(a,b)])=orE (ofL l) (iO a b):=by
 funext x y;unfold ofL orE iO;rw[Bool.eq_iff_iff];simp
end Go.Inq
namespace Go.Inq
open Go Go.RowKit
def Gi(n:Nat):List Value:=[.int .u64 n]
def iq(w:World)(K:Nat→Prop)(v:Value)(l:List Nat):Prop:=SlR 1 (Flat Gi) w K v l
section
variable{w w':World}{K K':Nat→Prop}{v:Value}{l:List Nat}
theorem iq.keep(h:iq w K v l)(ha:Agree K w w')(hk:∀b,K b→K' b):iq w' K' v l:=SlR.keep (Flat.aZ _) h ha hk
theorem iq.below(h:iq w (Old w) v l)(hb:Below w.heap.size w w'):iq w' (Old w') v l:=SlR.below (Flat.aZ _) h hb
theorem iq.fit(h:iq w K v l)(hk:∀b,K b→K' b):iq w K' v l:=SlR.fit (Flat.aZ _) h hk
theorem iq.at_{A:Option Addr}{n c:Nat}(h:iq w K (.slice A n c) l){i:Nat}(hi:i<l.length):∃b off,A=some ⟨b,off,none⟩∧K b∧w.cell? ⟨b,off+i,none⟩=some (.int .u64 (l[i]:Nat)):=by
 obtain⟨b,off,cs,hA,hK,_,hR,hc⟩:=SlR.at_ h hi;unfold Flat at hR;subst hR;have:=hc 0 _ rfl;rw[Nat.mul_one,Nat.add_zero]at this;exact⟨b,off,hA,hK,this⟩
theorem iq.cells{b off n c:Nat}(h:iq w K (.slice (some ⟨b,off,none⟩) n c) l){i:Nat}(hi:i<l.length):K b∧w.cell? ⟨b,off+i,none⟩=some (.int .u64 (l[i]:Nat)):=by
 obtain⟨cs,hK,_,hR,hc⟩:=SlR.cells h hi;unfold Flat at hR;subst hR;have:=hc 0 _ rfl;rw[Nat.mul_one,Nat.add_zero]at this;exact⟨hK,this⟩
theorem iq.nil(w:World)(K:Nat→Prop)(A:Option Addr)(c:Nat):iq w K (.slice A 0 c) []:=SlR.nil _ _ _ _ _ _
theorem iq.bE{g:Nat}{t:TypeId}(h:Blk w g t (l.map fun x:Nat=>Value.int .u64 x).toArray)(hK:K g):iq w K (.slice (some ⟨g,0,none⟩) l.length l.length) l:=by
 refine⟨some ⟨g,0,none⟩,l.length,l.map Gi,rfl,Nat.le_refl _,by simp,fun i cs x h1 h2=> ?_,fun _=>⟨g,0,rfl,hK,fun i j cs u h1 h2=> ?_⟩⟩
 ·rw[List.getElem?_map,h2]at h1;injection h1 with h1
  exact⟨by rw[←h1];rfl,h1.symm⟩
 ·rw[List.getElem?_map]at h1;cases hl:l[i]? with
  |none=>rw[hl]at h1;cases h1
  |some x=>
   rw[hl]at h1;injection h1 with h1
   subst h1;cases j with
   |zero=>
    injection h2 with h2
    rw[Nat.zero_add,Nat.mul_one,Nat.add_zero,h.cell,gA,List.getElem?_map,hl,←h2];rfl
   |succ j=>simp[Gi]at h2
end
structure GrS(w:World)(K:Nat→Prop)(n:Nat)(A:Option Addr)(c:Nat)(E:ak):Prop where
 sl:iq w K (.slice A n c) (dA n E)
 n64:n≤64
def bn(n:Nat)(E:ak):Array Value:=((dA n E).map fun x:Nat=>Value.int .u64 x).toArray
theorem mW{n:Nat}{E:ak}{a:Nat}(h:a<n):(bn n E)[a]?=some (.int .u64 (aS (E a) n:Nat)):=by
 unfold bn;rw[gA,List.getElem?_map,List.getElem?_eq_getElem (by rw[aL];exact h),fA h];rfl
theorem yJ{n:Nat}{E:ak}{a b:Nat}(ha:a<n)(hb:b<n)(hn:n≤64):(bn n E).setIfInBounds a (.int .u64 (mU (aS (E a) n) (b:Int):Nat))=bn n (orE E (iO a b)):=by
 unfold bn;rw[←Gh ha hb hn,sA,List.map_set,fA ha]
theorem yK{n:Nat}{E:ak}{a x:Nat}{p:Nat→Bool}(ha:a<n)(hx:x=aS p n):(bn n E).setIfInBounds a (.int .u64 (x:Nat))=bn n (fun i=>if i=a then p else E i):=by
 unfold bn;rw[sA];congr 1;refine List.ext_getElem (by simp[aL]) fun i h1 h2=> ?_;have hi:i<n:=(by simpa[aL]using h2);rw[List.getElem_set,List.getElem_map,List.getElem_map,fA hi,fA hi];by_cases e:a=i
 ·subst e;rw[if_pos rfl,if_pos rfl,hx]
 ·rw[if_neg e,if_neg (fun h=>e h.symm)]
theorem Js(n:Nat):bn n noE=madeCells #[.int .u64 0] n:=by
 unfold bn;rw[Bn];refine Array.ext (by simp[size_madeCells]) fun i h1 h2=> ?_;simp[madeCells,Nat.mod_one]
theorem bW{n:Nat}{E F:ak}(h:∀a b,a<n→b<n→E a b=F a b):bn n E=bn n F:=by unfold bn;rw[tC h]
section
variable{w w':World}{K K':Nat→Prop}{n c:Nat}{A:Option Addr}{E F:ak}
theorem GrS.keep(h:GrS w K n A c E)(ha:Agree K w w')(hk:∀b,K b→K' b):GrS w' K' n A c E:=⟨h.sl.keep ha hk,h.n64⟩
theorem GrS.below(h:GrS w (Old w) n A c E)(hb:Below w.heap.size w w'):GrS w' (Old w') n A c E:=⟨h.sl.below hb,h.n64⟩
theorem GrS.fit(h:GrS w K n A c E)(hk:∀b,K b→K' b):GrS w K' n A c E:=⟨h.sl.fit hk,h.n64⟩
theorem GrS.at_(h:GrS w K n A c E){i:Nat}(hi:i<n):∃b off,A=some ⟨b,off,none⟩∧K b∧w.cell? ⟨b,off+i,none⟩=some (.int .u64 (aS (E i) n:Nat)):=by
 obtain⟨b,off,hA,hK,hc⟩:=h.sl.at_ (i:=i) (by rw[aL];exact hi);rw[fA hi]at hc;exact⟨b,off,hA,hK,hc⟩
theorem GrS.cells{b off:Nat}(h:GrS w K n (some ⟨b,off,none⟩) c E){i:Nat}(hi:i<n):K b∧w.cell? ⟨b,off+i,none⟩=some (.int .u64 (aS (E i) n:Nat)):=by
 obtain⟨b',off',hA,hK,hc⟩:=h.at_ hi;injection hA with hA;injection hA with h1 h2;subst h1 h2
 exact⟨hK,hc⟩
theorem GrS.bE{g:Nat}{t:TypeId}(h:Blk w g t (bn n E))(hK:K g)(hn:n≤64):GrS w K n (some ⟨g,0,none⟩) n E:=by
 have:=iq.bE (l:=dA n E) h hK;rw[aL]at this;exact⟨this,hn⟩
theorem GrS.congr(h:GrS w K n A c E)(hE:∀a b,a<n→b<n→E a b=F a b):GrS w K n A c F:=⟨by rw[←tC hE];exact h.sl,h.n64⟩
theorem GrS.zero(w:World)(K:Nat→Prop)(A:Option Addr)(c:Nat)(E:ak):GrS w K 0 A c E:=⟨by simpa[dA]using iq.nil w K A c,by omega⟩
end
theorem dS{p:Nat→Bool}{n:Nat}(h:n≤64):aS p n<18446744073709551616:=Nat.lt_of_lt_of_le (jG p n) (fO h)
def Jt(t:TypeId)(w:World)(n:Nat)(E:ak)(e:Ending)(w':World):Prop:=
 ∃g,w.heap.size≤g∧e= .returned (.tuple #[.agg #[.int .i64 n,.slice (some ⟨g,0,none⟩) n n],.int .i64 0])∧Blk w' g t (bn n E)∧Below w.heap.size w w'
theorem Jt.congr{t:TypeId}{w w':World}{n:Nat}{E F:ak}{e:Ending}(h:Jt t w n E e w')(hE:∀a b,a<n→b<n→E a b=F a b):Jt t w n F e w':=by
 unfold Jt at h⊢;rw[←bW hE];exact h
end Go.Inq
namespace Go.Proofs.YtfhnamomiaekdaaGreatDoor
open Go.RowKit Go.Inq
set_option maxHeartbeats 1000000
attribute [local go_sem↓] Go.wp_at_zero Go.wp_at_succ
theorem Fq(i:Int)(w:World):Calls Tryz.prog 173 #[.int .i64 i] w fun e w'=>e= .returned (.int .u64 (qH i:Nat))∧w=w':=by
 by_cases h0:i<0
 ·have hr:=hide (Jo h0);have h0b:decide (i<0)=true:=(by simpa using h0);clear h0;go_enter Tryz.func173,Tryz.ntmps173;go_wp2;go_ret;exact⟨by rw[hr.out];rfl,rfl⟩
 ·by_cases h1:64≤i
  ·have hr:=hide (Gc h1);have h0b:decide (i<0)=false:=(by simpa using h0);have h1b:decide (i≥64)=true:=(by simpa using h1);clear h0 h1;go_enter Tryz.func173,Tryz.ntmps173;go_wp2;go_ret;exact⟨by rw[hr.out];rfl,rfl⟩
  ·have hr:=hide (Fp (i:=i) (by omega) (by omega));have hlt:=hide (zI i);have h0b:decide (i<0)=false:=(by simpa using h0);have h1b:decide (i≥64)=false:=(by simpa using h1);have h2:0≤i:=(by omega);have h3:i≤64:=(by omega);clear h0 h1;go_enter Tryz.func173,Tryz.ntmps173;go_wp2;go_ret;refine⟨cZ ?_,rfl⟩;have e1:=hr.out;have e2:=hlt.out;rw[e1]at e2;have e3:min i.toNat IntKind.u64.bits=i.toNat:=(by simp[IntKind.bits];omega);try rw[e3]
   rw[IntKind.wrap_u64,e1];have e4:((2:Int)^i.toNat)=((2^i.toNat:Nat):Int):=(by simp);omega
theorem Gj(s:Nat)(hs:s<18446744073709551616)(i:Int)(w:World):Calls Tryz.prog 102 #[.int .u64 s,.int .i64 i] w fun e w'=>e= .returned (.bool (Go.Inq.hasB s i))∧w=w':=by
 have h1:=u64_and_nat s (qH i) hs (zI i);have hr:=hide (Jq hs i);go_enter Tryz.func102,Tryz.ntmps102;go_wp2_with fail;refine(Fq i _).mono ?_;rintro e w1 ⟨rfl,rfl⟩;go_wp2;go_ret;refine⟨aP ?_,rfl⟩;have:=hr.out;rw[←Bool.not_not (Go.Inq.hasB s i),←this,Bool.eq_iff_iff];simp
theorem oV(s:Nat)(hs:s<18446744073709551616)(i:Int)(w:World):Calls Tryz.prog 134 #[.int .u64 s,.int .i64 i] w fun e w'=>e= .returned (.int .u64 (mU s i:Nat))∧w=w':=by
 have h1:=u64_or_nat s (qH i) hs (zI i);go_enter Tryz.func134,Tryz.ntmps134;go_wp2_with fail;refine(Fq i _).mono ?_;rintro e w1 ⟨rfl,rfl⟩;go_wp2;go_ret;exact⟨rfl,rfl⟩
theorem yL(a b:Nat)(ha:a<18446744073709551616)(hb:b<18446744073709551616)(w:World):Calls Tryz.prog 133 #[.int .u64 a,.int .u64 b] w fun e w'=>e= .returned (.bool (Gf a b))∧w=w':=by
 have h1:=u64_andNot_nat a b ha hb;go_enter Tryz.func133,Tryz.ntmps133;go_wp2;go_ret;refine⟨aP ?_,rfl⟩;unfold Gf;rw[Bool.eq_iff_iff];simp
theorem dW(A:Option Addr)(n c:Nat)(l:List Nat)(K:Nat→Prop)(w:World)(hn:l.length=n)(h:iq w K (.slice A n c) l)(h64:∀x∈l,x<18446744073709551616)(hm:n≤1000000):
 Calls Tryz.prog 171 #[.slice A n c] w fun e w'=>e= .returned (.int .u64 (joinL l:Nat))∧w=w':=by
 replace hn:=hide hn;have hj:∀k,joinL (l.take k)<18446744073709551616:=fun k=>vG (n:=64) fun x hx=>h64 x (List.mem_of_mem_take hx);replace hj:=hide hj;replace h64:=hide h64;go_enter Tryz.func171,Tryz.ntmps171;go_wp2_with fail
 go_loop [3,8] (fun s3 s8=>∃k:Nat,k≤n∧s8= .int .i64 k∧s3= .int .u64 (joinL (l.take k):Nat)) (fun _ s8=>n-(intOf s8).toNat)
 case atStart=>exact⟨0,Nat.zero_le _,by go_num,rfl⟩
 case round=>
  obtain⟨k,hk,rfl,rfl⟩:=hrel;by_cases hlt:k<n
  ·have hi1:(0:Int)≤(k:Int):=Int.natCast_nonneg _;have hi2:(k:Int)<(n:Int):=(by omega);have hkl:k<l.length:=(by rw[hn.out];exact hlt);obtain⟨b,off,rfl,hbK,hc⟩:=iq.at_ h hkl;have hor:=u64_or_nat (joinL (l.take k)) l[k] (hj.out k) (h64.out _ (List.getElem_mem hkl));have hst:=hide (Du hkl);generalize l[k]=x at*;generalize joinL (l.take k)=y at*;clear hkl;go_wp2
   go_round
   case rel=>exact⟨k+1,by omega,by go_num,by rw[hst.out]⟩
   case measure=>simp[intOf];omega
  ·obtain rfl:k=n:=(by omega);have ht:l.take k=l:=List.take_of_length_le (by rw[hn.out];exact Nat.le_refl _);rw[ht];clear ht;go_wp2;go_ret;exact⟨rfl,rfl⟩
theorem Bp(n:Nat)(hn:n≤64)(w:World):Calls Tryz.prog 172 #[.int .i64 n] w fun e w'=>e= .returned (.int .u64 (2^n-1:Nat))∧w=w':=by
 have h2:(0:Int)≤(n:Int):=Int.natCast_nonneg _;have h3:(n:Int)≤64:=(by omega);have hp:=hide (fO hn);have hp2:=hide (Nat.two_pow_pos n);go_enter Tryz.func172,Tryz.ntmps172;go_wp2;go_ret;refine⟨cZ ?_,rfl⟩;have e1:=hp.out;have e2:=hp2.out;have e3:min n IntKind.u64.bits=n:=(by simp[IntKind.bits];omega);have e4:((2:Int)^n)=((2^n:Nat):Int):=(by simp);simp only[Int.toNat_natCast,IntKind.wrap_u64]at*;try rw[e3]
 rw[e4];generalize 2^n=x at*;omega
def gL(w:World):Prop:=∀j,j<Lib.deBruijn64tab.length→w.cell? ⟨0,j,none⟩=some (.int .u8 (Lib.deBruijn64tab.getD j 0))
theorem gL.lt{w:World}(h:gL w):0<w.heap.size:=by
 have:=h 0 (by decide);rcases Nat.lt_or_ge 0 w.heap.size with g|g
 ·exact g
 ·unfold World.cell? at this;simp[Array.getElem?_eq_none g]at this
theorem gL.below{w w':World}(h:gL w)(hb:Below w.heap.size w w'):gL w':=fun j hj=>(hb.cell (p:=⟨0,j,none⟩) h.lt).trans (h j hj)
theorem gL.drewN{w:World}(h:gL w)(n:Nat):gL (w.drewN n):=h
theorem Np(x a:Nat)(hx:x<18446744073709551616)(hx0:x≠0)(hlow:x&&&(18446744073709551616-x)=a):
 IntKind.u64.wrap (bits BinOp.and IntKind.u64 (x:Int) (IntKind.u64.wrap (-(x:Int)))*285870213051353865)/288230376151711744=((a*285870213051353865%18446744073709551616/288230376151711744:Nat):Int):=by
 have e1:IntKind.u64.wrap (-(x:Int))=((18446744073709551616-x:Nat):Int):=(by rw[IntKind.wrap_u64];omega);rw[e1,u64_and_nat x _ hx (by omega),hlow,IntKind.wrap_u64];omega
theorem Lx (x k idx:Nat) (w:World) (hx0:((x:Int)==0)=false)
 (key:IntKind.u64.wrap (bits BinOp.and IntKind.u64 (x:Int) (IntKind.u64.wrap (-(x:Int)))*285870213051353865)/288230376151711744=(idx:Int))
 (hi:idx<64) (hk:k<64) (hcell:w.cell? ⟨0,idx,none⟩=some (.int .u8 k)):
 Calls Tryz.prog 192 #[.int .u64 x] w fun e w'=>e= .returned (.int .i64 k)∧w=w':=by
 go_enter Tryz.func192,Tryz.ntmps192;go_wp2_with (simp only[key]);go_ret;exact⟨rfl,rfl⟩
theorem Ju(x:Nat)(hx:x<18446744073709551616)(w:World)(hT:gL w):
 Calls Tryz.prog 192 #[.int .u64 x] w fun e w'=>e= .returned (.int .i64 (Lib.ctz 64 x))∧w=w':=by
 by_cases hx0:x=0
 ·subst hx0;go_enter Tryz.func192,Tryz.ntmps192;go_wp2;go_ret;exact⟨rfl,rfl⟩
 ·obtain⟨hlow,hk⟩:=Lib.lowest_bit 64 x hx0 hx;obtain⟨hi,htab⟩:=Lib.deBruijn64_at _ hk;have hcell:=hT _ hi;rw[htab]at hcell;exact Lx x _ _ w (by simp;omega) (Np x _ hx hx0 hlow) hi hk hcell
def aB(l:List Nat):List Int:=l.map fun(n:Nat)=>(n:Int)
theorem dX(l:List Nat)(x:Nat):aB (l++[x])=aB l++[(x:Int)]:=by simp[aB]
theorem aF(l:List Nat):(aB l).length=l.length:=by simp[aB]
theorem jg{l:List Nat}{i:Nat}(h:i<l.length):(aB l)[i]'(by rw[aF];exact h)=(l[i]:Int):=by simp[aB]
theorem gD:(Tryz.prog.info? 3).map (fun i=>(i.zero,i.size,i.bytes))=some (some (.int .i64 0),1,8):=by kernel_rfl
def aV(w:World)(base:Nat)(v:Value)(l:List Int):Prop:=w.ownsRow base 3 1 v l.length (l.map Go.Inq.encI).flatten
def vI(w:World)(l:List Int)(e:Ending)(w':World):Prop:=∃v,e= .returned v∧aV w' w.heap.size v l∧Below w.heap.size w w'
theorem aV.form{w:World}{base:Nat}{v:Value}{l:List Int}(h:aV w base v l):∃A c,v= .slice A l.length c:=aM h
theorem aV.sl{w:World}{base:Nat}{v:Value}{l:List Int}(h:aV w base v l){K:Nat→Prop}(hK:∀g,base≤g→g<w.heap.size→K g):aN w K v l:=SlR.of_flat h rfl (fun _=>rfl) hK
theorem aV.nil(w:World)(base:Nat):aV w base (.slice none 0 0) []:=World.ownsRow_nil _ _ _ _
def B64(n:Nat):Prop:=n<18446744073709551616
def Bq(s y:Nat)(l:List Nat):Prop:=l++gP y=gP s
theorem Dv{s y:Nat}{l:List Nat}(h:Bq s y l)(h0:y≠0)(hy:y<18446744073709551616):Bq s (y&&&(y-1)) (l++[Lib.ctz 64 y]):=by
 unfold Bq at h⊢;rw[←h,oQ y h0 hy];simp
theorem lI(s:Nat)(hs:s<18446744073709551616)(w:World)(hT:gL w):
 Calls Tryz.prog 131 #[.int .u64 s] w (vI w (aB (gP s))):=by
 obtain⟨ii,hii,hi1,hi2,hi3⟩:=info_parts gD;go_enter Tryz.func131,Tryz.ntmps131;go_wp2_with fail;go_loopw [0,3] (fun s0 s3 wr=>∃(y:Nat) (l:List Nat),B64 y∧s0= .int .u64 y∧Hid (Bq s y l)∧aV wr w.heap.size s3 (aB l)∧Below w.heap.size w wr) (fun s0 _ _=>(gP (intOf s0).toNat).length);case atStart=>exact⟨s,[],hs,rfl,(show[]++gP s=gP s from rfl),aV.nil _ _,Below.refl _ _⟩
 case round=>
  obtain⟨y,l,hy,rfl,hr,hown,hb⟩:=hrel;unfold B64 at hy;by_cases h0:y=0
  ·subst h0;have he:=hr.out;unfold Bq at he;rw[Dn,List.append_nil]at he;subst he;go_wp2;go_ret;exact⟨_,rfl,hown,hb⟩
  ·have h0b:((y:Int) !=0)=true:=(by simp;omega);have hT2:=hT.below hb;have hn:=hide (Dv hr.out h0 hy);have hlen:l.length+1≤64:=by
    have h1:=congrArg List.length hr.out;have h2:=congrArg List.length (oQ y h0 hy);have h3:=F6 s;simp only[List.length_append,List.length_cons]at h1 h2;omega
   have hand:=u64_and_nat y (y-1) hy (by omega);have hsub:IntKind.u64.wrap ((y:Int)-1)=((y-1:Nat):Int):=(by rw[IntKind.wrap_u64];omega);have hlt:=hide (Jj y hy);have hms:=hide (show(gP (y&&&(y-1))).length<(gP y).length by rw[oQ y h0 hy];simp);generalize y&&&(y-1)=z at*;generalize y-1=y1 at*;have hsz:=hb.size;obtain⟨A,c,rfl⟩:=hown.form;replace hown:=hide hown;replace hr:=hide hr.out;replace hy:=hide hy;clear h0 hs;go_wp2_with (first|(go_at_call 192;refine(Ju y hy.out _ hT2).mono ?_;rintro e w' ⟨rfl,rfl⟩)|(at_builtin;refine bI (enc:=Go.Inq.encI) rfl (.tmp 10) (.tmp 13) 33 rfl w.heap.size 3 ii _ 1 8 Tryz.underlying33 hii hi1 hi2 hi3 rfl (by decide) (.slice A (aB l).length c) (aB l) rfl hown.out (fun _=>rfl) (Lib.ctz 64 y:Int) _ rfl rfl fU (by rw[aF];simp[maxLen];omega) (by rw[aF];omega) hsz w w.heap.size (Nat.le_refl _) hb ?_;intro v1 w1 hown1 hg1 hb1 _));go_roundw;case rel=>exact⟨z,l++[Lib.ctz 64 y],hlt.out,rfl,hn,by unfold aV;rw[dX];exact hown1,hb1⟩
   case measure=>
    simp only[intOf,Int.toNat_natCast];exact hms.out
end Go.Proofs.YtfhnamomiaekdaaGreatDoor
namespace Go.Proofs.YtfhnamomiaekdaaGreatDoor
open Go.RowKit Go.Inq Go.Shelf
set_option maxHeartbeats 4000000
attribute [local go_sem] Oper.semAt_some
attribute [local go_sem↓] Go.wp_at_zero Go.wp_at_succ
theorem Dw(v:Value)(w:World):Calls Tryz.prog 259 #[.agg #[v]] w fun e w'=>e= .returned (.func (.func 272) #[] #[.pointer (some ⟨w.heap.size,0,none⟩)])∧w'=w.alloc (.cells #[v] 24):=by
 go_enter Tryz.func259,Tryz.ntmps259;go_wp2;go_ret;exact⟨rfl,rfl⟩
theorem oW{n₀:Nat}{w:World}(hn:n₀≤w.heap.size)(W:World)(l:Nat)(o o':Obj)(hl:w.heap.size≤l)(_:W.heap[l]?=some o)(_:o.isCells=false)(_:o.isWalk=false):Below n₀ W (W.putObj l o'):=
 ⟨rfl,rfl,rfl,by simp,fun k hk=>World.putObj_heap_other (by omega)⟩
theorem zL(Bh n₀ c:Nat)(A:Option Addr)(H:List Txn)(hS:aC H)(hr:aA H=true)(w:World)(hBn:Bh<w.heap.size)(hnW:n₀≤w.heap.size)(hc:w.cell? ⟨Bh,0,none⟩=some (.slice A H.length c))(hT:av w (fun b=>b<n₀) (.slice A H.length c) H):
 SeqStopsK Fence.wide (3-1) Tryz.prog 272 #[.pointer (some ⟨Bh,0,none⟩)] (fun x:Nat×It=>#[A9 x]) (fun W W'=>Below n₀ W W') (fun ys=>ys=gu H) (fun pre=>pre<+:gu H) (gu H).length w:=fun l J Jx W hW hJ _ hY h0=>
 Gb (3-1) (by omega) l Bh n₀ c A H hS hr J Jx W hJ hY ((hW.cell (p:=⟨Bh,0,none⟩) hBn).trans hc) (Nat.le_trans hnW hW.size) (av.keep hT (Agree.below hW fun b h=>Nat.lt_of_lt_of_le h hnW) (fun b h=>h)) h0
def ku(key src:Int)(l:List (Nat×It)):List Nat:=(l.filter fun x=>decide (x.2.a=key)&&decide (x.2.b=src)).map (·.1)
theorem Gl(key src:Int)(l:List (Nat×It))(x:Nat×It):ku key src (l++[x])=ku key src l++(if decide (x.2.a=key)&&decide (x.2.b=src)then[x.1]else[]):=by
 unfold ku;rw[List.filter_append,List.map_append];congr 1;cases h:decide (x.2.a=key)&&decide (x.2.b=src)<;>simp[List.filter_cons,h]
theorem Br(H:List Txn)(key src:Int):ku key src (gu H)=xV H key src:=by
 unfold ku gu bR xV;rw[List.filter_flatten,List.map_flatten,List.map_map,List.map_map];congr 1;refine List.map_congr_left fun t _=> ?_;simp only[Function.comp_apply,qD,List.filter_map,List.map_map];rfl
theorem mH{H:List Txn}(h:∀i (hi:i<H.length),H[i].reads.length≤1000000):∀k,k≤H.length→(bR H k).length≤k*1000000
 |0,_=>by simp[bR]
 |k+1,hk=>by
  rw[lG,List.length_append,aH (by omega)];have:=mH h k (by omega);have:=h k (by omega);simp only[qD,List.length_map];omega
theorem vJ{H:List Txn}(hn:aC H)(hr:aA H=true):(gu H).length≤32000000:=by
 have h32:H.length≤32:=((aD H).1 hr).1;have:=mH (fun i hi=>(hn.2 _ (List.getElem_mem hi)).2) H.length (Nat.le_refl _);unfold gu;omega
theorem boxed_own{X Y:World}{row:Option Nat}{B:Nat}{t:TypeId}{v:Value}(hs:Boxed X B t v)(hg:X.grownBy Y row)(hrow:∀r,row=some r→∃o:Obj,X.heap[r]?=some o∧o.isCells=false):Boxed Y B t v:=
 hs.kept hg (fun e'=>by obtain⟨o,ho,hc⟩:=hrow B e'.symm;rw[show X.heap[B]?=_ from hs]at ho;cases ho;cases hc)
theorem iw{w:World}{base base':Nat}{e:TypeId}{size n:Nat}{v:Value}{xs:List Value}(h:w.ownsRow base e size v n xs)(hb:base'≤base):w.ownsRow base' e size v n xs:=by
 refine⟨h.1,?_⟩;rcases h.2 with h2|⟨g,cap,cur,hv,hg,r⟩
 ·exact .inl h2
 ·exact .inr ⟨g,cap,cur,hv,Nat.le_trans hb hg,r⟩
theorem oC {F:Fence} {nF:Nat} {P:Program} {W:World} {ops:Array Oper} {rest:List Oper} {o:Oper} {a:Act} {Q:Exit→Act→World→Prop}
 (hgd:o.guard=none) (s x:Operand) (t:TypeId) (ho:o.op= .call {callee:= .builtin .append,args:=#[s,x],argTypes:=#[t,t]})
 (base:Nat) (e:TypeId) (i:TypeInfo) (z:Value) (bytes:Nat) (ht:P.underlying t=some (.slice e)) (hi:P.info? e=some i) (hz:i.zero=some z)
 (hsize:i.size=1) (hby:i.bytes=bytes) (hzs:z.cells.size=1)
 (v:Value) (l:List Int) (hs:a.eval s=v) (hown:W.ownsRow base e 1 v l.length (l.map Go.Inq.encI).flatten)
 (x0:Int) (hx:a.eval x= .slice (some ⟨W.heap.size,0,none⟩) 1 1)
 (h63:l.length+1≤maxLen) (hbytes:(l.length+1)*bytes≤140737488355328) (hbase:base≤W.heap.size)
 (h:∀v' w',w'.ownsRow base e 1 v' (l++[x0]).length ((l++[x0]).map Go.Inq.encI).flatten→(W.alloc (.cells #[.int .i64 x0] e)).grownBy w' v.ownBlock→(v'.ownBlock=v.ownBlock∨v'.ownBlock=some (W.heap.size+1))→wpListIn F nF P ops Q rest (a.put o.dst v') w'):
 wpListIn F nF P ops Q (o::rest) a (W.alloc (.cells #[.int .i64 x0] e)):=by
 have hk:Blk (W.alloc (.cells #[.int .i64 x0] e)) W.heap.size e #[.int .i64 x0]:=Blk.new _ _ _;refine wpListIn_append_own_at _ hgd s x t ho base e i z 1 bytes ht hi hz hsize hby hzs (by decide) v l.length _ hs (hown.alloc _) ⟨W.heap.size,0,none⟩ 1 1 [.int .i64 x0] hx rfl (fun j u hj=> ?_) (by simp[Value.oneCell']) h63 hbytes (by simp;omega) ?_
 ·cases j with
  |zero=>injection hj with hj;subst hj;exact hk.cell 0
  |succ j=>simp at hj
 ·intro v' w' g1 g2 _ g3;refine h v' w' ?_ g2 (by simpa using g3);rw[List.map_append,List.flatten_append,List.length_append];exact g1
set_option maxRecDepth 100000 in
theorem zM(A:Option Addr)(c:Nat)(H:List Txn)(key src:Int)(w:World)(h:av w (Old w) (.slice A H.length c) H)(hn:aC H)(hr:aA H=true):
 Calls Tryz.prog 226 #[.agg #[.slice A H.length c],.int .i64 key,.int .i64 src] w (vI w (aB (xV H key src))):=by
 refine(callsIn_wide (n:=3)).1 ?_;have hro:Fence.wide.round=none:=rfl;refine callsIn_of_wp_marks Tryz.func226 rfl trivial ?_ hro;simp only[Tryz.ntmps226,List.size_toArray,List.length_cons,List.length_nil,Nat.reduceAdd,Nat.reduceSub,Array.replicate_succ,Array.replicate_zero,List.push_toArray,List.append_toArray,List.nil_append,List.cons_append]
 gi_wp2_with fail
 refine⟨trivial,?_⟩;refine(callsIn_wide.2 (Dw _ _)).mono ?_;rintro e w1 ⟨rfl,rfl⟩;dsimp only
 gi_wp2
 obtain⟨ii,hii,hi1,hi2,hi3⟩:=info_parts gD;obtain⟨W0,hW0⟩:∃W0,((((w.alloc (.cells #[.slice A H.length c] 24)).alloc (.cells #[.int .i64 key] 3)).alloc (.cells #[.int .i64 src] 3)).alloc (.cells #[.slice none 0 0] 33)).alloc (.cells #[.slice A H.length c] 24)=W0:=⟨_,rfl⟩;have hs0:W0.heap.size=w.heap.size+5:=(by rw[←hW0];simp);have hBW:Below w.heap.size w W0:=(by rw[←hW0];exact(((((Below.refl _ w).alloc (Nat.le_refl _) _).alloc (by simp) _).alloc (by simp;omega) _).alloc (by simp;omega) _).alloc (by simp;omega) _);have k1:Blk W0 (w.heap.size+1) 3 #[.int .i64 key]:=by
  rw[←hW0];have:=Blk.new (w.alloc (.cells #[.slice A H.length c] 24)) 3 #[.int .i64 key];simp only[World.size_alloc]at this;exact((this.alloc _).alloc _).alloc _
 have k2:Blk W0 (w.heap.size+2) 3 #[.int .i64 src]:=by
  rw[←hW0];have:=Blk.new ((w.alloc (.cells #[.slice A H.length c] 24)).alloc (.cells #[.int .i64 key] 3)) 3 #[.int .i64 src];simp only[World.size_alloc]at this;exact(this.alloc _).alloc _
 have k3:Blk W0 (w.heap.size+3) 33 #[.slice none 0 0]:=by
  rw[←hW0];have:=Blk.new (((w.alloc (.cells #[.slice A H.length c] 24)).alloc (.cells #[.int .i64 key] 3)).alloc (.cells #[.int .i64 src] 3)) 33 #[.slice none 0 0];simp only[World.size_alloc]at this;exact this.alloc _
 have k4:Blk W0 (w.heap.size+4) 24 #[.slice A H.length c]:=by
  rw[←hW0];have:=Blk.new ((((w.alloc (.cells #[.slice A H.length c] 24)).alloc (.cells #[.int .i64 key] 3)).alloc (.cells #[.int .i64 src] 3)).alloc (.cells #[.slice none 0 0] 33)) 24 #[.slice A H.length c];simp only[World.size_alloc]at this;exact this
 simp only[World.size_alloc];rw[hW0];have h2:av W0 (fun b=>b<w.heap.size) (.slice A H.length c) H:=av.keep h (Agree.below hBW fun b h=>h) (fun b h=>h);have c4:=Blk.n0 k4;clear hW0;have PS:=vJ hn hr;refine wpIn_rangeFunc_ownH hro (by omega) (gf:=272) (lb:=#[.pointer (some ⟨w.heap.size+4,0,none⟩)]) rfl trivial (enters_of Tryz.func272 (by kernel_rfl) rfl)
  (zL (w.heap.size+4) w.heap.size c A H hn hr W0 (by omega) (by omega) c4 h2) (fun h k=>h.trans k) (oW (by omega)) (Below.refl _ _) (fun _=>rfl)
  (fun pre W=>((∃v,Boxed W (w.heap.size+3) 33 v∧W.ownsRow (w.heap.size+5) 3 1 v (aB (ku key src pre)).length ((aB (ku key src pre)).map Go.Inq.encI).flatten∧True)∧(Boxed W (w.heap.size+1) 3 (.int .i64 key)∧Boxed W (w.heap.size+2) 3 (.int .i64 src)∧w.heap.size+5≤W.heap.size))∧Below w.heap.size w W)
  (fun cc pre W=>False)
  (OwnFrom.and (OwnFrom.and (Own.from (holdsRow_own (w.heap.size+5) (w.heap.size+3) 33 3 1 (fun pre=>(aB (ku key src pre)).length) (fun pre=>((aB (ku key src pre)).map Go.Inq.encI).flatten) (fun _ _=>True)) _) (Own.from (fun s A B row hs hg hr=>⟨boxed_own hs.1 hg hr,boxed_own hs.2.1 hg hr,Nat.le_trans hs.2.2 hg.size⟩) _)) (ownFrom_below (Nat.le_refl _) (by omega)))
  (fun cc s A B row hs hg hr=>hs)
  ⟨⟨⟨.slice none 0 0,k3,World.ownsRow_nil _ _ _ _,trivial⟩,k1,k2,by omega⟩,hBW⟩
  (fun x a' W=>∃B8,a'={tmps:=#[.agg #[.slice A H.length c],.int .i64 key,.int .i64 src,.pointer (some ⟨w.heap.size,0,none⟩),.pointer (some ⟨w.heap.size+1,0,none⟩),.pointer (some ⟨w.heap.size+2,0,none⟩),.slice none 0 0,.pointer (some ⟨w.heap.size+3,0,none⟩),.pointer (some ⟨B8,0,none⟩),.agg #[.slice A H.length c],.func (.func 272) #[] #[.pointer (some ⟨w.heap.size+4,0,none⟩)],A9 x,undef,undef,undef,undef,undef,undef,undef,undef,undef,undef,undef,undef,undef,undef,undef,undef,undef,undef],defers:=[]}∧w.heap.size+5≤B8∧Blk W B8 315 #[.int .i64 (x.1:Nat),.int .i64 x.2.a,.int .i64 x.2.b])
  (fun x a'=>Own.from (fun s A B row hs hg hr=>by obtain⟨B8,e,hB,hk⟩:=hs;exact⟨B8,e,hB,hk.grown hg (fun e'=>by obtain⟨o,ho,hc⟩:=hr B8 e'.symm;rw[show A.heap[B8]?=_ from hk]at ho;cases ho;cases hc)⟩) _) ?assign ?body ?done ?stop
 case assign=>
  rintro l pre ⟨xt,xa,xb⟩ W K ⟨⟨⟨v,hv,hr,_⟩,hk,hs,hW5⟩,hB⟩ hK;unfold A9;dsimp only
  gi_wp2
  refine hK _ _ (KeepsOthers.alloc _ _|>.from _) ((Below.refl _ _).alloc (by omega) _) ⟨⟨⟨v,hv.alloc _,hr.alloc _,trivial⟩,hk.alloc _,hs.alloc _,by simp;omega⟩,hB.alloc (by omega) _⟩ ⟨W.heap.size,rfl,hW5,Blk.new _ _ _⟩
 case body=>
  rintro l pre ⟨xt,xa,xb⟩ a' W hl ⟨rl,hrl⟩ ⟨⟨⟨v,hv,hr,_⟩,hk,hs,hW5⟩,hB⟩ ⟨B8,rfl,hB8,k8⟩ hlen;have e0:=Blk.n0 k8;have e1:=Blk.n1 k8;have e2:=Blk.n2 k8;have g1:=hk.cell;have g2:=hs.cell;have hsn:=Gl key src pre (xt,⟨xa,xb⟩);dsimp only at hsn e0 e1 e2;by_cases q1:xa=key
  ·by_cases q2:xb=src
   ·have hsel:Hid (aB (ku key src (pre++[(xt,⟨xa,xb⟩)]))=aB (ku key src pre)++[(xt:Int)]):=hide (by rw[hsn];simp[q1,q2,dX]);have q1b:(xa==key)=true:=(by simpa using q1);have q2b:(xb==src)=true:=(by simpa using q2);have hpl:(aB (ku key src pre)).length≤pre.length:=by
     rw[aF];unfold ku;rw[List.length_map];exact List.length_filter_le _ _
    have hRl:=PS;generalize aB (ku key src pre)=L at*;clear q1 q2 hsn;have hl63:L.length+1≤maxLen:=(by simp[maxLen];omega);have Jv:(L.length+1)*8≤140737488355328:=(by omega);have g3:=hv.cell;have f3:=hv.frozen;obtain⟨Av,cv,rfl⟩:=aM hr;have hlo:=hide (fun b hb=>(hr.lt b hb).1);replace hr:=hide hr
    gi_wp2_with (gi_at_builtin;refine oC rfl (.tmp 24) (.tmp 27) 33 rfl (w.heap.size+5) 3 ii _ 8 Tryz.underlying33 hii hi1 hi2 hi3 rfl (.slice Av L.length cv) L rfl hr.out (xt:Int) rfl hl63 Jv hW5 ?_;intro v1 w6 hown1 hg1 oZ;obtain⟨A1,c1,rfl⟩:=aM hown1;have hv1:=(hv.alloc (.cells #[.int .i64 (xt:Int)] 3)).kept hg1 (fun e=>by have:=hlo.out _ e.symm;omega);have g6:=hv1.cell;have f6:=hv1.frozen)
    have hk1:=(hk.alloc (.cells #[.int .i64 (xt:Int)] 3)).kept hg1 (fun e=>by have:=hlo.out _ e.symm;omega);have hs1:=(hs.alloc (.cells #[.int .i64 (xt:Int)] 3)).kept hg1 (fun e=>by have:=hlo.out _ e.symm;omega);have hz6:=hg1.size;have hlx:(L++[(xt:Int)]).length=L.length+1:=(by simp);rw[hlx]at hown1;simp only[World.size_alloc]at hz6;refine⟨(((KeepsOthers.alloc W _).trans (KeepsOthers.of_grownBy hg1 fun j o ej hj=> ?_)).trans (KeepsOthers.setCell _ _ _)).from _,?_,⟨⟨_,hv1.set _,by rw[hsel.out,hlx];exact hown1.kept (grownBy_setCell' w6 _ _) (.inr fun e=>by have:=(hown1.lt _ e).1;omega)⟩,hk1.other (by omega) _,hs1.other (by omega) _,by simp;omega⟩,?_⟩
    ·rcases(hr.out.alloc (.cells #[.int .i64 (xt:Int)] 3)).2 with⟨h1,_⟩|⟨g,cap,cur,h1,_,hgb,_⟩
     ·rw[h1]at ej;simp[Value.ownBlock]at ej
     ·rw[h1]at ej;obtain rfl:g=j:=(by simpa[Value.ownBlock]using ej);rw[hgb]at hj;cases hj;rfl
    ·exact(((Below.refl w.heap.size W).alloc (by omega) _).grown hg1 (by simp;omega) (fun j ej=>by have:=hlo.out j ej;omega)).setCell (p:=⟨w.heap.size+3,0,none⟩) (by simp) _
    ·exact((hB.alloc (by omega) _).grown hg1 (by simp;omega) (fun j ej=>by have:=hlo.out j ej;omega)).setCell (p:=⟨w.heap.size+3,0,none⟩) (by simp) _
   ·have hsel:ku key src (pre++[(xt,⟨xa,xb⟩)])=ku key src pre:=(by rw[hsn];simp[q2]);have q1b:(xa==key)=true:=(by simpa using q1);have q2b:(xb==src)=false:=(by simpa using q2);replace hsel:=hide hsel;clear q1 q2 hsn
    gi_wp2
    exact⟨(KeepsOthers.refl _).from _,Below.refl _ _,⟨⟨v,hv,by rw[hsel.out];exact hr⟩,hk,hs,hW5⟩,hB⟩
  ·have hsel:ku key src (pre++[(xt,⟨xa,xb⟩)])=ku key src pre:=(by rw[hsn];simp[q1]);have q1b:(xa==key)=false:=(by simpa using q1);replace hsel:=hide hsel;clear q1 hsn
   gi_wp2
   exact⟨(KeepsOthers.refl _).from _,Below.refl _ _,⟨⟨v,hv,by rw[hsel.out];exact hr⟩,hk,hs,hW5⟩,hB⟩
 case done=>
  rintro D xs W hD rfl ⟨⟨⟨v,hv,hr,_⟩,hk,hs,hW5⟩,hB⟩ hK;have g1:=hv.cell;have hsl:=hide (Br H key src);obtain⟨Av,cv,rfl⟩:=aM hr
  gi_wp2
  refine⟨by simp,.inl ⟨_,_,rfl,run_takeDeferred hK,?_⟩⟩;refine⟨.slice Av (aB (ku key src (gu H))).length cv,?_,_,rfl,?_,hB.trans (belowK_b (w:=w) (Nat.le_refl _) W D _ _ (by omega) hK rfl rfl)⟩
  ·simp[results,Tryz.results226,go_sem]
  ·unfold aV;rw[←hsl.out];exact iw (ownsRow_putObj hr _ hK rfl) (by omega)
 case stop=>
  rintro D cc pre W hD hpre hF hK;exact hF.elim
end Go.Proofs.YtfhnamomiaekdaaGreatDoor
namespace Go.Proofs.YtfhnamomiaekdaaGreatDoor
open Go.RowKit Go.Inq Go.Shelf
set_option maxHeartbeats 1000000
def Jw(Ds:List Nat):List Deferred:=Ds.map fun D=>{target:= .collected D,args:=#[]}
def bS(W:World)(lo hi:Nat)(Ds:List Nat):Prop:=Ds.Nodup∧∀D∈Ds,lo≤D∧D<hi∧W.heap[D]?=some (.deferred (some []))
theorem bS.nil(W:World)(lo hi:Nat):bS W lo hi []:=⟨List.nodup_nil,by simp⟩
theorem bS.up{W:World}{lo hi hi':Nat}{Ds:List Nat}(h:bS W lo hi Ds)(hh:hi≤hi'):bS W lo hi' Ds:=
 ⟨h.1,fun D hD=>⟨(h.2 D hD).1,Nat.lt_of_lt_of_le (h.2 D hD).2.1 hh,(h.2 D hD).2.2⟩⟩
theorem bS.cons{W:World}{lo hi hi' D:Nat}{Ds:List Nat}(h:bS W lo hi Ds)(h1:hi≤D)(h2:D<hi')(hl:lo≤hi)(hD:W.heap[D]?=some (.deferred (some []))):bS W lo hi' (D::Ds):=by
 refine⟨List.nodup_cons.2 ⟨fun hm=> ?_,h.1⟩,fun E hE=> ?_⟩
 ·have:=(h.2 D hm).2.1;omega
 ·rcases List.mem_cons.1 hE with rfl|hE
  ·exact⟨by omega,h2,hD⟩
  ·have:=h.2 E hE;exact⟨this.1,by omega,this.2.2⟩
theorem bS.keep{W W':World}{lo hi:Nat}{Ds:List Nat}(h:bS W lo hi Ds)(hk:∀D,lo≤D→D<hi→W.heap[D]?=some (.deferred (some []))→W'.heap[D]?=some (.deferred (some []))):bS W' lo hi Ds:=
 ⟨h.1,fun D hD=>⟨(h.2 D hD).1,(h.2 D hD).2.1,hk D (h.2 D hD).1 (h.2 D hD).2.1 (h.2 D hD).2.2⟩⟩
theorem bS.below{W W':World}{B lo hi:Nat}{Ds:List Nat}(h:bS W lo hi Ds)(hb:Below B W W')(hB:hi≤B):bS W' lo hi Ds:=
 h.keep fun D _ h2 h3=>(hb.block D (by omega)).trans h3
theorem bS.other{W W':World}{lo hi:Nat}{Ds:List Nat}(h:bS W lo hi Ds)(hk:KeepsOthers W W'):bS W' lo hi Ds:=
 h.keep fun D _ _ h3=>hk.same D _ h3 rfl
theorem Gm(lo hi B:Nat)(Ds:List Nat)(hB:hi≤B){β:Type}:OwnFrom B (fun(_:β) W=>bS W lo hi Ds):=
 fun _ X Y row hs hg hr=>hs.keep fun D _ h2 h3=>(hg.block D (Array.getElem?_eq_some_iff.1 h3).1 (fun e=>by have:=(hr D e.symm).1;omega)).trans h3
theorem qI {F:Fence} {n:Nat} {P:Program} {fn:Func} {tmps:Array Value} {R:Ending→World→Prop} {lo hi:Nat} (K:World→Prop)
 (hK:∀W D,K W→lo≤D→D<hi→W.heap[D]?=some (.deferred (some []))→K (W.putObj D (.deferred none))) (hend:∀W,K W→LeavesIn F n P fn tmps R [] .returning W):
 ∀(Ds:List Nat) (W:World),bS W lo hi Ds→K W→LeavesInM F n P fn tmps R (Jw Ds) .returning W
 |[],W,_,hk=>hend W hk
 |D::Ds,W,hm,hk=>by
  have h1:=hm.2 D (by simp);refine⟨by simp,.inl ⟨D,_,rfl,run_takeDeferred h1.2.2,?_⟩⟩;refine qI K hK hend Ds _ ⟨(List.nodup_cons.1 hm.1).2,fun E hE=> ?_⟩ (hK W D hk h1.1 h1.2.1 h1.2.2);have h2:=hm.2 E (by simp[hE]);have hne:E≠D:=fun e=>(List.nodup_cons.1 hm.1).1 (e▸hE);exact⟨h2.1,h2.2.1,by rw[World.putObj_heap_other (by omega)];exact h2.2.2⟩
end Go.Proofs.YtfhnamomiaekdaaGreatDoor
namespace Go.Inq
def mX(E:ak):Nat→ak
 |0=>E
 |k+1=>fun x y=>mX E k x y||(mX E k x k&&mX E k k y)
def gF(E:ak)(x:Nat):List Nat→Nat→Bool
 |[],y=>E x y
 |a::l,y=>E x a&&gF E a l y
theorem jK{E:ak}:∀{x:Nat} {a:List Nat} {k:Nat} {b:List Nat} {y:Nat},gF E x (a++k::b) y=(gF E x a k&&gF E k b y)
 |x,[],k,b,y=>rfl
 |x,c::a,k,b,y=>by
  show(E x c&&gF E c (a++k::b) y)=(E x c&&gF E c a k&&gF E k b y);rw[jK,Bool.and_assoc]
theorem tK{k:Nat}:∀{l:List Nat},k∈l→∃a b,l=a++k::b∧k∉a
 |[],h=>by simp at h
 |c::l,h=>by
  by_cases e:c=k
  ·exact⟨[],l,by rw[e];rfl,by simp⟩
  ·have h2:k∈l:=by
    rw[List.mem_cons]at h;exact h.resolve_left fun g=>e g.symm
   obtain⟨a,b,h3,h4⟩:=tK h2;exact⟨c::a,b,by rw[h3];rfl,by simp;exact⟨fun g=>e g.symm,h4⟩⟩
theorem eB{E:ak}:∀(k:Nat) (x y:Nat),mX E k x y=true→∃l:List Nat,(∀a∈l,a<k)∧gF E x l y=true
 |0,x,y,h=>⟨[],by simp,h⟩
 |k+1,x,y,h=>by
  unfold mX at h;rw[Bool.or_eq_true,Bool.and_eq_true]at h;rcases h with h|⟨h1,h2⟩
  ·obtain⟨l,hl,hw⟩:=eB k x y h;exact⟨l,fun a ha=>by have:=hl a ha;omega,hw⟩
  ·obtain⟨l1,hl1,hw1⟩:=eB k x k h1;obtain⟨l2,hl2,hw2⟩:=eB k k y h2;refine⟨l1++k::l2,fun a ha=> ?_,by rw[jK,hw1,hw2];rfl⟩;simp only[List.mem_append,List.mem_cons]at ha;rcases ha with ha|rfl|ha
   ·have:=hl1 a ha;omega
   ·omega
   ·have:=hl2 a ha;omega
theorem kD{E:ak}:∀(k:Nat) (m:Nat) (l:List Nat) (x y:Nat),l.length≤m→(∀a∈l,a<k)→gF E x l y=true→mX E k x y=true:=by
 intro k
 induction k with
 |zero=>
  intro m l x y _ hl hw;cases l with
  |nil=>exact hw
  |cons a l=>exact absurd (hl a (by simp)) (by omega)
 |succ k ihk=>
  intro m
  induction m with
  |zero=>
   intro l x y hm hl hw;obtain rfl:l=[]:=List.eq_nil_of_length_eq_zero (by omega);unfold mX;rw[ihk 0 [] x y (by simp) (by simp) hw];rfl
  |succ m ihm=>
   intro l x y hm hl hw;by_cases hk:k∈l
   ·obtain⟨a,b,rfl,hka⟩:=tK hk;rw[jK,Bool.and_eq_true]at hw;have h1:=ihk a.length a x k (Nat.le_refl _) (fun c hc=>by
     have:=hl c (by simp[hc]);have:c≠k:=fun e=>hka (e▸hc);omega) hw.1
    have h2:=ihm b k y (by simp at hm;omega) (fun c hc=>hl c (by simp[hc])) hw.2;unfold mX at h2⊢;rw[Bool.or_eq_true,Bool.and_eq_true]at h2;have h3:mX E k k y=true:=(by rcases h2 with h|h;exact h;exact h.2);rw[h1,h3];simp
   ·unfold mX;rw[ihk l.length l x y (Nat.le_refl _) (fun c hc=>by
     have:=hl c hc;have:c≠k:=fun e=>hk (e▸hc);omega) hw]
    rfl
def rY(n:Nat)(E:ak):ak:=mX E n
theorem nO{n:Nat}{E:ak}{x y:Nat}(h:E x y=true):rY n E x y=true:=kD n 0 [] x y (by simp) (by simp) h
theorem vK{n:Nat}{E:ak}{x y z:Nat}(hy:y<n)(h1:rY n E x y=true)(h2:rY n E y z=true):rY n E x z=true:=by
 obtain⟨a,ha,wa⟩:=eB n x y h1;obtain⟨b,hb,wb⟩:=eB n y z h2;refine kD n _ (a++y::b) x z (Nat.le_refl _) (fun c hc=> ?_) (by rw[jK,wa,wb];rfl);simp only[List.mem_append,List.mem_cons]at hc;rcases hc with hc|rfl|hc
 ·exact ha c hc
 ·exact hy
 ·exact hb c hc
theorem yM{n:Nat}{E:ak}(f:Nat→Nat)(h:∀x y,x<n→y<n→E x y=true→f x<f y):∀(l:List Nat) (x y:Nat),x<n→y<n→(∀a∈l,a<n)→gF E x l y=true→f x<f y
 |[],x,y,hx,hy,_,hw=>h x y hx hy hw
 |a::l,x,y,hx,hy,hl,hw=>by
  have hw':(E x a&&gF E a l y)=true:=hw;rw[Bool.and_eq_true]at hw';have ha:=hl a (by simp);have h1:=h x a hx ha hw'.1;have h2:=yM f h l a y ha hy (fun b hb=>hl b (by simp[hb])) hw'.2;omega
def iA(n:Nat)(E:ak):Bool:=(List.range n).any fun x=>rY n E x x
theorem Bt{n:Nat}{E:ak}(f:Nat→Nat)(h:∀x y,x<n→y<n→E x y=true→f x<f y):iA n E=false:=by
 unfold iA;rw[List.any_eq_false];intro x hx hc;obtain⟨l,hl,hw⟩:=eB n x x hc;have:=yM f h l x x (List.mem_range.1 hx) (List.mem_range.1 hx) hl hw;omega
theorem iP:∀(A B:List Nat),A.Nodup→(∀x∈A,x∈B)→A.length≤B.length
 |[],_,_,_=>Nat.zero_le _
 |a::A,B,hn,h=>by
  rw[List.nodup_cons]at hn;have h1:=iP A (B.erase a) hn.2 fun x hx=>(List.mem_erase_of_ne (fun e:x=a=>hn.1 (by rw[←e];exact hx))).2 (h x (by simp[hx]));rw[List.length_erase_of_mem (h a (by simp))]at h1;have:=List.length_pos_of_mem (h a (by simp));simp;omega
theorem Dx{n:Nat}{E:ak}{l:List Nat}{v:Nat}(h:j5 n E l=some v):v<n∧v∉l∧∀x,x<n→E x v=true→x∈l:=by
 unfold j5 at h;have h1:=List.find?_some h;have h2:=List.mem_of_find?_eq_some h;simp only[Bool.and_eq_true,Bool.not_eq_true',List.all_eq_true,List.mem_range,Bool.or_eq_true,List.contains_iff_mem]at h1;refine⟨by simpa using h2,fun hv=> ?_,fun x hx he=> ?_⟩
 ·have:=h1.1;rw[List.contains_iff_mem.2 hv]at this;cases this
 ·rcases h1.2 x hx with g|g
  ·rw[he]at g;cases g
  ·exact g
theorem Bu{n:Nat}{E:ak}{l:List Nat}(h:j5 n E l=none){v:Nat}(hv:v<n)(hl:v∉l):∃x,x<n∧x∉l∧E x v=true:=by
 unfold j5 at h;rw[List.find?_eq_none]at h;have h1:=h v (List.mem_range.2 hv);have hc:l.contains v=false:=by
  rw[Bool.eq_false_iff];intro e;exact hl (List.contains_iff_mem.1 e)
 rw[hc]at h1;simp only[Bool.not_false,Bool.true_and,List.all_eq_true,List.mem_range,Classical.not_forall]at h1;obtain⟨x,hx,h2⟩:=h1;simp only[Bool.or_eq_true,Bool.not_eq_true',List.contains_iff_mem,not_or]at h2;exact⟨x,hx,h2.2,by simpa using h2.1⟩
structure MR(n:Nat)(E:ak)(l:List Nat):Prop where
 nd:l.Nodup
 lt:∀x∈l,x<n
 up:∀y∈l,∀x,x<n→E x y=true→x∈l∧l.idxOf x<l.idxOf y
theorem iQ{n:Nat}{E:ak}:∀(k:Nat) (l:List Nat),bL n E k=some l→MR n E l
 |0,l,h=>by
  unfold bL at h;injection h with h
  subst h;exact⟨List.nodup_nil,by simp,by simp⟩
 |k+1,l,h=>by
  unfold bL at h;split at h
  ·cases h
  ·rename_i l0 h0;split at h
   ·cases h
   ·rename_i v hv;injection h with h
    subst h;have ih:=iQ k l0 h0;obtain⟨h1,h2,h3⟩:=Dx hv;refine⟨?_,fun x hx=> ?_,fun y hy x hx he=> ?_⟩
    ·rw[List.nodup_append];refine⟨ih.nd,by simp,fun a ha b hb e=> ?_⟩;simp at hb;subst hb;exact h2 (e▸ha)
    ·rw[List.mem_append,List.mem_singleton]at hx;rcases hx with hx|rfl
     ·exact ih.lt x hx
     ·exact h1
    ·rw[List.mem_append,List.mem_singleton]at hy;rcases hy with hy|rfl
     ·obtain⟨g1,g2⟩:=ih.up y hy x hx he;exact⟨List.mem_append.2 (.inl g1),by rw[List.idxOf_append,List.idxOf_append,if_pos g1,if_pos hy];exact g2⟩
     ·have g1:=h3 x hx he;refine⟨List.mem_append.2 (.inl g1),?_⟩;rw[List.idxOf_append,List.idxOf_append,if_pos g1,if_neg h2];have:=List.idxOf_lt_length_of_mem g1;omega
theorem uE{n:Nat}{E:ak}{o:List Nat}(h:fZ n E=some o):iA n E=false:=by
 have ht:=iQ n o h;have hl:=fM h;have hall:∀y,y<n→y∈o:=fun y hy=>by
  refine Classical.byContradiction fun hno=> ?_;have:=iP (y::o) (List.range n) (List.nodup_cons.2 ⟨hno,ht.nd⟩) (fun x hx=>by
   rw[List.mem_cons]at hx;rw[List.mem_range];rcases hx with rfl|hx
   ·exact hy
   ·exact ht.lt x hx)
  simp at this;omega
 exact Bt (fun x=>o.idxOf x) fun x y hx hy he=>(ht.up y (hall y hy) x hx he).2
theorem Bw{n:Nat}{E:ak}(R:Nat→Prop)(hR:∀v,R v→v<n)(hp:∀v,R v→∃x,R x∧E x v=true):∀(m:Nat) (v:Nat),R v→((List.range n).filter fun x=>rY n E x v).length≤m→iA n E=true
 |m,v,hv,hm=>by
  obtain⟨x,hx,he⟩:=hp v hv;by_cases hc:rY n E x x=true
  ·unfold iA;rw[List.any_eq_true];exact⟨x,List.mem_range.2 (hR x hx),hc⟩
  ·have hlt:((List.range n).filter fun y=>rY n E y x).length+1≤((List.range n).filter fun y=>rY n E y v).length:=by
    have:=iP (x::(List.range n).filter fun y=>rY n E y x) ((List.range n).filter fun y=>rY n E y v) (List.nodup_cons.2 ⟨fun h=>hc (List.mem_filter.1 h).2,List.Pairwise.filter _ List.nodup_range⟩) (fun y hy=>by
     rw[List.mem_cons]at hy;rw[List.mem_filter,List.mem_range];rcases hy with rfl|hy
     ·exact⟨hR y hx,nO he⟩
     ·rw[List.mem_filter,List.mem_range]at hy;exact⟨hy.1,vK (hR x hx) hy.2 (nO he)⟩)
    simpa using this
   match m,hm with
   |0,hm=>omega
   |m+1,hm=>exact Bw R hR hp m x hx (by omega)
theorem oD{n:Nat}{E:ak}:∀k,bL n E k=none→∃j l,j<k∧bL n E j=some l∧j5 n E l=none
 |0,h=>by unfold bL at h;cases h
 |k+1,h=>by
  unfold bL at h;split at h
  ·rename_i h0;obtain⟨j,l,h1,h2⟩:=oD k h0;exact⟨j,l,by omega,h2⟩
  ·rename_i l0 h0;split at h
   ·rename_i hv;exact⟨k,l0,by omega,h0,hv⟩
   ·cases h
theorem uF{n:Nat}{E:ak}(h:fZ n E=none):iA n E=true:=by
 obtain⟨j,l,hj,hl,hx⟩:=oD n h;have ht:=iQ j l hl;have hlen:=fM hl;obtain⟨v,hv,hvl⟩:∃v,v<n∧v∉l:=by
  refine Classical.byContradiction fun hno=> ?_;have:=iP (List.range n) l List.nodup_range fun x hx=>Classical.byContradiction fun hn=>hno ⟨x,List.mem_range.1 hx,hn⟩;simp at this;omega
 refine Bw (fun u=>u<n∧u∉l) (fun u hu=>hu.1) (fun u hu=> ?_) _ v ⟨hv,hvl⟩ (Nat.le_refl _);obtain⟨x,h1,h2,h3⟩:=Bu hx hu.1 hu.2;exact⟨x,⟨h1,h2⟩,h3⟩
theorem pz(n:Nat)(E:ak):(fZ n E).isSome= !iA n E:=by
 cases h:fZ n E with
 |none=>rw[uF h];rfl
 |some o=>rw[uE h];rfl
def bK(n:Nat)(E:ak)(v:Nat):Nat→Nat→Nat
 |0,x=>if E x v=true then 1 else 0
 |k+1,x=>if bK n E v k x≠0 then bK n E v k x else if((List.range n).any fun y=>E x y&&decide (bK n E v k y=k+1))=true then k+2 else 0
section
variable{n:Nat}{E:ak}{v:Nat}
theorem kG{k x:Nat}(h:bK n E v k x≠0):bK n E v (k+1) x=bK n E v k x:=by
 show(if _ then _ else _)=_;rw[if_pos h]
theorem kH{k x:Nat}(h:bK n E v k x≠0):∀d,bK n E v (k+d) x=bK n E v k x
 |0=>rfl
 |d+1=>by
  have ih:=kH h d;rw[show k+(d+1)=(k+d)+1 by omega,kG (by rw[ih];exact h),ih]
theorem uM(k x:Nat):bK n E v k x≤k+1:=by
 induction k with
 |zero=>
  show(if _ then _ else _)≤_;split<;>omega
 |succ k ih=>
  show(if _ then _ else _)≤_;split
  ·omega
  ·split
   ·exact Nat.le_refl _
   ·exact Nat.zero_le _
theorem zN{k x j:Nat}(h:bK n E v k x=j+1):j≤k∧bK n E v j x=j+1:=by
 induction k with
 |zero=>
  have:=uM (n:=n) (E:=E) (v:=v) 0 x;obtain rfl:j=0:=(by omega);exact⟨Nat.le_refl _,h⟩
 |succ k ih=>
  by_cases h0:bK n E v k x=0
  ·have h1:bK n E v (k+1) x=(if bK n E v k x≠0 then bK n E v k x else if((List.range n).any fun y=>E x y&&decide (bK n E v k y=k+1))=true then k+2 else 0):=rfl;rw[if_neg (by omega)]at h1;split at h1
   ·obtain rfl:j=k+1:=(by omega);exact⟨Nat.le_refl _,h⟩
   ·omega
  ·rw[kG h0]at h;obtain⟨g1,g2⟩:=ih h;exact⟨by omega,g2⟩
theorem nP{k x:Nat}(h0:bK n E v k x=0):bK n E v (k+1) x=if((List.range n).any fun y=>E x y&&decide (bK n E v k y=k+1))=true then k+2 else 0:=by
 show(if _ then _ else _)=_;rw[if_neg (by omega)]
theorem rZ{k x j:Nat}(h:bK n E v k x=j+2):∃y,y<n∧E x y=true∧bK n E v k y=j+1:=by
 obtain⟨h1,h2⟩:=zN (j:=j+1) h;have h0:bK n E v j x=0:=by
  refine Classical.byContradiction fun hne=> ?_;rw[kG hne]at h2;have:=uM (n:=n) (E:=E) (v:=v) j x;omega
 rw[nP h0]at h2;split at h2
 ·rename_i hy;rw[List.any_eq_true]at hy;obtain⟨y,hy,h3⟩:=hy;rw[Bool.and_eq_true]at h3;have h4:=of_decide_eq_true h3.2;have:=kH (n:=n) (E:=E) (v:=v) (k:=j) (x:=y) (by omega) (k-j);rw[show j+(k-j)=k by omega]at this;exact⟨y,List.mem_range.1 hy,h3.1,by omega⟩
 ·omega
theorem Bz{k x:Nat}(h:bK n E v k x=1):E x v=true:=by
 obtain⟨_,h2⟩:=zN (j:=0) h;have h3:(if E x v=true then 1 else 0)=1:=h2;split at h3
 ·assumption
 ·omega
theorem Gn{k x:Nat}(h:E x v=true):bK n E v k x=1:=by
 have h0:bK n E v 0 x=1:=by
  show(if _ then _ else _)=_;rw[if_pos h]
 have:=kH (n:=n) (E:=E) (v:=v) (k:=0) (x:=x) (by omega) k;rw[Nat.zero_add]at this;omega
theorem LA{k x y j:Nat}(hy:y<n)(he:E x y=true)(h:bK n E v k y=j+1)(hj:j<k):bK n E v k x≠0:=by
 obtain⟨_,h2⟩:=zN h;by_cases h0:bK n E v j x=0
 ·have h3:bK n E v (j+1) x=j+2:=by
   rw[nP h0,if_pos (by rw[List.any_eq_true];exact⟨y,List.mem_range.2 hy,by rw[he,decide_eq_true h2];rfl⟩)]
  have:=kH (n:=n) (E:=E) (v:=v) (k:=j+1) (x:=x) (by omega) (k-(j+1));rw[show j+1+(k-(j+1))=k by omega]at this;omega
 ·have:=kH (n:=n) (E:=E) (v:=v) h0 (k-j);rw[show j+(k-j)=k by omega]at this;omega
theorem pE{k:Nat}:∀(j x:Nat),x<n→bK n E v k x=j+1→∃l:List Nat,l.Nodup∧l.length=j+1∧∀y∈l,y<n∧bK n E v k y≠0∧bK n E v k y≤j+1
 |0,x,hx,h=>⟨[x],by simp,rfl,fun y hy=>by rw[List.mem_singleton]at hy;subst hy;omega⟩
 |j+1,x,hx,h=>by
  obtain⟨y,hy,_,h2⟩:=rZ h;obtain⟨l,h3,h4,h5⟩:=pE j y hy h2;refine⟨x::l,List.nodup_cons.2 ⟨fun hm=> ?_,h3⟩,by rw[List.length_cons,h4],fun z hz=> ?_⟩
  ·have:=h5 x hm;omega
  ·rw[List.mem_cons]at hz;rcases hz with rfl|hz
   ·omega
   ·have:=h5 z hz;omega
theorem mY{k x:Nat}(hx:x<n):bK n E v k x≤n:=by
 cases h:bK n E v k x with
 |zero=>omega
 |succ j=>
  obtain⟨l,h1,h2,h3⟩:=pE j x hx h;have:=iP l (List.range n) h1 fun y hy=>List.mem_range.2 (h3 y hy).1;simp at this;omega
theorem yN{k x:Nat}(hx:x<n)(h:bK n E v k x=n){y:Nat}(hy:y<n):bK n E v k y≠0:=by
 intro h0;obtain⟨j,rfl⟩:∃j,n=j+1:=⟨n-1,by omega⟩;obtain⟨l,h1,h2,h3⟩:=pE j x hx h;have:=iP (y::l) (List.range (j+1)) (List.nodup_cons.2 ⟨fun hm=>(h3 y hm).2.1 h0,h1⟩) fun z hz=>by
  rw[List.mem_cons]at hz;rw[List.mem_range];rcases hz with rfl|hz
  ·exact hy
  ·exact(h3 z hz).1
 simp at this;omega
theorem Dy{d x:Nat}(hx:x<n):bK n E v (n-1+d) x=bK n E v (n-1) x:=by
 induction d with
 |zero=>rfl
 |succ d ih=>
  rw[show n-1+(d+1)=n-1+d+1 by omega];by_cases h0:bK n E v (n-1+d) x=0
  ·rw[nP h0];split
   ·rename_i hy;exfalso;rw[List.any_eq_true]at hy;obtain⟨y,hy,h3⟩:=hy;rw[Bool.and_eq_true]at h3;have h4:=of_decide_eq_true h3.2;have h5:=mY (n:=n) (E:=E) (v:=v) (k:=n-1+d) (List.mem_range.1 hy);exact yN (List.mem_range.1 hy) (show bK n E v (n-1+d) y=n by omega) hx h0
   ·omega
  ·rw[kG h0,ih]
theorem Jy{k:Nat}(h:∀x y,x<n→y<n→bK n E v k y=k+1→E x y=false)(d:Nat){x:Nat}(hx:x<n):bK n E v (k+d) x=bK n E v k x:=by
 induction d generalizing x with
 |zero=>rfl
 |succ d ih=>
  rw[show k+(d+1)=k+d+1 by omega];by_cases h0:bK n E v (k+d) x=0
  ·rw[nP h0];split
   ·rename_i hy;exfalso;rw[List.any_eq_true]at hy;obtain⟨y,hy,h3⟩:=hy;have hy:=List.mem_range.1 hy;rw[Bool.and_eq_true]at h3;have h4:=of_decide_eq_true h3.2;rw[ih hy]at h4;have h5:=uM (n:=n) (E:=E) (v:=v) k y;obtain rfl:d=0:=(by omega);rw[h x y hx hy (by omega)]at h3;exact absurd h3.1 (by decide)
   ·rw[←ih hx];exact h0.symm
  ·rw[kG h0,ih hx]
end
def bV(n:Nat)(E:ak)(v x:Nat):Nat:=bK n E v (n-1) x
theorem yO{n:Nat}{E:ak}{v k:Nat}(h:∀x y,x<n→y<n→bK n E v k y=k+1→E x y=false){x:Nat}(hx:x<n):bK n E v k x=bV n E v x:=by
 unfold bV;by_cases hk:k≤n-1
 ·have:=Jy h (n-1-k) hx;rw[show k+(n-1-k)=n-1 by omega]at this;exact this.symm
 ·have:=Dy (n:=n) (E:=E) (v:=v) (d:=k-(n-1)) hx;rw[show n-1+(k-(n-1))=k by omega]at this;exact this
theorem BA{n:Nat}{E:ak}{v:Nat}:∀(j x:Nat),bV n E v x=j+1→∃l:List Nat,(∀a∈l,a<n)∧gF E x l v=true
 |0,x,h=>⟨[],by simp,Bz h⟩
 |j+1,x,h=>by
  obtain⟨y,hy,he,h2⟩:=rZ (n:=n) (E:=E) (v:=v) h;obtain⟨l,hl,hw⟩:=BA j y h2;exact⟨y::l,by simp;exact⟨hy,hl⟩,by show(E x y&&gF E y l v)=true;rw[he,hw];rfl⟩
theorem BD{n:Nat}{E:ak}{v:Nat}:∀(l:List Nat) (x:Nat),x<n→(∀a∈l,a<n)→gF E x l v=true→bV n E v x≠0
 |[],x,hx,_,hw=>by
  have hw:E x v=true:=hw;unfold bV;rw[Gn hw];decide
 |a::l,x,hx,hl,hw=>by
  have hw:(E x a&&gF E a l v)=true:=hw;rw[Bool.and_eq_true]at hw;have ha:=hl a (by simp);have ih:=BD l a ha (fun b hb=>hl b (by simp[hb])) hw.2;unfold bV at ih⊢;obtain⟨j,hj⟩:∃j,bK n E v (n-1) a=j+1:=⟨bK n E v (n-1) a-1,by omega⟩;have r9:=mY (n:=n) (E:=E) (v:=v) (k:=n-1) ha;by_cases hjn:j+1=n
  ·exact yN ha (hj.trans hjn) hx
  ·exact LA ha hw.1 hj (by omega)
def qJ(n:Nat)(E:ak)(d:Nat→Nat)(x left:Nat):Option Nat:=(List.range n).find? fun y=>E x y&&decide (d y=left)
def iK(n:Nat)(E:ak)(d:Nat→Nat)(x:Nat):Nat→List Nat
 |0=>[]
 |l+1=>match qJ n E d x (l+1)with
  |some y=>y::iK n E d y l
  |none=>[]
def dP(n:Nat)(E:ak):List Nat:=match (List.range n).find? fun v=>bV n E v v !=0 with
 |none=>[]
 |some v=>v::iK n E (bV n E v) v (bV n E v v-1)
theorem jh{n:Nat}{E:ak}{v x l:Nat}(h:bV n E v x=l+2):∃y,qJ n E (bV n E v) x (l+1)=some y∧y<n∧E x y=true∧bV n E v y=l+1:=by
 obtain⟨z,hz,he,h2⟩:=rZ (n:=n) (E:=E) (v:=v) h;cases hf:qJ n E (bV n E v) x (l+1)with
 |none=>
  unfold qJ at hf;rw[List.find?_eq_none]at hf;exact absurd (by rw[he,Bool.true_and];exact decide_eq_true h2) (hf z (List.mem_range.2 hz))
 |some y=>
  have h1:=List.find?_some hf;have h3:=List.mem_of_find?_eq_some hf;rw[Bool.and_eq_true]at h1;exact⟨y,rfl,List.mem_range.1 h3,h1.1,of_decide_eq_true h1.2⟩
theorem ji{n:Nat}{E:ak}{d:Nat→Nat}{x y l:Nat}(h:qJ n E d x (l+1)=some y):iK n E d x (l+1)=y::iK n E d y l:=by
 show(match qJ n E d x (l+1)with|some y=>y::iK n E d y l|none=>[])=_;rw[h]
theorem yP{n:Nat}{E:ak}{v:Nat}:∀(l x:Nat),bV n E v x=l+1→(iK n E (bV n E v) x l).length=l
 |0,x,_=>rfl
 |l+1,x,h=>by
  obtain⟨y,h1,_,_,h4⟩:=jh h;rw[ji h1,List.length_cons,yP l y h4]
theorem yQ{n:Nat}{E:ak}:dP n E=[]↔iA n E=false:=by
 have hcl:∀v,v<n→(bV n E v v≠0↔rY n E v v=true):=fun v hv=>by
  constructor
  ·intro h;obtain⟨l,hl,hw⟩:=BA (bV n E v v-1) v (show bV n E v v=_ by omega);exact kD n l.length l v v (Nat.le_refl _) hl hw
  ·intro h;obtain⟨l,hl,hw⟩:=eB n v v h;exact BD l v hv hl hw
 unfold dP iA;cases hf:(List.range n).find? fun v=>bV n E v v !=0 with
 |none=>
  rw[List.find?_eq_none]at hf;simp only[true_iff];rw[List.any_eq_false];intro v hv hc;exact hf v hv (by rw[bne_iff_ne];exact(hcl v (List.mem_range.1 hv)).2 hc)
 |some v=>
  have h1:=List.find?_some hf;have h2:=List.mem_of_find?_eq_some hf;rw[bne_iff_ne]at h1;constructor
  ·intro h;cases h
  ·intro h;rw[List.any_eq_false]at h;exact absurd ((hcl v (List.mem_range.1 h2)).1 h1) (h v h2)
theorem Jz{n:Nat}{E:ak}:∀x∈dP n E,x<n:=by
 have hp:∀(d:Nat→Nat) (l x:Nat),∀y∈iK n E d x l,y<n:=by
  intro d l
  induction l with
  |zero=>intro x y hy;cases hy
  |succ l ih=>
   intro x y hy;have hy:y∈(match qJ n E d x (l+1)with|some y=>y::iK n E d y l|none=>[]):=hy;split at hy
   ·rename_i z hz;rw[List.mem_cons]at hy;rcases hy with rfl|hy
    ·exact List.mem_range.1 (List.mem_of_find?_eq_some hz)
    ·exact ih _ _ hy
   ·cases hy
 intro x hx;unfold dP at hx;split at hx
 ·cases hx
 ·rename_i v hv;rw[List.mem_cons]at hx;rcases hx with rfl|hx
  ·exact List.mem_range.1 (List.mem_of_find?_eq_some hv)
  ·exact hp _ _ _ _ hx
theorem Gp{n:Nat}{E:ak}:(dP n E).length≤n+1:=by
 unfold dP;cases hf:(List.range n).find? fun v=>bV n E v v !=0 with
 |none=>simp
 |some v=>
  have h1:=List.find?_some hf;have hv:=List.mem_range.1 (List.mem_of_find?_eq_some hf);have h0:bV n E v v≠0:=(by simpa using h1);have hle:bV n E v v≤n:=mY hv;rw[List.length_cons,yP (bV n E v v-1) v (by omega)];omega
end Go.Inq
