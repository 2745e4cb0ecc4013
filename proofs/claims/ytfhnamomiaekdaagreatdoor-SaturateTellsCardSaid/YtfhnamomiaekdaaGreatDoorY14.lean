/-
  Walks: layer 9: index.reads, an iterator over all that is read.
-/
import Derived.Maps.OwnIn
import Derived.Deep.WholeRow
import Derived.Test.YtfhnamomiaekdaaGreatDoorY05
import Derived.Test.YtfhnamomiaekdaaGreatDoorY02
import Derived.Test.YtfhnamomiaekdaaGreatDoorY13
import Derived.Test.YtfhnamomiaekdaaGreatDoorY08
set_option linter.unusedVariables false
set_option linter.unusedSimpArgs false
namespace Go.Proofs.YtfhnamomiaekdaaGreatDoor
open Go.RowKit Go.Inq Go.Shelf
set_option maxHeartbeats 4000000
attribute [local go_sem] Oper.semAt_some
attribute [local go_sem↓] Go.wp_at_zero Go.wp_at_succ
def sN(k:Nat)(l:List It):List (Nat×It):=l.map fun r=>(k,r)
def cZ(H:List Txn)(k:Nat):List (Nat×It):=((List.range k).map fun t=>sN t (aL H t).reads).flatten
def iJ(H:List Txn):List (Nat×It):=cZ H H.length
theorem nu(H:List Txn)(k:Nat):cZ H (k+1)=cZ H k++sN k (aL H k).reads:=by
 unfold cZ;rw[List.range_succ,List.map_append,List.flatten_append];simp
theorem CO{H:List Txn}{k:Nat}(h:k≤H.length):cZ H k<+:iJ H:=by
 unfold iJ cZ;obtain⟨m,hm⟩:=Nat.le.dest h;rw[←hm,List.range_add,List.map_append,List.flatten_append];exact List.prefix_append _ _
theorem zK{k:Nat}{l:List It}{j:Nat}(h:j<l.length):sN k (l.take (j+1))=sN k (l.take j)++[(k,l[j])]:=by
 unfold sN;rw[take_snoc' h,List.map_append];rfl
theorem IB{H:List Txn}{k j:Nat}(h:k<H.length)(hj:j<H[k].reads.length):cZ H k++sN k (H[k].reads.take j)++[(k,H[k].reads[j])]<+:iJ H:=by
 refine List.IsPrefix.trans ?_ (CO (k:=k+1) (by omega));rw[nu,aO h,List.append_assoc,←zK hj];refine(List.prefix_append_right_inj _).2 ?_;unfold sN;rw[List.map_take];exact List.take_prefix _ _
def CP(x:Nat×It):Value:= .agg #[.int .i64 (x.1:Nat),.int .i64 x.2.a,.int .i64 x.2.b]
set_option maxRecDepth 100000 in
theorem IC (n:Nat) (hn:1≤n) (l Bh n₀ c:Nat) (A:Option Addr) (H:List Txn) (hS:aB H) (hr:aC H=true) (J Jx:List (Nat×It)→World→Prop) (W:World)
 (hJ:AbidesFrom W.heap.size J)
 (hY:∀pre x W,J pre W→pre.length<(iJ H).length→YieldAt Fence.wide (n-1) Tryz.prog l #[CP x] W fun e W'=>
  (e= .returned (.bool true)∧J (pre++[x]) W'∧Below n₀ W W')∨(e= .returned (.bool false)∧Jx (pre++[x]) W'))
 (hBh:W.cell? ⟨Bh,0,none⟩=some (.slice A H.length c)) (hnW:n₀≤W.heap.size) (hT:aF W (fun b=>b<n₀) (.slice A H.length c) H) (h0:J [] W):
 CallsIn Fence.wide n Tryz.prog 272 #[.func (.yield l) #[] #[],.pointer (some ⟨Bh,0,none⟩)] W fun e W'=>(∃v,e= .returned v)∧
  ((∃ys,ys=iJ H∧J ys W')∨(∃pre,pre<+:iJ H∧Jx pre W')):=by
 have hro:Fence.wide.round=none:=rfl;refine callsIn_of_wp Tryz.func272 rfl trivial ?_ hro;simp only[Tryz.ntmps272,List.size_toArray,List.length_cons,List.length_nil,Nat.reduceAdd,Nat.reduceSub,Array.replicate_succ,Array.replicate_zero,List.push_toArray,List.append_toArray,List.nil_append,List.cons_append];have hTo:=hide (aF.fit (K':=Old W) hT (fun b h=>Nat.lt_of_lt_of_le h hnW));replace hr:=hide hr;have hlen:=hS.1;have hrl:=hide (fun i (hi:i<H.length)=>(hS.2 _ (List.getElem_mem hi)).2);replace hS:=hide hS;have hBl:Bh<W.heap.size:=block_lt_of_cell hBh
 gi_wp2_with fail
 refine⟨trivial,?_⟩;refine(callsIn_wide.2 (fF A c H _ hTo.out hS.out)).mono ?_;rintro e W3 ⟨rfl,hb3⟩;rw[hr.out];dsimp only;have c0:=(hb3.cell (p:=⟨Bh,0,none⟩) hBl).trans hBh;have hJ3:J [] W3:=hJ _ _ _ none h0 (bQ hb3 (Nat.le_refl _)) (fun r e=>by cases e);have hT3:=aF.keep hT (Agree.below hb3 (fun b h=>Nat.lt_of_lt_of_le h hnW)) (fun b h=>h);have He:n₀≤W3.heap.size:=Nat.le_trans hnW hb3.size;clear hTo hBh h0
 gi_wp2
 gi_loopw [13] (fun s13 wr=>∃k:Nat,k≤H.length∧s13= .int .i64 k∧J (cZ H k) wr∧Below n₀ W3 wr) (fun s13 _=>H.length-(intOf s13).toNat)
 case atStart=>exact⟨0,Nat.zero_le _,by go_num,hJ3,Below.refl _ _⟩
 case round=>
  obtain⟨Wo,rfl⟩:∃Wo,Wo=wr:=⟨_,rfl⟩;obtain⟨k,hk,rfl,hJs,hb⟩:=hrel;have hk1:(0:Int)≤(k:Int):=Int.natCast_nonneg _;by_cases hlt:k<H.length
  ·have hi2:(k:Int)<(H.length:Int):=(by omega);obtain⟨b,off,Aw,cw,Ar,cr,rfl,hbK,d0',d1',d2',_,hrs⟩:=aF.at_ hT3 hlt;have d0:=(hb.cell (p:=⟨b,off+k*3,none⟩) hbK).trans d0';have d1:=(hb.cell (p:=⟨b,off+k*3+1,none⟩) hbK).trans d1';have d2:=(hb.cell (p:=⟨b,off+k*3+2,none⟩) hbK).trans d2';clear d0' d1' d2';have htr:=fun j=>IB (j:=j) hlt;have hts:=nu H k;rw[aO hlt]at hts;have q2:=hrl.out k hlt;generalize H[k]=t at*;obtain⟨ts,ws,rs⟩:=t;dsimp only at*;replace htr:=hide htr;replace hts:=hide hts;have hJ4:J (cZ H k) (Wo.alloc (.cells #[.int .i64 ts,.slice Aw ws.length cw,.slice Ar rs.length cr] 109)):=hJ _ _ _ none hJs (World.grownBy_alloc Wo _ none) (fun r e=>by cases e);have hb4:Below n₀ W3 (Wo.alloc (.cells #[.int .i64 ts,.slice Aw ws.length cw,.slice Ar rs.length cr] 109)):=hb.alloc (Nat.le_trans He hb.size) _;have kT:Blk (Wo.alloc (.cells #[.int .i64 ts,.slice Aw ws.length cw,.slice Ar rs.length cr] 109)) Wo.heap.size 109 #[.int .i64 ts,.slice Aw ws.length cw,.slice Ar rs.length cr]:=Blk.new _ _ _;have e2:=Blk.n2 kT;have hrn:=hide (show cZ H k++sN k (rs.take 0)=cZ H k by simp[sN])
   gi_wp2
   generalize hWo:Wo.alloc (.cells #[.int .i64 ts,.slice Aw ws.length cw,.slice Ar rs.length cr] 109)=Wp at*;clear hWo kT e2 hJs hb
   gi_loopw [21] (fun s21 wq=>∃j:Nat,j≤rs.length∧s21= .int .i64 j∧J (cZ H k++sN k (rs.take j)) wq∧Below n₀ W3 wq) (fun s21 _=>rs.length-(intOf s21).toNat)
   case atStart=>exact⟨0,Nat.zero_le _,by go_num,by rw[hrn.out];exact hJ4,hb4⟩
   case round=>
    clear hJ4 hb4;obtain⟨j,hj,rfl,hJs,hb⟩:=hrel;have hj1:(0:Int)≤(j:Int):=Int.natCast_nonneg _;by_cases hjl:j<rs.length
    ·have hj2:(j:Int)<(rs.length:Int):=(by omega);obtain⟨bw,ow,rfl,hbw,ec0,ec1⟩:=ItS.at_ (ItS.keep hrs (Agree.below hb fun b h=>h) (fun b h=>h)) hjl;have hpre:=htr.out j hjl;have hstp:=hide (zK (k:=k) hjl);generalize rs[j]=x at*;obtain⟨xa,xb⟩:=x;dsimp only at ec0 ec1;have hBw:n₀≤wr.heap.size:=Nat.le_trans He hb.size;have hJ6:J (cZ H k++sN k (rs.take j)) (wr.alloc (.cells #[.int .i64 xa,.int .i64 xb] 106)):=hJ _ _ _ none hJs (World.grownBy_alloc wr _ none) (fun r e=>by cases e);have hb6:Below n₀ W3 (wr.alloc (.cells #[.int .i64 xa,.int .i64 xb] 106)):=hb.alloc hBw _;have hN:=jI hpre;obtain⟨fn,tmps,assign,body,hy,hR⟩:=hY _ (k,⟨xa,xb⟩) _ hJ6 hN;clear hJs hb;replace hpre:=hide hpre;unfold CP at hy;dsimp only at hy
     gi_wp2
     refine hR.mono ?_;clear hR hy fn tmps assign body;rintro e W4 (⟨rfl,hJ5,hk5⟩|⟨rfl,mH⟩)
     ·have hb5:=hb6.trans hk5;rw[List.append_assoc,←hstp.out]at hJ5
      gi_wp2
      go_roundw;case rel=>exact⟨j+1,by omega,by go_num,hJ5,hb5⟩
      case measure=>simp[intOf];omega
     ·gi_wp2
      refine bodyPost_ret (results_none rfl _ _ _) rfl ?_;exact⟨⟨_,rfl⟩,.inr ⟨_,hpre.out,mH⟩⟩
    ·obtain rfl:j=rs.length:=(by omega);rw[List.take_length]at hJs;have Sw:cZ H (k+1)=cZ H k++sN k rs:=hts.out
     gi_wp2
     go_roundw;case rel=>exact⟨k+1,by omega,by go_num,by rw[hts.out];exact hJs,hb⟩
     case measure=>simp[intOf];omega
  ·obtain rfl:k=H.length:=by omega
   gi_wp2
   go_end0
   exact⟨⟨_,rfl⟩,.inl ⟨_,rfl,hJs⟩⟩
theorem EU(v:Value)(w:World):Calls Tryz.prog 259 #[.agg #[v]] w fun e w'=>e= .returned (.func (.func 272) #[] #[.pointer (some ⟨w.heap.size,0,none⟩)])∧w'=w.alloc (.cells #[v] 24):=by
 go_enter Tryz.func259,Tryz.ntmps259;go_wp2;go_ret;exact⟨rfl,rfl⟩
theorem EW{n₀:Nat}{w:World}(hn:n₀≤w.heap.size)(W:World)(l:Nat)(o o':Obj)(hl:w.heap.size≤l)(_:W.heap[l]?=some o)(_:o.isCells=false)(_:o.isWalk=false):Below n₀ W (W.putObj l o'):=
 ⟨rfl,rfl,rfl,by simp,fun k hk=>World.putObj_heap_other (by omega)⟩
theorem Bl(Bh n₀ c:Nat)(A:Option Addr)(H:List Txn)(hS:aB H)(hr:aC H=true)(w:World)(hBn:Bh<w.heap.size)(hnW:n₀≤w.heap.size)(hc:w.cell? ⟨Bh,0,none⟩=some (.slice A H.length c))(hT:aF w (fun b=>b<n₀) (.slice A H.length c) H):
 SeqStopsK Fence.wide (3-1) Tryz.prog 272 #[.pointer (some ⟨Bh,0,none⟩)] (fun x:Nat×It=>#[CP x]) (fun W W'=>Below n₀ W W') (fun ys=>ys=iJ H) (fun pre=>pre<+:iJ H) (iJ H).length w:=fun l J Jx W hW hJ _ hY h0=>
 IC (3-1) (by omega) l Bh n₀ c A H hS hr J Jx W hJ hY ((hW.cell (p:=⟨Bh,0,none⟩) hBn).trans hc) (Nat.le_trans hnW hW.size) (aF.keep hT (Agree.below hW fun b h=>Nat.lt_of_lt_of_le h hnW) (fun b h=>h)) h0
def lY(key src:Int)(l:List (Nat×It)):List Nat:=(l.filter fun x=>decide (x.2.a=key)&&decide (x.2.b=src)).map (·.1)
theorem IE(key src:Int)(l:List (Nat×It))(x:Nat×It):lY key src (l++[x])=lY key src l++(if decide (x.2.a=key)&&decide (x.2.b=src)then[x.1]else[]):=by
 unfold lY;rw[List.filter_append,List.map_append];congr 1;cases h:decide (x.2.a=key)&&decide (x.2.b=src)<;>simp[List.filter_cons,h]
theorem CQ(H:List Txn)(key src:Int):lY key src (iJ H)=yO H key src:=by
 unfold lY iJ cZ yO;rw[List.filter_flatten,List.map_flatten,List.map_map,List.map_map];congr 1;refine List.map_congr_left fun t _=> ?_;simp only[Function.comp_apply,sN,List.filter_map,List.map_map];rfl
theorem nV{H:List Txn}(h:∀i (hi:i<H.length),H[i].reads.length≤1000000):∀k,k≤H.length→(cZ H k).length≤k*1000000
 |0,_=>by simp[cZ]
 |k+1,hk=>by
  rw[nu,List.length_append,aO (by omega)];have:=nV h k (by omega);have:=h k (by omega);simp only[sN,List.length_map];omega
theorem xS{H:List Txn}(hn:aB H)(hr:aC H=true):(iJ H).length≤32000000:=by
 have h32:H.length≤32:=((aA H).1 hr).1;have:=nV (fun i hi=>(hn.2 _ (List.getElem_mem hi)).2) H.length (Nat.le_refl _);unfold iJ;omega
theorem boxed_own{X Y:World}{row:Option Nat}{B:Nat}{t:TypeId}{v:Value}(hs:Boxed X B t v)(hg:X.grownBy Y row)(hrow:∀r,row=some r→∃o:Obj,X.heap[r]?=some o∧o.isCells=false):Boxed Y B t v:=
 hs.kept hg (fun e'=>by obtain⟨o,ho,hc⟩:=hrow B e'.symm;rw[show X.heap[B]?=_ from hs]at ho;cases ho;cases hc)
theorem CS{w:World}{base base':Nat}{e:TypeId}{size n:Nat}{v:Value}{xs:List Value}(h:w.ownsRow base e size v n xs)(hb:base'≤base):w.ownsRow base' e size v n xs:=by
 refine⟨h.1,?_⟩;rcases h.2 with h2|⟨g,cap,cur,hv,hg,r⟩
 ·exact .inl h2
 ·exact .inr ⟨g,cap,cur,hv,Nat.le_trans hb hg,r⟩
theorem yV {F:Fence} {nF:Nat} {P:Program} {W:World} {ops:Array Oper} {rest:List Oper} {o:Oper} {a:Act} {Q:Exit→Act→World→Prop}
 (hgd:o.guard=none) (s x:Operand) (t:TypeId) (ho:o.op= .call {callee:= .builtin .append,args:=#[s,x],argTypes:=#[t,t]})
 (base:Nat) (e:TypeId) (i:TypeInfo) (z:Value) (bytes:Nat) (ht:P.underlying t=some (.slice e)) (hi:P.info? e=some i) (hz:i.zero=some z)
 (hsize:i.size=1) (hby:i.bytes=bytes) (hzs:z.cells.size=1)
 (v:Value) (l:List Int) (hs:a.eval s=v) (hown:W.ownsRow base e 1 v l.length (l.map Go.Inq.encI).flatten)
 (x0:Int) (hx:a.eval x= .slice (some ⟨W.heap.size,0,none⟩) 1 1)
 (h63:l.length+1≤maxLen) (hbytes:(l.length+1)*bytes≤140737488355328) (hbase:base≤W.heap.size)
 (h:∀v' w',w'.ownsRow base e 1 v' (l++[x0]).length ((l++[x0]).map Go.Inq.encI).flatten→(W.alloc (.cells #[.int .i64 x0] e)).grownBy w' v.ownBlock→(v'.ownBlock=v.ownBlock∨v'.ownBlock=some (W.heap.size+1))→wpListIn F nF P ops Q rest (a.put o.dst v') w'):
 wpListIn F nF P ops Q (o::rest) a (W.alloc (.cells #[.int .i64 x0] e)):=by
 have hk:Blk (W.alloc (.cells #[.int .i64 x0] e)) W.heap.size e #[.int .i64 x0]:=Blk.new _ _ _;refine wpListIn_append_own_at _ hgd s x t ho base e i z 1 bytes ht hi hz hsize hby hzs (by decide) v l.length _ hs (hown.alloc _) ⟨W.heap.size,0,none⟩ 1 1 [.int .i64 x0] hx rfl (fun j u hj=> ?_) (by simp[Value.oneCell']) h63 hbytes (by simp;omega) ?_
 ·cases j with
  |zero=>injection hj with hj;subst hj;exact hk.cell 0
  |succ j=>simp at hj
 ·intro v' w' g1 g2 _ g3;refine h v' w' ?_ g2 (by simpa using g3);rw[List.map_append,List.flatten_append,List.length_append];exact g1
set_option maxRecDepth 100000 in
theorem Bn(A:Option Addr)(c:Nat)(H:List Txn)(key src:Int)(w:World)(h:aF w (Old w) (.slice A H.length c) H)(hn:aB H)(hr:aC H=true):
 Calls Tryz.prog 226 #[.agg #[.slice A H.length c],.int .i64 key,.int .i64 src] w (yR w (au (yO H key src))):=by
 refine(callsIn_wide (n:=3)).1 ?_;have hro:Fence.wide.round=none:=rfl;refine callsIn_of_wp_marks Tryz.func226 rfl trivial ?_ hro;simp only[Tryz.ntmps226,List.size_toArray,List.length_cons,List.length_nil,Nat.reduceAdd,Nat.reduceSub,Array.replicate_succ,Array.replicate_zero,List.push_toArray,List.append_toArray,List.nil_append,List.cons_append]
 gi_wp2_with fail
 refine⟨trivial,?_⟩;refine(callsIn_wide.2 (EU _ _)).mono ?_;rintro e w1 ⟨rfl,rfl⟩;dsimp only
 gi_wp2
 obtain⟨ii,hii,hi1,hi2,hi3⟩:=info_parts gW;obtain⟨W0,hW0⟩:∃W0,((((w.alloc (.cells #[.slice A H.length c] 24)).alloc (.cells #[.int .i64 key] 3)).alloc (.cells #[.int .i64 src] 3)).alloc (.cells #[.slice none 0 0] 33)).alloc (.cells #[.slice A H.length c] 24)=W0:=⟨_,rfl⟩;have hs0:W0.heap.size=w.heap.size+5:=(by rw[←hW0];simp);have hBW:Below w.heap.size w W0:=(by rw[←hW0];exact(((((Below.refl _ w).alloc (Nat.le_refl _) _).alloc (by simp) _).alloc (by simp;omega) _).alloc (by simp;omega) _).alloc (by simp;omega) _);have k1:Blk W0 (w.heap.size+1) 3 #[.int .i64 key]:=by
  rw[←hW0];have:=Blk.new (w.alloc (.cells #[.slice A H.length c] 24)) 3 #[.int .i64 key];simp only[World.size_alloc]at this;exact((this.alloc _).alloc _).alloc _
 have k2:Blk W0 (w.heap.size+2) 3 #[.int .i64 src]:=by
  rw[←hW0];have:=Blk.new ((w.alloc (.cells #[.slice A H.length c] 24)).alloc (.cells #[.int .i64 key] 3)) 3 #[.int .i64 src];simp only[World.size_alloc]at this;exact(this.alloc _).alloc _
 have k3:Blk W0 (w.heap.size+3) 33 #[.slice none 0 0]:=by
  rw[←hW0];have:=Blk.new (((w.alloc (.cells #[.slice A H.length c] 24)).alloc (.cells #[.int .i64 key] 3)).alloc (.cells #[.int .i64 src] 3)) 33 #[.slice none 0 0];simp only[World.size_alloc]at this;exact this.alloc _
 have k4:Blk W0 (w.heap.size+4) 24 #[.slice A H.length c]:=by
  rw[←hW0];have:=Blk.new ((((w.alloc (.cells #[.slice A H.length c] 24)).alloc (.cells #[.int .i64 key] 3)).alloc (.cells #[.int .i64 src] 3)).alloc (.cells #[.slice none 0 0] 33)) 24 #[.slice A H.length c];simp only[World.size_alloc]at this;exact this
 simp only[World.size_alloc];rw[hW0];have h2:aF W0 (fun b=>b<w.heap.size) (.slice A H.length c) H:=aF.keep h (Agree.below hBW fun b h=>h) (fun b h=>h);have c4:=Blk.n0 k4;clear hW0;have Ri:=xS hn hr;refine wpIn_rangeFunc_ownH hro (by omega) (gf:=272) (lb:=#[.pointer (some ⟨w.heap.size+4,0,none⟩)]) rfl trivial (enters_of Tryz.func272 (by kernel_rfl) rfl)
  (Bl (w.heap.size+4) w.heap.size c A H hn hr W0 (by omega) (by omega) c4 h2) (fun h k=>h.trans k) (EW (by omega)) (Below.refl _ _) (fun _=>rfl)
  (fun pre W=>((∃v,Boxed W (w.heap.size+3) 33 v∧W.ownsRow (w.heap.size+5) 3 1 v (au (lY key src pre)).length ((au (lY key src pre)).map Go.Inq.encI).flatten∧True)∧(Boxed W (w.heap.size+1) 3 (.int .i64 key)∧Boxed W (w.heap.size+2) 3 (.int .i64 src)∧w.heap.size+5≤W.heap.size))∧Below w.heap.size w W)
  (fun cc pre W=>False)
  (OwnFrom.and (OwnFrom.and (Own.from (holdsRow_own (w.heap.size+5) (w.heap.size+3) 33 3 1 (fun pre=>(au (lY key src pre)).length) (fun pre=>((au (lY key src pre)).map Go.Inq.encI).flatten) (fun _ _=>True)) _) (Own.from (fun s A B row hs hg hr=>⟨boxed_own hs.1 hg hr,boxed_own hs.2.1 hg hr,Nat.le_trans hs.2.2 hg.size⟩) _)) (ownFrom_below (Nat.le_refl _) (by omega)))
  (fun cc s A B row hs hg hr=>hs)
  ⟨⟨⟨.slice none 0 0,k3,World.ownsRow_nil _ _ _ _,trivial⟩,k1,k2,by omega⟩,hBW⟩
  (fun x a' W=>∃B8,a'={tmps:=#[.agg #[.slice A H.length c],.int .i64 key,.int .i64 src,.pointer (some ⟨w.heap.size,0,none⟩),.pointer (some ⟨w.heap.size+1,0,none⟩),.pointer (some ⟨w.heap.size+2,0,none⟩),.slice none 0 0,.pointer (some ⟨w.heap.size+3,0,none⟩),.pointer (some ⟨B8,0,none⟩),.agg #[.slice A H.length c],.func (.func 272) #[] #[.pointer (some ⟨w.heap.size+4,0,none⟩)],CP x,undef,undef,undef,undef,undef,undef,undef,undef,undef,undef,undef,undef,undef,undef,undef,undef,undef,undef],defers:=[]}∧w.heap.size+5≤B8∧Blk W B8 315 #[.int .i64 (x.1:Nat),.int .i64 x.2.a,.int .i64 x.2.b])
  (fun x a'=>Own.from (fun s A B row hs hg hr=>by obtain⟨B8,e,hB,hk⟩:=hs;exact⟨B8,e,hB,hk.grown hg (fun e'=>by obtain⟨o,ho,hc⟩:=hr B8 e'.symm;rw[show A.heap[B8]?=_ from hk]at ho;cases ho;cases hc)⟩) _) ?assign ?body ?done ?stop
 case assign=>
  rintro l pre ⟨xt,xa,xb⟩ W K ⟨⟨⟨v,hv,hr,_⟩,hk,hs,hW5⟩,hB⟩ hK;unfold CP;dsimp only
  gi_wp2
  refine hK _ _ (KeepsOthers.alloc _ _|>.from _) ((Below.refl _ _).alloc (by omega) _) ⟨⟨⟨v,hv.alloc _,hr.alloc _,trivial⟩,hk.alloc _,hs.alloc _,by simp;omega⟩,hB.alloc (by omega) _⟩ ⟨W.heap.size,rfl,hW5,Blk.new _ _ _⟩
 case body=>
  rintro l pre ⟨xt,xa,xb⟩ a' W hl ⟨rl,hrl⟩ ⟨⟨⟨v,hv,hr,_⟩,hk,hs,hW5⟩,hB⟩ ⟨B8,rfl,hB8,k8⟩ hlen;have e0:=Blk.n0 k8;have e1:=Blk.n1 k8;have e2:=Blk.n2 k8;have g1:=hk.cell;have g2:=hs.cell;have hsn:=IE key src pre (xt,⟨xa,xb⟩);dsimp only at hsn e0 e1 e2;by_cases q1:xa=key
  ·by_cases q2:xb=src
   ·have hsel:Hid (au (lY key src (pre++[(xt,⟨xa,xb⟩)]))=au (lY key src pre)++[(xt:Int)]):=hide (by rw[hsn];simp[q1,q2,gX]);have q1b:(xa==key)=true:=(by simpa using q1);have q2b:(xb==src)=true:=(by simpa using q2);have hpl:(au (lY key src pre)).length≤pre.length:=by
     rw[aN];unfold lY;rw[List.length_map];exact List.length_filter_le _ _
    have hRl:=Ri;generalize au (lY key src pre)=L at*;clear q1 q2 hsn;have hl63:L.length+1≤maxLen:=(by simp[maxLen];omega);have Rj:(L.length+1)*8≤140737488355328:=(by omega);have g3:=hv.cell;have f3:=hv.frozen;obtain⟨Av,cv,rfl⟩:=bY hr;have hlo:=hide (fun b hb=>(hr.lt b hb).1);replace hr:=hide hr
    gi_wp2_with (gi_at_builtin;refine yV rfl (.tmp 24) (.tmp 27) 33 rfl (w.heap.size+5) 3 ii _ 8 Tryz.underlying33 hii hi1 hi2 hi3 rfl (.slice Av L.length cv) L rfl hr.out (xt:Int) rfl hl63 Rj hW5 ?_;intro v1 w6 hown1 hg1 ji;obtain⟨A1,c1,rfl⟩:=bY hown1;have hv1:=(hv.alloc (.cells #[.int .i64 (xt:Int)] 3)).kept hg1 (fun e=>by have:=hlo.out _ e.symm;omega);have g6:=hv1.cell;have f6:=hv1.frozen)
    have hk1:=(hk.alloc (.cells #[.int .i64 (xt:Int)] 3)).kept hg1 (fun e=>by have:=hlo.out _ e.symm;omega);have hs1:=(hs.alloc (.cells #[.int .i64 (xt:Int)] 3)).kept hg1 (fun e=>by have:=hlo.out _ e.symm;omega);have hz6:=hg1.size;have hlx:(L++[(xt:Int)]).length=L.length+1:=(by simp);rw[hlx]at hown1;simp only[World.size_alloc]at hz6;refine⟨(((KeepsOthers.alloc W _).trans (KeepsOthers.of_grownBy hg1 fun j o ej hj=> ?_)).trans (KeepsOthers.setCell _ _ _)).from _,?_,⟨⟨_,hv1.set _,by rw[hsel.out,hlx];exact hown1.kept (grownBy_setCell' w6 _ _) (.inr fun e=>by have:=(hown1.lt _ e).1;omega)⟩,hk1.other (by omega) _,hs1.other (by omega) _,by simp;omega⟩,?_⟩
    ·rcases(hr.out.alloc (.cells #[.int .i64 (xt:Int)] 3)).2 with⟨h1,_⟩|⟨g,cap,cur,h1,_,hgb,_⟩
     ·rw[h1]at ej;simp[Value.ownBlock]at ej
     ·rw[h1]at ej;obtain rfl:g=j:=(by simpa[Value.ownBlock]using ej);rw[hgb]at hj;cases hj;rfl
    ·exact(((Below.refl w.heap.size W).alloc (by omega) _).grown hg1 (by simp;omega) (fun j ej=>by have:=hlo.out j ej;omega)).setCell (p:=⟨w.heap.size+3,0,none⟩) (by simp) _
    ·exact((hB.alloc (by omega) _).grown hg1 (by simp;omega) (fun j ej=>by have:=hlo.out j ej;omega)).setCell (p:=⟨w.heap.size+3,0,none⟩) (by simp) _
   ·have hsel:lY key src (pre++[(xt,⟨xa,xb⟩)])=lY key src pre:=(by rw[hsn];simp[q2]);have q1b:(xa==key)=true:=(by simpa using q1);have q2b:(xb==src)=false:=(by simpa using q2);replace hsel:=hide hsel;clear q1 q2 hsn
    gi_wp2
    exact⟨(KeepsOthers.refl _).from _,Below.refl _ _,⟨⟨v,hv,by rw[hsel.out];exact hr⟩,hk,hs,hW5⟩,hB⟩
  ·have hsel:lY key src (pre++[(xt,⟨xa,xb⟩)])=lY key src pre:=(by rw[hsn];simp[q1]);have q1b:(xa==key)=false:=(by simpa using q1);replace hsel:=hide hsel;clear q1 hsn
   gi_wp2
   exact⟨(KeepsOthers.refl _).from _,Below.refl _ _,⟨⟨v,hv,by rw[hsel.out];exact hr⟩,hk,hs,hW5⟩,hB⟩
 case done=>
  rintro D xs W hD rfl ⟨⟨⟨v,hv,hr,_⟩,hk,hs,hW5⟩,hB⟩ hK;have g1:=hv.cell;have hsl:=hide (CQ H key src);obtain⟨Av,cv,rfl⟩:=bY hr
  gi_wp2
  refine⟨by simp,.inl ⟨_,_,rfl,run_takeDeferred hK,?_⟩⟩;refine⟨.slice Av (au (lY key src (iJ H))).length cv,?_,_,rfl,?_,hB.trans (belowK_b (w:=w) (Nat.le_refl _) W D _ _ (by omega) hK rfl rfl)⟩
  ·simp[results,Tryz.results226,go_sem]
  ·unfold aS;rw[←hsl.out];exact CS (ownsRow_putObj hr _ hK rfl) (by omega)
 case stop=>
  rintro D cc pre W hD hpre hF hK;exact hF.elim
end Go.Proofs.YtfhnamomiaekdaaGreatDoor
namespace Go.Proofs.YtfhnamomiaekdaaGreatDoor
open Go.RowKit Go.Inq
set_option maxHeartbeats 4000000
attribute [local go_sem↓] Go.wp_at_zero Go.wp_at_succ
def neL(l:List (Nat×Nat)):aj:=fun x y=>decide (x≠y)&&l.contains (x,y)
theorem MX(x y:Nat):noE x y=neL [] x y:=by simp[noE,neL]
theorem K3(l:List (Nat×Nat))(a b x y:Nat):uE (neL l) (a:Int) (b:Int) x y=neL (l++[(a,b)]) x y:=by
 unfold uE;have hc:(l++[(a,b)]).contains (x,y)=(l.contains (x,y)||(decide (x=a)&&decide (y=b))):=by
  rw[Bool.eq_iff_iff];simp
 split
 ·rename_i h;simp only[orE,gK,neL,Int.toNat_natCast,hc];by_cases e1:x=a
  ·by_cases e2:y=b
   ·have:x≠y:=(by omega);simp[e1,e2,this];omega
   ·simp[e2]
  ·simp[e1]
 ·rename_i h;simp only[neL,hc];have hab:a=b:=(by omega);by_cases e1:x=a
  ·by_cases e2:y=b
   ·have:x=y:=(by omega);simp[this]
   ·simp[e2]
  ·simp[e1]
def sO(wr:List Nat)(rd:List Nat):List (Nat×Nat):=(rd.map fun a=>wr.map fun b=>(a,b)).flatten
def OE(H:List Txn)(key:Int):List (Nat×Nat):=sO (fE H key) (yO H key (-1))
def kU(H:List Txn)(k:Nat):List (Nat×Nat):=(((dW H).take k).map (OE H)).flatten
theorem EX{H:List Txn}{k:Nat}(h:k<(dW H).length):kU H (k+1)=kU H k++OE H (dW H)[k]:=by
 unfold kU;rw[List.take_succ_eq_append_getElem h,List.map_append,List.flatten_append];simp
theorem IG(wr:List Nat){rd:List Nat}{i:Nat}(h:i<rd.length):sO wr (rd.take (i+1))=sO wr (rd.take i)++wr.map fun b=>(rd[i],b):=by
 unfold sO;rw[List.take_succ_eq_append_getElem h,List.map_append,List.flatten_append];simp
theorem CU{wr rd:List Nat}{a b:Nat}:(a,b)∈sO wr rd↔a∈rd∧b∈wr:=by
 unfold sO;rw[List.mem_flatten];constructor
 ·rintro⟨l,hl,h⟩;obtain⟨x,hx,rfl⟩:=List.mem_map.1 hl;obtain⟨y,hy,e⟩:=List.mem_map.1 h;injection e with e1 e2
  subst e1 e2;exact⟨hx,hy⟩
 ·rintro⟨ha,hb⟩;exact⟨_,List.mem_map.2 ⟨a,ha,rfl⟩,List.mem_map.2 ⟨b,hb,rfl⟩⟩
theorem II{H:List Txn}{x y:Nat}(hx:x<H.length)(hy:y<H.length):neL (kU H (dW H).length) x y=lK H x y:=by
 unfold neL kU;rw[List.take_length,Bool.eq_iff_iff,G8 hx hy,Bool.and_eq_true,decide_eq_true_iff,List.contains_iff_mem,List.mem_flatten];constructor
 ·rintro⟨h1,l,hl,h⟩;obtain⟨k,hk,rfl⟩:=List.mem_map.1 hl;obtain⟨h2,h3⟩:=CU.1 h;exact⟨h1,k,hk,h2,h3⟩
 ·rintro⟨h1,k,hk,h2,h3⟩;exact⟨h1,_,List.mem_map.2 ⟨k,hk,rfl⟩,CU.2 ⟨h2,h3⟩⟩
theorem K4{H:List Txn}(hn:aB H)(hr:aC H=true)(key src:Int):(yO H key src).length≤32000000:=by
 rw[←CQ];unfold lY;rw[List.length_map];exact Nat.le_trans (List.length_filter_le _ _) (xS hn hr)
set_option maxRecDepth 100000 in
theorem IJ(A:Option Addr)(c:Nat)(H:List Txn)(hr:aC H=true)(hn:aB H)(Bh Bg base:Nat)(K:Nat→Prop)(w:World)(hT:aF w K (.slice A H.length c) H)(hBh:Blk w Bh 24 #[.slice A H.length c])(hK:∀b,K b→b<base)(hB:Bh<base)(hBg:base≤Bg)(bG:eO w Bg base H.length noE)(hbw:base≤w.heap.size):
 Calls Tryz.prog 225 #[.func (.func 258) #[] #[.pointer (some ⟨Bg,0,none⟩)],.pointer (some ⟨Bh,0,none⟩)] w fun e w'=>e= .returned (.tuple #[])∧eO w' Bg base H.length (lK H)∧w.grownBy w' (some Bg):=by
 have c0:=Blk.n0 hBh;have h32:H.length≤32:=((aA H).1 hr).1;have hBl:Bg<w.heap.size:=bG.lt;have hkw:Hid (∀b,K b→b<w.heap.size):=hide fun b hb=>(by have:=hK b hb;omega);have hkg:Hid (∀b,K b→b<Bg):=hide fun b hb=>(by have:=hK b hb;omega);replace hr:=hide hr;replace hn:=hide hn;have hTo:=hT.fit (K':=Old w) (fun b hb=>hkw.out b hb);replace hT:=hide hT;replace bG:=hide (bG.congr fun a b _ _=>MX a b);have hT0:Hid (∀w',w.grownBy w' (some Bg)→aF w' (Old w') (.slice A H.length c) H):=hide fun w' hg=>aF.keep hT.out (Agree.ku hg hkg.out (Nat.le_of_lt hBl)) (fun b hb=>Nat.lt_of_lt_of_le (hkw.out b hb) hg.size);replace hK:=hide hK;go_enter Tryz.func225,Tryz.ntmps225;go_wp2_with fail;clear c0;refine(zu A c H _ hTo hn.out hr.out).mono ?_;rintro e wk ⟨vk,rfl,hKO,hbk⟩;obtain⟨Ak,ck,rfl⟩:=hKO.form;have hKS:=hide (hKO.sl (K:=fun b=>w.heap.size≤b∧b<wk.heap.size) (fun g h1 h2=>⟨h1,h2⟩));have NU:=bG.out.below hbk;have hgk:=bQ hbk (r:=some Bg) (Nat.le_refl _);have QU:=oC hr.out;have hstp:=hide (fun k (hk:k<(dW H).length)=>EX hk);have hall:=hide (fun x y (hx:x<H.length) (hy:y<H.length)=>II hx hy);clear hKO bG hTo;generalize hKL:dW H=KL at*;clear hKL;go_wp2_with fail;go_loopw [12] (fun s12 wr=>∃k:Nat,k≤KL.length∧s12= .int .i64 k∧eO wr Bg base H.length (neL (kU H k))∧wk.grownBy wr (some Bg)) (fun s12 _=>KL.length-(intOf s12).toNat);case atStart=>exact⟨0,Nat.zero_le _,by go_num,NU,World.grownBy.refl _ _⟩
 case round=>
  clear NU hbk;obtain⟨Wo,rfl⟩:∃Wo,Wo=wr:=⟨_,rfl⟩;obtain⟨k,hk,rfl,bG,hgw⟩:=hrel;have hi1:(0:Int)≤(k:Int):=Int.natCast_nonneg _;have hgo:=av hgk hgw;have Oj:=hgo.size;have QV:=hgw.size;by_cases hlt:k<KL.length
  ·have hi2:(k:Int)<(KL.length:Int):=(by omega);obtain⟨bk,ok,rfl,_,hck⟩:=(hKS.out.keep (Agree.grown hgw fun b hb=>⟨hb.2,by have:=hb.1;simp;omega⟩) (fun b h=>h)).at_ hlt;have hst:=hide (hstp.out k hlt);have hBo:=hBh.grown hgo (by simp;omega);have b0:=Blk.n0 hBo;generalize KL[k]=key at*;unfold OE at hst;go_wp2_with fail;clear b0 hck;refine(Bn A c H key (-1) _ (hT0.out _ hgo) hn.out hr.out).mono ?_;rintro e wd ⟨vd,rfl,hDO,hbd⟩;have hDm:=hide (fun a (ha:a∈yO H key (-1))=>(wR.1 ha).1);have hDl:=K4 hn.out hr.out key (-1);generalize yO H key (-1)=D at*;obtain⟨Ad,cd,hv⟩:=hDO.form;rw[aN]at hv;subst hv;have hDS:=hide (hDO.sl (K:=fun b=>Wo.heap.size≤b∧b<wd.heap.size) (fun g h1 h2=>⟨h1,h2⟩));have NV:=bG.below hbd;have hgd:=av hgo (bQ hbd (r:=some Bg) (Nat.le_refl _));have hgd2:=av hgw (bQ hbd (r:=some Bg) (Nat.le_refl _));have Sy:=hbd.size;have hW0:Hid (neL (kU H k)=neL (kU H k++sO (fE H key) (D.take 0))):=hide (by simp[sO]);clear hDO hbd bG hgw hgo hBo;go_wp2_with fail;go_loopw [20] (fun s20 wr=>∃i:Nat,i≤D.length∧s20= .int .i64 i∧eO wr Bg base H.length (neL (kU H k++sO (fE H key) (D.take i)))∧wd.grownBy wr (some Bg)) (fun s20 _=>D.length-(intOf s20).toNat);case atStart=>exact⟨0,Nat.zero_le _,by go_num,by rw[←hW0.out];exact NV,World.grownBy.refl _ _⟩
   case round=>
    clear NV hW0;obtain⟨Wp,rfl⟩:∃Wp,Wp=wr:=⟨_,rfl⟩;obtain⟨i,hi,rfl,bG,hgw⟩:=hrel;have hj1:(0:Int)≤(i:Int):=Int.natCast_nonneg _;have hgo:=av hgd hgw;by_cases hlt2:i<D.length
    ·have hj2:(i:Int)<(D.length:Int):=(by omega);obtain⟨bd,od,rfl,_,hcd⟩:=(hDS.out.keep (Agree.grown hgw fun b hb=>⟨hb.2,by have:=hb.1;simp;omega⟩) (fun b h=>h)).at_ (i:=i) (by rw[aN];exact hlt2);rw[iF hlt2]at hcd;have Rk:=hide (IG (fE H key) hlt2);have ham:=hDm.out _ (List.getElem_mem hlt2);generalize D[i]=a at*;have hBo:=hBh.grown hgo (by simp;omega);have b0:=Blk.n0 hBo;go_wp2_with fail;clear b0 hcd;refine(rY A c H key _ (hT0.out _ hgo) hn.out hr.out).mono ?_;rintro e wl ⟨vl,rfl,hLO,hbl⟩;have hLm:=hide (fun b (hb:b∈fE H key)=>(jH.1 hb).1);have hLl:=og H key;generalize hLe:fE H key=L at*;replace hLe:=hide hLe;obtain⟨Al,cl,hv⟩:=hLO.form;rw[aN]at hv;subst hv;have hLS:=hide (hLO.sl (K:=fun b=>Wp.heap.size≤b∧b<wl.heap.size) (fun g h1 h2=>⟨h1,h2⟩));have NW:=bG.below hbl;have hgl:=av hgw (bQ hbl (r:=some Bg) (Nat.le_refl _));have Rl:=av hgo (bQ hbl (r:=some Bg) (Nat.le_refl _));have Ol:=Rl.size;have Hu:=hgo.size;have hM0:Hid (neL (kU H k++sO L (D.take i))=neL (kU H k++sO L (D.take i)++(L.take 0).map fun b=>(a,b))):=hide (by simp);clear hLO hbl bG hgw hgo hBo;go_wp2_with fail;go_loopw [28] (fun s28 wr=>∃j:Nat,j≤L.length∧s28= .int .i64 j∧eO wr Bg base H.length (neL (kU H k++sO L (D.take i)++(L.take j).map fun b=>(a,b)))∧wl.grownBy wr (some Bg)) (fun s28 _=>L.length-(intOf s28).toNat);case atStart=>exact⟨0,Nat.zero_le _,by go_num,by rw[←hM0.out];exact NW,World.grownBy.refl _ _⟩
     case round=>
      clear NW hM0;obtain⟨j,hj,rfl,bG,hgw⟩:=hrel;have hjj:(0:Int)≤(j:Int):=Int.natCast_nonneg _;by_cases hlt3:j<L.length
      ·have hj3:(j:Int)<(L.length:Int):=(by omega);obtain⟨bl,ol,rfl,_,hcl⟩:=(hLS.out.keep (Agree.grown hgw fun b hb=>⟨hb.2,by have:=hb.1;simp;omega⟩) (fun b h=>h)).at_ (i:=j) (by rw[aN];exact hlt3);rw[iF hlt3]at hcl;have htk:=hide (take_snoc' hlt3);have hbm:=hLm.out _ (List.getElem_mem hlt3);generalize L[j]=b at*;have hb0:(0:Int)≤(b:Int):=Int.natCast_nonneg _;have hb1:(b:Int)<(H.length:Int):=(by omega);have ha1:(a:Int)<(H.length:Int):=(by omega);have OA:=hgw.size;have Rm:base≤wr.heap.size:=(by omega);have hM2:Hid (kU H k++sO L (D.take i)++(L.take (j+1)).map (fun b=>(a,b))=(kU H k++sO L (D.take i)++(L.take j).map fun b=>(a,b))++[(a,b)]):=hide (by rw[htk.out,List.map_append,←List.append_assoc];rfl);go_wp2_with fail;clear hcl;refine(rC H.length (by omega) _ (a:Int) (b:Int) ha1 hb0 hb1 Bg base _ bG Rm).mono ?_;rintro e w5 ⟨rfl,sM,hg5⟩;go_wp2;go_roundw;case rel=>exact⟨j+1,by omega,by go_num,by rw[hM2.out];exact sM.congr fun x y _ _=>K3 _ a b x y,av hgw hg5⟩
       case measure=>simp[intOf];omega
      ·obtain rfl:j=L.length:=(by omega);rw[List.take_length,List.append_assoc,←Rk.out]at bG;go_wp2;go_roundw;case rel=>exact⟨i+1,by omega,by go_num,by rw[hLe.out];exact bG,av hgl hgw⟩
       case measure=>simp[intOf];omega
    ·obtain rfl:i=D.length:=(by omega);rw[List.take_length,←hst.out]at bG;go_wp2;go_roundw;case rel=>exact⟨k+1,by omega,by go_num,bG,av hgd2 hgw⟩
     case measure=>simp[intOf];omega
  ·obtain rfl:k=KL.length:=(by omega);go_wp2
   go_end0
   exact⟨rfl,bG.congr fun x y hx hy=>hall.out x y hx hy,av hgk hgw⟩
set_option maxRecDepth 100000 in
theorem EY(A:Option Addr)(c:Nat)(H:List Txn)(w:World)(h:aF w (Old w) (.slice A H.length c) H)(hn:aB H)(hr:aC H=true):
 Calls Tryz.prog 168 #[.agg #[.slice A H.length c]] w (nO w H.length (lK H)):=by
 obtain⟨W0,hW0⟩:∃W0,(w.alloc (.cells #[.slice A H.length c] 24)).alloc (.cells #[.int .i64 0,.slice none 0 0] 77)=W0:=⟨_,rfl⟩;have hB:=aG hW0;have k0:=Blk.fC hW0;have k1:=Blk.dQ hW0;have hs0:=size_two hW0;have h0:=h.below hB;have h32:H.length≤32:=((aA H).1 hr).1;have hcall:=hide (rD 225 (enters_of Tryz.func225 (by kernel_rfl) rfl) #[.pointer (some ⟨w.heap.size,0,none⟩)] A c H (lK H) W0 h0 hn hr (fun W Bg hbW bG hBg=>by
  have KY:Below w.heap.size w W:=hB.trans (hbW.mono (by omega));exact(IJ A c H hr hn w.heap.size Bg W0.heap.size (Old w) W (aF.keep h (Agree.below KY fun b h=>h) (fun b h=>h)) (k0.below hbW k0.lt) (fun b hb=>by have:b<w.heap.size:=hb;omega) (by omega) (by omega) bG hbW.size).mono fun e w' hh=>hh))
 have c0:=Blk.n0 k0;replace hs0:=hide hs0;go_enter Tryz.func168,Tryz.ntmps168;go_wp2_with fail;clear hW0 c0;refine hcall.out.mono ?_;rintro e w4 ⟨g,hg,rfl,kR,hb4⟩;have qc:g≠w.heap.size+1:=(by have:=hs0.out;omega);have k14:=k1.below hb4 k1.lt;have hb5:=hB.trans (hb4.mono (by have:=hs0.out;omega));have j0:=Blk.n0 k14;have j1:=Blk.n1 k14;have jf:=k14.frozen 0;have jf1:=k14.frozen 1;have hgw:w.heap.size≤g:=(by have:=hs0.out;omega);clear hcall;go_wp2;have kF0:=((kR.far (p:=⟨w.heap.size+1,0,none⟩) qc (.int .i64 H.length)).far (p:=⟨w.heap.size+1,1,none⟩) qc (.slice (some ⟨g,0,none⟩) H.length H.length));have hF:=((hb5.setCell (p:=⟨w.heap.size+1,0,none⟩) (by simp) (.int .i64 H.length)).setCell (p:=⟨w.heap.size+1,1,none⟩) (by simp) (.slice (some ⟨g,0,none⟩) H.length H.length));exact bodyPost_ret (v:= .agg #[.int .i64 H.length,.slice (some ⟨g,0,none⟩) H.length H.length]) (by simp[results,Tryz.results168,go_sem,j0,j1]) rfl ⟨g,hgw,rfl,kF0,hF⟩
def xU(H:List Txn)(c:Cho):aj:=fun x y=>decide (c.b=(y:Int))&&decide (x≠y)&&(aL H x).reads.any fun r=>decide (r.a=c.key)&&decide (r.b=c.a)
theorem K5(H:List Txn)(l:List Cho):rwE H l=fun x y=>lK H x y||l.any fun c=>xU H c x y:=rfl
def kV(H:List Txn)(l:List Cho)(c:Cho)(t:Nat):aj:=fun x y=>rwE H l x y||(decide (x<t)&&xU H c x y)
theorem EZ(H:List Txn)(l:List Cho)(c:Cho):kV H l c 0=rwE H l:=by funext x y;simp[kV]
theorem zL(H:List Txn){l:List Cho}{k n:Nat}(hk:k<l.length){x y:Nat}(hx:x<n):kV H (l.take k) l[k] n x y=rwE H (l.take (k+1)) x y:=by
 unfold kV;rw[K5,K5,take_snoc' hk];simp only[List.any_append,List.any_cons,List.any_nil,Bool.or_false,decide_eq_true hx,Bool.true_and,Bool.or_assoc]
theorem IK{H:List Txn}{l:List Cho}{c:Cho}{t b:Nat}(hb:c.b=b)(hne:t≠b)(hs:((aL H t).reads.any fun r=>decide (r.a=c.key)&&decide (r.b=c.a))=true):orE (kV H l c t) (gK t b)=kV H l c (t+1):=by
 funext x y;unfold orE kV gK;rw[Bool.or_assoc];congr 1;by_cases e1:x=t
 ·subst e1;by_cases e2:y=b
  ·subst e2;simp[xU,hb,hne,hs]
  ·have:decide (c.b=(y:Int))=false:=(by rw[hb];simp;omega);simp[xU,e2,this]
 ·have:decide (x<t+1)=decide (x<t):=(by simp;omega);simp[e1,this]
theorem K6{H:List Txn}{l:List Cho}{c:Cho}{t b:Nat}(hb:c.b=b)(h:t=b∨((aL H t).reads.any fun r=>decide (r.a=c.key)&&decide (r.b=c.a))=false):kV H l c t=kV H l c (t+1):=by
 funext x y;unfold kV;congr 1;by_cases e1:x=t
 ·subst e1;have:xU H c x y=false:=by
   unfold xU;rcases h with h|h
   ·subst h;by_cases e2:y=x
    ·subst e2;simp
    ·have:decide (c.b=(y:Int))=false:=(by rw[hb];simp;omega);simp[this]
   ·rw[h];simp
  simp[this]
 ·have:decide (x<t+1)=decide (x<t):=(by simp;omega);rw[this]
theorem Gx(H:List Txn)(x y:Nat):lK H x y=rwE H [] x y:=by simp[rwE]
set_option maxRecDepth 100000 in
theorem K7(A:Option Addr)(c:Nat)(H:List Txn)(Al:Option Addr)(cl:Nat)(l:List Cho)(w:World)(h:aF w (Old w) (.slice A H.length c) H)(hn:aB H)(hl:bq w (Old w) (.slice Al l.length cl) l)(hr:cB H l=true):
 Calls Tryz.prog 99 #[.agg #[.slice A H.length c],.slice Al l.length cl] w (nO w H.length (rwE H l)):=by
 obtain⟨W0,hW0⟩:∃W0,(w.alloc (.cells #[.slice A H.length c] 24)).alloc (.cells #[.int .i64 0,.slice none 0 0] 77)=W0:=⟨_,rfl⟩;have hB:=aG hW0;have k0:=Blk.fC hW0;have k1:=Blk.dQ hW0;have hs0:=size_two hW0;have hrh:=gD hr;have h32:H.length≤32:=((aA H).1 hrh).1;have hll:=jT hr;have hcn:=hide (fun x hx=>mZ hr (x:=x) hx);have hrl:=hide (fun i (hi:i<H.length)=>(hn.2 _ (List.getElem_mem hi)).2);have h0:=hide (h.below hB);have hl0:=hide (hl.below hB);replace hr:=hide hr;replace hn:=hide hn;replace hl:=hide hl;replace h:=hide h;replace hrh:=hide hrh;have c0:=Blk.n0 k0;replace hs0:=hide hs0;go_enter Tryz.func99,Tryz.ntmps99;go_wp2_with fail;clear hW0 c0;refine(kI A c H Al cl l _ h0.out hn.out hl0.out (by omega)).mono ?_;rintro e w1 ⟨rfl,hb1⟩;rw[hr.out];have hs1:w.heap.size+2≤w1.heap.size:=(by have:=hb1.size;have:=hs0.out;omega);replace k0:=k0.below hb1 k0.lt;replace k1:=k1.below hb1 k1.lt;have hb2:=hB.trans (hb1.mono hB.size);have h1:=hide (h0.out.below hb1);clear hb1 hB h0 hl0 hs0;have c0:=Blk.n0 k0;go_wp2_with fail;refine(EY A c H _ h1.out hn.out hrh.out).mono ?_;rintro e w2 ⟨g,hgs,rfl,kR,hb3⟩;replace k0:=k0.below hb3 k0.lt;replace k1:=k1.below hb3 k1.lt;replace hb2:=hb2.trans (hb3.mono hb2.size);have hs2:w1.heap.size≤w2.heap.size:=hb3.size;obtain⟨W3,hW3⟩:∃W3,w2.alloc (.cells #[.int .i64 H.length,.slice (some ⟨g,0,none⟩) H.length H.length] 77)=W3:=⟨_,rfl⟩;have k3:=Blk.newEq hW3;have hs3:=aH hW3;replace k0:=k0.ay hW3;replace k1:=k1.ay hW3;replace kR:=kR.ay hW3;have hb5:=ah hb2 hW3 (by omega);have bG:eO W3 w2.heap.size (w.heap.size+2) H.length (rwE H (l.take 0)):=⟨g,by omega,k3,by rw[List.take_zero,←dJ (fun a b _ _=>Gx H a b)];exact kR⟩;have Qd:=hide (fun W' (hg:W3.grownBy W' (some w2.heap.size))=>(Agree.below hb5 (K:=Old w) (fun b h=>h)).trans (Agree.grown hg fun b hb=>by have:b<w.heap.size:=hb;exact⟨by omega,by simp;omega⟩));replace hs3:=hide hs3;clear hb3 c0 k3 kR hb2 h1;go_wp2_with fail;clear hW3;go_loopw [19] (fun s19 wr=>∃k:Nat,k≤l.length∧s19= .int .i64 k∧eO wr w2.heap.size (w.heap.size+2) H.length (rwE H (l.take k))∧W3.grownBy wr (some w2.heap.size)) (fun s19 _=>l.length-(intOf s19).toNat);case atStart=>exact⟨0,Nat.zero_le _,by go_num,bG,World.grownBy.refl _ _⟩
 case round=>
  clear bG;obtain⟨Wo,rfl⟩:∃Wo,Wo=wr:=⟨_,rfl⟩;obtain⟨k,hk,rfl,bG,hgw⟩:=hrel;have hi1:(0:Int)≤(k:Int):=Int.natCast_nonneg _;by_cases hlt:k<l.length
  ·have hi2:(k:Int)<(l.length:Int):=(by omega);obtain⟨b,off,rfl,_,d0,d1,d2⟩:=(hl.out.keep (Qd.out Wo hgw) (fun b h=>h)).at_ hlt;obtain⟨xa,xb,ha,hb,ha2,hb2⟩:=hcn.out _ (List.getElem_mem hlt);have hend:=hide (fun x y (hx:x<H.length)=>zL H hlt (n:=H.length) (y:=y) hx);have hzero:=hide (EZ H (l.take k) l[k]);have hyes:=hide (fun t (hne:t≠xb)=>IK (H:=H) (l:=l.take k) (t:=t) hb hne);have hno:=hide (fun t=>K6 (H:=H) (l:=l.take k) (t:=t) hb);rw[ha]at d1 hyes hno;rw[hb]at d2;generalize hx0:l[k]=x at*;obtain⟨key,ya,yb⟩:=x;dsimp only at*;clear hx0 ha hb;obtain⟨W4,hW4⟩:∃W4,Wo.alloc (.cells #[.int .i64 key,.int .i64 xa,.int .i64 xb] 102)=W4:=⟨_,rfl⟩;have kC:=Blk.newEq hW4;have hg4:W3.grownBy W4 (some w2.heap.size):=(by rw[←hW4];exact av hgw (World.grownBy_alloc _ _ _));have Gv:eO W4 w2.heap.size (w.heap.size+2) H.length (kV H (l.take k) ⟨key,ya,yb⟩ 0):=(by rw[hzero.out,←hW4];exact bG.grown (r:=none) (World.grownBy_alloc _ _ _) (fun k e=>by cases e));have m0:=k0.grown hg4 (by simp;omega);have c0:=Blk.n0 m0;have Sz:w2.heap.size<Wo.heap.size:=(by have:=bG.lt;exact this);go_wp2_with fail;clear d0 d1 d2 c0 hW4 bG m0;go_loopw [26] (fun s26 wr=>∃t:Nat,t≤H.length∧s26= .int .i64 t∧eO wr w2.heap.size (w.heap.size+2) H.length (kV H (l.take k) ⟨key,ya,yb⟩ t)∧W4.grownBy wr (some w2.heap.size)) (fun s26 _=>H.length-(intOf s26).toNat);case atStart=>exact⟨0,Nat.zero_le _,by go_num,Gv,World.grownBy.refl _ _⟩
   case round=>
    clear Gv;obtain⟨t,ht,rfl,bG,hgq⟩:=hrel;have ht1:(0:Int)≤(t:Int):=Int.natCast_nonneg _;have OG:=av hg4 hgq;by_cases hlt2:t<H.length
    ·have ht2:(t:Int)<(H.length:Int):=(by omega);have hag:=Qd.out wr OG;have hTq:=aF.keep h.out hag (fun b h=>h);obtain⟨bt,ot,Aw,cw,Ar,cr,rfl,hKb,e0,e1,e2,_,hrs⟩:=aF.at_ hTq hlt2;have SA:=hrl.out t hlt2;have hyt:=hide (fun(hne:t≠xb)=>hyes.out t hne);have hnt:=hide (hno.out t);rw[aO hlt2]at hyt hnt;generalize H[t]=x at*;obtain⟨ts,ws,rs⟩:=x;dsimp only at*;have kCq:=kC.grown hgq (by simp;omega);obtain⟨W5,hW5⟩:∃W5,wr.alloc (.cells #[.int .i64 ts,.slice Aw ws.length cw,.slice Ar rs.length cr] 109)=W5:=⟨_,rfl⟩;have hB5:=ah (Below.refl wr.heap.size wr) hW5 (Nat.le_refl _);have kX:=Blk.newEq hW5;have kC5:=kCq.ay hW5;have hg5:W4.grownBy W5 (some w2.heap.size):=(by rw[←hW5];exact av hgq (World.grownBy_alloc _ _ _));have sM:eO W5 w2.heap.size (w.heap.size+2) H.length (kV H (l.take k) ⟨key,ya,yb⟩ t):=(by rw[←hW5];exact bG.grown (r:=none) (World.grownBy_alloc _ _ _) (fun k e=>by cases e));have Oz:w.heap.size≤wr.heap.size:=(by have:=OG.size;have:=hb5.size;omega);have Rn:=hide (hrs.keep (K':=Old W5) (Agree.below hB5 fun b hb=>by have:b<w.heap.size:=hb;omega) (fun b hb=>by have:b<w.heap.size:=hb;have:=hB5.size;show b<W5.heap.size;omega));have x2:=Blk.n2 kX;have y0:=Blk.n0 kC5;have y1:=Blk.n1 kC5;have y2:=Blk.n2 kC5;by_cases q1:t=xb
     ·have q1b:((t:Int) !=(xb:Int))=false:=(by simp[q1]);have q1c:(t !=xb)=false:=(by simp[q1]);have hst:=hide (hnt.out (.inl q1));have Gy:=sM;have hgZ:=hg5;clear q1 hyt hnt hrs;go_wp2;go_roundw;case rel=>exact⟨t+1,by omega,by go_num,by rw[←hst.out];exact Gy,hgZ⟩
      case measure=>simp[intOf];omega
     ·have q1b:((t:Int) !=(xb:Int))=true:=(by simp;omega);have q1c:(t !=xb)=true:=(by simp;omega);have OH:=hide (hyt.out q1);clear q1 hyt hrs;go_wp2_with fail;clear e0 e1 e2 hW5;refine(qy Ar cr rs key (xa:Int) _ Rn.out (by omega)).mono ?_;rintro e W6 ⟨rfl,hb6⟩;have Gy:=sM.below hb6;have hgZ:=av hg5 (bQ hb6 (Nat.le_refl _));have kC6:=kC5.below hb6 kC5.lt;clear x2 y0 y1 y2 sM hg5;cases hq:(rs.any fun x=>decide (x.a=key)&&decide (x.b=(xa:Int)))with
      |false=>
       have hst:=hide (hnt.out (.inr hq));clear hq hnt OH;go_wp2;go_roundw;case rel=>exact⟨t+1,by omega,by go_num,by rw[←hst.out];exact Gy,hgZ⟩
       case measure=>simp[intOf];omega
      |true=>
       have hst:=hide (OH.out hq);clear hq hnt OH;obtain⟨g',hg',qc,hgl,kB,kR,hG⟩:=Gy.open (by omega);have b0:=Blk.n0 kB;have b1:=Blk.n1 kB;have y2:=Blk.n2 kC6;go_wp2_with fail;clear b0 b1 y2;refine(uD H.length (some ⟨g',0,none⟩) H.length _ t xb hlt2 hb2 (fun b=>b=g') _ hG (fun b hb=>by subst hb;exact hgl)).mono ?_;rintro e w7 ⟨g5,Q9,rfl,kR5,ni⟩;have kB5:=kB.below ni kB.lt;have c0:=Blk.n0 kB5;have c1:=Blk.n1 kB5;have f0:=kB5.frozen 0;have f1:=kB5.frozen 1;have hBl:=kB.lt;have Ra:=(av hg4 hgZ).size;go_wp2;go_roundw;case rel=>
        refine⟨t+1,by omega,by go_num,⟨g5,by omega,?_,?_⟩,av hgZ (av (av (bQ ni (Nat.le_refl _)) (dK w2.heap.size 0 _)) (dK w2.heap.size 1 _))⟩
        ·have:=(kB5.aD 0 (.int .i64 H.length)).aD 1 (.slice (some ⟨g5,0,none⟩) H.length H.length);simpa using this
        ·rw[←hst.out];exact(kR5.far (p:=⟨w2.heap.size,0,none⟩) (by simp;omega) _).far (p:=⟨w2.heap.size,1,none⟩) (by simp;omega) _
       case measure=>simp[intOf];omega
    ·obtain rfl:t=H.length:=(by omega);go_wp2;go_roundw;case rel=>exact⟨k+1,by omega,by go_num,bG.congr fun x y hx _=>hend.out x y hx,OG⟩
     case measure=>simp[intOf];omega
  ·obtain rfl:k=l.length:=(by omega);rw[List.take_length]at bG;obtain⟨g',hg',qc,hgl,kB,kR,hG⟩:=bG.open (by omega);have k14:=k1.grown hgw (by simp;omega);have hb4:=below_grown hb5 hgw hb5.size (by intro k hk;injection hk with hk;omega);have c0:=Blk.n0 kB;have c1:=Blk.n1 kB;have j0:=Blk.n0 k14;have j1:=Blk.n1 k14;have jf:=k14.frozen 0;have jf1:=k14.frozen 1;have n1:g'≠w.heap.size+1:=(by omega);go_wp2;have kF0:=((kR.far (p:=⟨w.heap.size+1,0,none⟩) n1 (.int .i64 H.length)).far (p:=⟨w.heap.size+1,1,none⟩) n1 (.slice (some ⟨g',0,none⟩) H.length H.length));have hF:=((hb4.setCell (p:=⟨w.heap.size+1,0,none⟩) (by simp) (.int .i64 H.length)).setCell (p:=⟨w.heap.size+1,1,none⟩) (by simp) (.slice (some ⟨g',0,none⟩) H.length H.length));exact bodyPost_ret (v:= .agg #[.int .i64 H.length,.slice (some ⟨g',0,none⟩) H.length H.length]) (by simp[results,Tryz.results99,go_sem,j0,j1]) rfl ⟨g',by omega,rfl,kF0,hF⟩
def GV(base n:Nat)(E:aj)(v:Value)(W:World):Prop:=∃g,base≤g∧v= .agg #[.int .i64 n,.slice (some ⟨g,0,none⟩) n n]∧Blk W g 172 (bH n E)
theorem GV.below{base n:Nat}{E:aj}{v:Value}{W W':World}(h:GV base n E v W)(hb:Below W.heap.size W W'):GV base n E v W':=by
 obtain⟨g,h1,h2,h3⟩:=h;exact⟨g,h1,h2,h3.below hb h3.lt⟩
def lg(b:Nat)(W W':World):Prop:=
 (W'.os=W.os∧W'.tape=W.tape∧W'.output=W.output∧W.heap.size≤W'.heap.size)∧∀k,k<W.heap.size→W'.heap[k]?=W.heap[k]?∨(b≤k∧∃cs cs',W.heap[k]?=some (.cells cs 77 (0,0))∧W'.heap[k]?=some (.cells cs' 77 (0,0))∧cs'.size=2)
theorem lg.of_below{b:Nat}{W W':World}(h:Below W.heap.size W W'):lg b W W':=⟨⟨h.os,h.tape,h.output,h.size⟩,fun k hk=> .inl (h.block k hk)⟩
theorem lg.blk{b g:Nat}{t:TypeId}{cs:Array Value}{W W':World}(h:lg b W W')(hk:Blk W g t cs)(ht:t≠77):Blk W' g t cs:=by
 rcases h.2 g hk.lt with e|⟨_,cs1,_,e,_⟩
 ·exact e.trans hk
 ·rw[show W.heap[g]?=_ from hk]at e;injection e with e
  injection e with _ e
  exact absurd e ht
theorem lg.below{b:Nat}{W W':World}(h:lg b W W'):Below b W W'∨W.heap.size<b:=by
 rcases Nat.lt_or_ge W.heap.size b with g|g
 ·exact .inr g
 ·exact .inl ⟨h.1.1,h.1.2.1,h.1.2.2.1,h.1.2.2.2,fun k hk=>by
   rcases h.2 k (by omega)with e|⟨e,_⟩
   ·exact e
   ·omega⟩
theorem GV.var{base n b:Nat}{E:aj}{v:Value}{W W':World}(h:GV base n E v W)(hb:lg b W W'):GV base n E v W':=by
 obtain⟨g,h1,h2,h3⟩:=h;exact⟨g,h1,h2,hb.blk h3 (by decide)⟩
def E5(b:Nat)(v:Value)(W:World):Prop:=∃g,b≤g∧v= .pointer (some ⟨g,0,none⟩)∧∃x y,Blk W g 77 #[x,y]
def lq(H:List Txn)(A:Option Addr)(c base:Nat):Nat→(Nat→Value)→World→Prop
 |0,vs,_=>vs 0= .agg #[.slice A H.length c]
 |1,vs,W=>GV base H.length (soE H) (vs 1) W
 |2,vs,_=>vs 2= .agg #[.slice A H.length c]
 |3,vs,W=>GV base H.length (wrE H) (vs 3) W
 |4,vs,W=>∃u,vs 4= .tuple #[u,.int .i64 0]∧GV base H.length (dX H) u W
 |5,vs,W=>∃u,vs 5= .tuple #[u,.int .i64 0]∧GV base H.length (dX H) u W
 |6,vs,W=>GV base H.length (dX H) (vs 6) W
 |7,vs,_=>vs 7= .int .i64 0
 |8,vs,W=>E5 (base+2) (vs 8) W
 |9,vs,W=>∃g x y,vs 8= .pointer (some ⟨g,0,none⟩)∧base+2≤g∧vs 6= .agg #[x,y]∧Blk W g 77 #[x,y]
 |_,_,_=>True
def jU:Nat→List Nat
 |1=>[0]
 |3=>[2]
 |4=>[1,3]
 |5=>[4]
 |6=>[5]
 |7=>[5]
 |9=>[8,6]
 |10=>[7]
 |_=>[]
theorem MZ{H:List Txn}{A:Option Addr}{c base:Nat}:∀j (vs vs':Nat→Value) w,(∀k,k=j∨k∈jU j→vs k=vs' k)→lq H A c base j vs w→lq H A c base j vs' w:=by
 intro j vs vs' w hk h
 match j,h with
 |0,h|1,h|2,h|3,h|4,h|5,h|6,h|7,h|8,h=>
  simp only[lq]at h⊢;rw[←hk _ (.inl rfl)];exact h
 |9,h=>
  simp only[lq]at h⊢;rw[←hk 8 (.inr (by simp[jU])),←hk 6 (.inr (by simp[jU]))];exact h
 |n+10,_=>trivial
def rE(base:Nat)(i:Nat)(W W':World):Prop:=if i=9 then lg (base+2) W W' else Below W.heap.size W W'
theorem rE.var{base i:Nat}{W W':World}(h:rE base i W W'):lg (base+2) W W':=by
 unfold rE at h;split at h
 ·exact h
 ·exact lg.of_below h
theorem E5.var{b b':Nat}{v:Value}{W W':World}(h:E5 b v W)(hs:lg b' W W'):E5 b v W':=by
 obtain⟨g,h1,h2,x,y,h3⟩:=h;rcases hs.2 g h3.lt with e|⟨_,cs,cs',_,e2,e3⟩
 ·exact⟨g,h1,h2,x,y,e.trans h3⟩
 ·refine⟨g,h1,h2,cs'[0]'(by omega),cs'[1]'(by omega),?_⟩;have:cs'=#[cs'[0]'(by omega),cs'[1]'(by omega)]:=by
   refine Array.ext (by simp[e3]) fun i h1 h2=> ?_;simp at h2
   match i,h2 with
   |0,_=>rfl
   |1,_=>rfl
  unfold Blk;rw[←this];exact e2
theorem IL{H:List Txn}{A:Option Addr}{c base:Nat}:∀i j (vs:Nat→Value) w w',j≠i→j∉(fun _=>[]:Nat→List Nat) i→lq H A c base j vs w→rE base i w w'→lq H A c base j vs w':=by
 intro i j vs w w' hne _ h hs;have hv:=hs.var
 match j,h with
 |0,h|2,h|7,h=>exact h
 |1,h|3,h|6,h=>
  simp only[lq]at h⊢;exact h.var hv
 |4,h|5,h=>
  simp only[lq]at h⊢;obtain⟨u,h1,h2⟩:=h;exact⟨u,h1,h2.var hv⟩
 |8,h=>
  simp only[lq]at h⊢;exact E5.var h hv
 |9,h=>
  unfold rE at hs;rw[if_neg (fun e=>hne e.symm)]at hs;simp only[lq]at h⊢;obtain⟨g,x,y,h1,h2,h3,h4⟩:=h;exact⟨g,x,y,h1,h2,h3,h4.below hs h4.lt⟩
 |n+10,_=>trivial
theorem IQ:∀i,11≤i→jU i=[]:=by
 intro i hi
 match i,hi with
 |n+11,_=>rfl
set_option maxRecDepth 100000 in
theorem E8(A:Option Addr)(c:Nat)(H:List Txn)(w:World)(h:aF w (Old w) (.slice A H.length c) H)(hn:aB H)(hr:aC H=true):
 Calls Tryz.prog 97 #[.agg #[.slice A H.length c]] w (nO w H.length (dX H)):=by
 obtain⟨W0,hW0⟩:∃W0,(w.alloc (.cells #[.slice A H.length c] 24)).alloc (.cells #[.int .i64 0,.slice none 0 0] 77)=W0:=⟨_,rfl⟩;have hB:=aG hW0;have k0:=Blk.fC hW0;have k1:=Blk.dQ hW0;have h32:H.length≤32:=((aA H).1 hr).1;go_enter Tryz.func97,Tryz.ntmps97;go_wp2_with fail;clear hW0;refine gT (lq H A c w.heap.size) (fun W=>Below w.heap.size w W∧Blk W w.heap.size 24 #[.slice A H.length c]∧Blk W (w.heap.size+1) 77 #[.int .i64 0,.slice none 0 0]) (rE w.heap.size) jU (by kernel_rfl) (by kernel_rfl) (by kernel_rfl) IQ (fun _=>[]) (by kernel_rfl) MZ IL ⟨hB.drew,k0,k1⟩ ?hstep ?hend;case hstep=>
  intro i o ho vs W hS hd;obtain⟨hb,m0,m1⟩:=hS;have hT:=h.below hb
  match i,ho with
  |0,ho=>
   simp only[gZ,gS,Option.some.injEq]at ho;subst ho;simp only[acV,gA,gZ,gS,Act.put,sA,sZ,sS];have c0:=Blk.n0 m0;go_wp2;exact⟨rfl,.agg #[.slice A H.length c],rfl,rfl,⟨hb,m0,m1⟩,Below.refl _ _⟩
  |1,ho=>
   have d0:=hd 0 (by simp[jU]);simp only[lq]at d0;simp only[gZ,gS,Option.some.injEq]at ho;subst ho;simp only[acV,gA,gZ,gS,Act.put,sA,sZ,sS];rw[d0];go_wp2_with fail;refine(KX A c H _ hT hn hr).mono ?_;rintro e W2 ⟨g,hg,rfl,kR,hb2⟩;go_wp2;exact⟨rfl,_,rfl,⟨g,Nat.le_trans hb.size hg,rfl,kR⟩,⟨hb.trans (hb2.mono hb.size),m0.below hb2 m0.lt,m1.below hb2 m1.lt⟩,hb2⟩
  |2,ho=>
   simp only[gZ,gS,Option.some.injEq]at ho;subst ho;simp only[acV,gA,gZ,gS,Act.put,sA,sZ,sS];have c0:=Blk.n0 m0;go_wp2;exact⟨rfl,.agg #[.slice A H.length c],rfl,rfl,⟨hb,m0,m1⟩,Below.refl _ _⟩
  |3,ho=>
   have d0:=hd 2 (by simp[jU]);simp only[lq]at d0;simp only[gZ,gS,Option.some.injEq]at ho;subst ho;simp only[acV,gA,gZ,gS,Act.put,sA,sZ,sS];rw[d0];go_wp2_with fail;refine(KZ A c H _ hT hn hr).mono ?_;rintro e W2 ⟨g,hg,rfl,kR,hb2⟩;go_wp2;exact⟨rfl,_,rfl,⟨g,Nat.le_trans hb.size hg,rfl,kR⟩,⟨hb.trans (hb2.mono hb.size),m0.below hb2 m0.lt,m1.below hb2 m1.lt⟩,hb2⟩
  |4,ho=>
   obtain⟨g1,hg1,d1,q1⟩:=hd 1 (by simp[jU]);obtain⟨g3,hg3,d3,q3⟩:=hd 3 (by simp[jU]);simp only[gZ,gS,Option.some.injEq]at ho;subst ho;simp only[acV,gA,gZ,gS,Act.put,sA,sZ,sS];rw[d1,d3];go_wp2_with fail;refine(uU H.length _ _ _ _ (soE H) (wrE H) (Old W) _ (GrS.bB q1 q1.lt (by omega)) (GrS.bB q3 q3.lt (by omega)) (fun b hb=>hb)).mono ?_;rintro e W2 ⟨g,hg,rfl,kR,hb2⟩;go_wp2;exact⟨rfl,_,rfl,⟨_,rfl,g,Nat.le_trans hb.size hg,rfl,kR⟩,⟨hb.trans (hb2.mono hb.size),m0.below hb2 m0.lt,m1.below hb2 m1.lt⟩,hb2⟩
  |5,ho=>
   obtain⟨u,d4,q4⟩:=hd 4 (by simp[jU]);simp only[gZ,gS,Option.some.injEq]at ho;subst ho;simp only[acV,gA,gZ,gS,Act.put,sA,sZ,sS];rw[d4];go_wp2;exact⟨rfl,_,rfl,⟨_,rfl,q4⟩,⟨hb,m0,m1⟩,Below.refl _ _⟩
  |6,ho=>
   obtain⟨u,d5,q5⟩:=hd 5 (by simp[jU]);simp only[gZ,gS,Option.some.injEq]at ho;subst ho;simp only[acV,gA,gZ,gS,Act.put,sA,sZ,sS];rw[d5];go_wp2;exact⟨rfl,_,rfl,q5,⟨hb,m0,m1⟩,Below.refl _ _⟩
  |7,ho=>
   obtain⟨u,d5,q5⟩:=hd 5 (by simp[jU]);simp only[gZ,gS,Option.some.injEq]at ho;subst ho;simp only[acV,gA,gZ,gS,Act.put,sA,sZ,sS];rw[d5];go_wp2;exact⟨rfl,_,rfl,rfl,⟨hb,m0,m1⟩,Below.refl _ _⟩
  |8,ho=>
   simp only[gZ,gS,Option.some.injEq]at ho;subst ho;simp only[acV,gA,gZ,gS,Act.put,sA,sZ,sS];go_wp2;have hsz:=m1.lt;exact⟨rfl,_,rfl,⟨W.heap.size,by omega,rfl,_,_,Blk.new _ _ _⟩,⟨hb.alloc hb.size _,m0.alloc _,m1.alloc _⟩,(Below.refl _ _).alloc (Nat.le_refl _) _⟩
  |9,ho=>
   obtain⟨g,hg,d8,x,y,q8⟩:=hd 8 (by simp[jU]);obtain⟨g6,hg6,d6,q6⟩:=hd 6 (by simp[jU]);simp only[gZ,gS,Option.some.injEq]at ho;subst ho;simp only[acV,gA,gZ,gS,Act.put,sA,sZ,sS];rw[d8,d6];have c0:=Blk.n0 q8;have c1:=Blk.n1 q8;have f0:=q8.frozen 0;have f1:=q8.frozen 1;go_wp2;have hq:=(q8.aD 0 (.int .i64 H.length)).aD 1 (.slice (some ⟨g6,0,none⟩) H.length H.length);have n1:w.heap.size≠g:=(by omega);have n2:w.heap.size+1≠g:=(by omega);refine⟨rfl,undef,rfl,⟨g,_,_,(show dh vs 9 undef 8=_ from d8),hg,(show dh vs 9 undef 6=_ from d6),by simpa using hq⟩,⟨(hb.setCell (p:=⟨g,0,none⟩) (by simp;omega) _).setCell (p:=⟨g,1,none⟩) (by simp;omega) _,(m0.far n1 _).far n1 _,(m1.far n2 _).far n2 _⟩,?_⟩;unfold rE;rw[if_pos rfl];refine⟨⟨rfl,rfl,rfl,by simp⟩,fun k hk=> ?_⟩;by_cases e:k=g
   ·subst e;exact .inr ⟨hg,_,_,q8,hq,by simp⟩
   ·exact .inl ((Below.heap_setCell _ ⟨g,1,none⟩ _ k e).trans (Below.heap_setCell _ ⟨g,0,none⟩ _ k e))
  |10,ho=>
   have d7:=hd 7 (by simp[jU]);simp only[lq]at d7;simp only[gZ,gS,Option.some.injEq]at ho;subst ho;simp only[acV,gA,gZ,gS,Act.put,sA,sZ,sS];rw[d7];go_wp2;exact⟨rfl,_,rfl,trivial,⟨hb,m0,m1⟩,Below.refl _ _⟩
  |n+11,ho=>simp at ho
 case hend=>
  rintro vs W ⟨hb,m0,m1⟩ hd;obtain⟨g,x,y,d8,hg,d6,q9⟩:=hd 9 (by simp) (by simp);obtain⟨g6,hg6,d6',q6⟩:=hd 6 (by simp) (by simp);rw[d6]at d6';injection d6' with d6'
  simp only[Array.mk.injEq,List.cons.injEq,and_true]at d6';obtain⟨rfl,rfl⟩:=d6';clear hd;simp only[acV,gA,gZ,gS,Act.put,sA,sZ,sS,List.length_cons,List.length_nil,Nat.reduceAdd];rw[d8,d6];have c0:=Blk.n0 q9;have c1:=Blk.n1 q9;have j0:=Blk.n0 m1;have j1:=Blk.n1 m1;have jf:=m1.frozen 0;have jf1:=m1.frozen 1;have hne:g6≠w.heap.size+1:=by
   rintro rfl;have:=m1.symm.trans q6;simp at this
  go_wp2;have kF0:=((q6.far (p:=⟨w.heap.size+1,0,none⟩) hne (.int .i64 H.length)).far (p:=⟨w.heap.size+1,1,none⟩) hne (.slice (some ⟨g6,0,none⟩) H.length H.length));have hF:=((hb.setCell (p:=⟨w.heap.size+1,0,none⟩) (by simp) (.int .i64 H.length)).setCell (p:=⟨w.heap.size+1,1,none⟩) (by simp) (.slice (some ⟨g6,0,none⟩) H.length H.length));exact bodyPost_ret (v:= .agg #[.int .i64 H.length,.slice (some ⟨g6,0,none⟩) H.length H.length]) (by simp[results,Tryz.results97,go_sem,j0,j1]) rfl ⟨g6,hg6,rfl,kF0,hF⟩
set_option maxHeartbeats 8000000
def lZ(H:List Txn)(A:Option Addr)(c:Nat)(Al:Option Addr)(cl:Nat)(l:List Cho)(base:Nat):Nat→(Nat→Value)→World→Prop
 |0,vs,_=>vs 0= .agg #[.slice A H.length c]
 |1,vs,W=>GV base H.length (dX H) (vs 1) W
 |2,vs,_=>vs 2= .agg #[.slice A H.length c]
 |3,vs,_=>vs 3= .slice Al l.length cl
 |4,vs,W=>GV base H.length (wwE l) (vs 4) W
 |5,vs,W=>∃g5 g',vs 5= .slice (some ⟨g5,0,none⟩) 1 1∧Blk W g5 77 #[.int .i64 H.length,.slice (some ⟨g',0,none⟩) H.length H.length]∧base≤g'∧Blk W g' 172 (bH H.length (wwE l))
 |6,vs,W=>GV base H.length (orE (dX H) (wwE l)) (vs 6) W
 |7,vs,W=>E5 base (vs 7) W
 |8,vs,W=>∃g x y,vs 7= .pointer (some ⟨g,0,none⟩)∧base≤g∧vs 6= .agg #[x,y]∧Blk W g 77 #[x,y]
 |_,_,_=>True
def l5:Nat→List Nat
 |1=>[0]
 |4=>[2,3]
 |5=>[4]
 |6=>[1,5]
 |8=>[7,6]
 |_=>[]
def CV:Nat→List Nat
 |8=>[5]
 |_=>[]
theorem M0{H:List Txn}{A:Option Addr}{c:Nat}{Al:Option Addr}{cl:Nat}{l:List Cho}{base:Nat}:∀j (vs vs':Nat→Value) w,(∀k,k=j∨k∈l5 j→vs k=vs' k)→lZ H A c Al cl l base j vs w→lZ H A c Al cl l base j vs' w:=by
 intro j vs vs' w hk h
 match j,h with
 |0,h|1,h|2,h|3,h|4,h|5,h|6,h|7,h=>
  simp only[lZ]at h⊢;rw[←hk _ (.inl rfl)];exact h
 |8,h=>
  simp only[lZ]at h⊢;rw[←hk 7 (.inr (by simp[l5])),←hk 6 (.inr (by simp[l5]))];exact h
 |n+9,_=>trivial
def oP(base:Nat)(i:Nat)(W W':World):Prop:=if i=8 then lg base W W' else Below W.heap.size W W'
theorem oP.var{base i:Nat}{W W':World}(h:oP base i W W'):lg base W W':=by
 unfold oP at h;split at h
 ·exact h
 ·exact lg.of_below h
theorem IU{H:List Txn}{A:Option Addr}{c:Nat}{Al:Option Addr}{cl:Nat}{l:List Cho}{base:Nat}:∀i j (vs:Nat→Value) w w',j≠i→j∉CV i→lZ H A c Al cl l base j vs w→oP base i w w'→lZ H A c Al cl l base j vs w':=by
 intro i j vs w w' hne hkl h hs;have hv:=hs.var
 match j,h with
 |0,h|2,h|3,h=>exact h
 |1,h|4,h|6,h=>
  simp only[lZ]at h⊢;exact h.var hv
 |5,h=>
  have hi:i≠8:=(by rintro rfl;exact hkl (by simp[CV]));unfold oP at hs;rw[if_neg hi]at hs;simp only[lZ]at h⊢;obtain⟨g5,g',h1,h2,h3,h4⟩:=h;exact⟨g5,g',h1,h2.below hs h2.lt,h3,h4.below hs h4.lt⟩
 |7,h=>
  simp only[lZ]at h⊢;exact E5.var h hv
 |8,h=>
  unfold oP at hs;rw[if_neg (fun e=>hne e.symm)]at hs;simp only[lZ]at h⊢;obtain⟨g,x,y,h1,h2,h3,h4⟩:=h;exact⟨g,x,y,h1,h2,h3,h4.below hs h4.lt⟩
 |n+9,_=>trivial
theorem IV:∀i,9≤i→l5 i=[]:=by
 intro i hi
 match i,hi with
 |n+9,_=>rfl
theorem sP(H:List Txn)(level:Int)(l:List Cho):bK H level l=orE (orE (dX H) (wwE l)) (if level=1 then j6 H.length (orE (dX H) (wwE l)) (rwE H l)else rwE H l):=rfl
set_option maxRecDepth 100000 in
theorem rG(A:Option Addr)(c:Nat)(H:List Txn)(level:Int)(Al:Option Addr)(cl:Nat)(l:List Cho)(w:World)(h:aF w (Old w) (.slice A H.length c) H)(hn:aB H)(hl:bq w (Old w) (.slice Al l.length cl) l)(hr:cB H l=true)(jP:level=0∨level=1)(hTB:iE w):
 Calls Tryz.prog 37 #[.agg #[.slice A H.length c],.int .i64 level,.slice Al l.length cl] w (Hy w H.length (bK H level l)):=by
 obtain⟨W0,hW0⟩:∃W0,(w.alloc (.cells #[.slice A H.length c] 24)).alloc (.cells #[.int .i64 0,.slice none 0 0] 77)=W0:=⟨_,rfl⟩;have hB:=aG hW0;have k0:=Blk.fC hW0;have k1:=Blk.dQ hW0;have hs0:=size_two hW0;have hrh:=gD hr;have h32:H.length≤32:=((aA H).1 hrh).1;have hll:=jT hr;have h0:=hide (h.below hB);have hl0:=hide (hl.below hB);replace hr:=hide hr;replace hn:=hide hn;replace hl:=hide hl;replace h:=hide h;replace hrh:=hide hrh;have c0:=Blk.n0 k0;have hq0:(level !=0)=false∨((level !=0)=true∧(level !=1)=false):=by
  rcases jP with rfl|rfl
  ·exact .inl rfl
  ·exact .inr ⟨rfl,rfl⟩
 replace jP:=hide jP;replace hs0:=hide hs0;go_enter Tryz.func37,Tryz.ntmps37;go_wp2_with fail;clear hW0 c0;refine(kI A c H Al cl l _ h0.out hn.out hl0.out (by omega)).mono ?_;rintro e w1 ⟨rfl,hb1⟩;rw[hr.out];have hs1:w.heap.size+2≤w1.heap.size:=(by have:=hb1.size;have:=hs0.out;omega);replace k0:=k0.below hb1 k0.lt;replace k1:=k1.below hb1 k1.lt;have hb2:=hB.trans (hb1.mono hB.size);clear hb1 hB h0 hl0 hs0;rcases hq0 with q1|⟨q1,q2⟩;all_goals
  go_wp2_with fail;refine gT (lZ H A c Al cl l (w.heap.size+2)) (fun W=>Below w.heap.size w W∧Blk W w.heap.size 24 #[.slice A H.length c]∧Blk W (w.heap.size+1) 77 #[.int .i64 0,.slice none 0 0]) (oP (w.heap.size+2)) l5 (by kernel_rfl) (by kernel_rfl) (by kernel_rfl) IV CV (by kernel_rfl) M0 IU ⟨hb2.drew,k0,k1⟩ ?hstep ?hend;case hstep=>
   intro i o ho vs W hS hd;obtain⟨hb,m0,m1⟩:=hS;have hT:=h.out.below hb;have hC:=hl.out.below hb;have hsz:=m1.lt
   match i,ho with
   |0,ho=>
    simp only[gZ,gS,Option.some.injEq]at ho;subst ho;simp only[acV,gA,gZ,gS,Act.put,sA,sZ,sS];have c0:=Blk.n0 m0;go_wp2;exact⟨rfl,.agg #[.slice A H.length c],rfl,rfl,⟨hb,m0,m1⟩,Below.refl _ _⟩
   |1,ho=>
    have d0:=hd 0 (by simp[l5]);simp only[lZ]at d0;simp only[gZ,gS,Option.some.injEq]at ho;subst ho;simp only[acV,gA,gZ,gS,Act.put,sA,sZ,sS];rw[d0];go_wp2_with fail;refine(E8 A c H _ hT hn.out hrh.out).mono ?_;rintro e W2 ⟨g,hg,rfl,kR,hb2⟩;go_wp2;exact⟨rfl,_,rfl,⟨g,by omega,rfl,kR⟩,⟨hb.trans (hb2.mono hb.size),m0.below hb2 m0.lt,m1.below hb2 m1.lt⟩,hb2⟩
   |2,ho=>
    simp only[gZ,gS,Option.some.injEq]at ho;subst ho;simp only[acV,gA,gZ,gS,Act.put,sA,sZ,sS];have c0:=Blk.n0 m0;go_wp2;exact⟨rfl,.agg #[.slice A H.length c],rfl,rfl,⟨hb,m0,m1⟩,Below.refl _ _⟩
   |3,ho=>
    simp only[gZ,gS,Option.some.injEq]at ho;subst ho;simp only[acV,gA,gZ,gS,Act.put,sA,sZ,sS];go_wp2;exact⟨rfl,.slice Al l.length cl,rfl,rfl,⟨hb,m0,m1⟩,Below.refl _ _⟩
   |4,ho=>
    have d2:=hd 2 (by simp[l5]);have d3:=hd 3 (by simp[l5]);simp only[lZ]at d2 d3;simp only[gZ,gS,Option.some.injEq]at ho;subst ho;simp only[acV,gA,gZ,gS,Act.put,sA,sZ,sS];rw[d2,d3];go_wp2_with fail;refine(KV A c H Al cl l _ hT hn.out hC hr.out).mono ?_;rintro e W2 ⟨g,hg,rfl,kR,hb2⟩;go_wp2;exact⟨rfl,_,rfl,⟨g,by omega,rfl,kR⟩,⟨hb.trans (hb2.mono hb.size),m0.below hb2 m0.lt,m1.below hb2 m1.lt⟩,hb2⟩
   |5,ho=>
    obtain⟨g4,hg4,d4,q4⟩:=hd 4 (by simp[l5]);simp only[gZ,gS,Option.some.injEq]at ho;subst ho;simp only[acV,gA,gZ,gS,Act.put,sA,sZ,sS];rw[d4];go_wp2;exact⟨rfl,_,rfl,⟨W.heap.size,g4,rfl,Blk.new _ _ _,hg4,q4.alloc _⟩,⟨hb.alloc hb.size _,m0.alloc _,m1.alloc _⟩,(Below.refl _ _).alloc (Nat.le_refl _) _⟩
   |6,ho=>
    obtain⟨gp,hgp,d1,qp⟩:=hd 1 (by simp[l5]);obtain⟨g5,g',d5,q5,hg',qw⟩:=hd 5 (by simp[l5]);simp only[gZ,gS,Option.some.injEq]at ho;subst ho;simp only[acV,gA,gZ,gS,Act.put,sA,sZ,sS];rw[d1,d5];go_wp2_with fail;refine(uF H.length _ _ _ _ (dX H) (wwE l) g5 _ (GrS.bB qp qp.lt (by omega)) (GrS.bB qw qw.lt (by omega)) q5).mono ?_;rintro e W2 ⟨g,hg,rfl,kR,hb2⟩;go_wp2;exact⟨rfl,_,rfl,⟨g,by omega,rfl,kR⟩,⟨hb.trans (hb2.mono hb.size),m0.below hb2 m0.lt,m1.below hb2 m1.lt⟩,hb2⟩
   |7,ho=>
    simp only[gZ,gS,Option.some.injEq]at ho;subst ho;simp only[acV,gA,gZ,gS,Act.put,sA,sZ,sS];go_wp2;exact⟨rfl,_,rfl,⟨W.heap.size,by omega,rfl,_,_,Blk.new _ _ _⟩,⟨hb.alloc hb.size _,m0.alloc _,m1.alloc _⟩,(Below.refl _ _).alloc (Nat.le_refl _) _⟩
   |8,ho=>
    obtain⟨g,hg,d7,x,y,q7⟩:=hd 7 (by simp[l5]);obtain⟨g6,hg6,d6,q6⟩:=hd 6 (by simp[l5]);simp only[gZ,gS,Option.some.injEq]at ho;subst ho;simp only[acV,gA,gZ,gS,Act.put,sA,sZ,sS];rw[d7,d6];have c0:=Blk.n0 q7;have c1:=Blk.n1 q7;have f0:=q7.frozen 0;have f1:=q7.frozen 1;go_wp2;have hq:=(q7.aD 0 (.int .i64 H.length)).aD 1 (.slice (some ⟨g6,0,none⟩) H.length H.length);have n1:w.heap.size≠g:=(by omega);have n2:w.heap.size+1≠g:=(by omega);refine⟨rfl,undef,rfl,⟨g,_,_,(show dh vs 8 undef 7=_ from d7),hg,(show dh vs 8 undef 6=_ from d6),by simpa using hq⟩,⟨(hb.setCell (p:=⟨g,0,none⟩) (by simp;omega) _).setCell (p:=⟨g,1,none⟩) (by simp;omega) _,(m0.far n1 _).far n1 _,(m1.far n2 _).far n2 _⟩,?_⟩;unfold oP;rw[if_pos rfl];refine⟨⟨rfl,rfl,rfl,by simp⟩,fun k hk=> ?_⟩;by_cases e:k=g
    ·subst e;exact .inr ⟨hg,_,_,q7,hq,by simp⟩
    ·exact .inl ((Below.heap_setCell _ ⟨g,1,none⟩ _ k e).trans (Below.heap_setCell _ ⟨g,0,none⟩ _ k e))
   |n+9,ho=>simp at ho
  case hend=>
   rintro vs W ⟨hb,m0,m1⟩ hd;obtain⟨g,x,y,d7,hg,d6,q8⟩:=hd 8 (by simp) (by intro i _;unfold CV;split<;>simp);obtain⟨g6,hg6,d6',q6⟩:=hd 6 (by simp) (by intro i _;unfold CV;split<;>simp);rw[d6]at d6';injection d6' with d6'
   simp only[Array.mk.injEq,List.cons.injEq,and_true]at d6';obtain⟨rfl,rfl⟩:=d6';clear hd;simp only[acV,gA,gZ,gS,Act.put,sA,sZ,sS,List.length_cons,List.length_nil,Nat.reduceAdd];rw[d7,d6];have hT:=hide (h.out.below hb);have hC:=hide (hl.out.below hb);have c0:=Blk.n0 m0;clear k0 k1 hb2 d6 d7;go_wp2_with fail;refine(K7 A c H Al cl l _ hT.out hn.out hC.out hr.out).mono ?_;rintro e W2 ⟨gr,hgr,rfl,kRr,hb2⟩;clear c0 hT hC;obtain⟨W3,hW3⟩:∃W3,W2.alloc (.cells #[.int .i64 H.length,.slice (some ⟨gr,0,none⟩) H.length H.length] 77)=W3:=⟨_,rfl⟩;have hB3:=ah (Below.refl W2.heap.size W2) hW3 (Nat.le_refl _);have k9:=Blk.newEq hW3;have hBW:=hb2.trans (hB3.mono hb2.size);have m1c:=m1.below hBW m1.lt;have q8c:=q8.below hBW q8.lt;have q6c:=q6.below hBW q6.lt;have kOc:=kRr.below hB3 kRr.lt;have hbc:=hb.trans (hBW.mono hb.size);have Qe:=hTB.below hbc;have hsz:=m1.lt;have hq8:=q8.lt;have hw2:=hb2.size;clear hBW hB3 hb2 hb m0 m1 q8 q6 kRr;by_cases h1:level=1
   ·have q3:(level==1)=true:=(by simpa using h1);have hfe:Hid (bK H level l=orE (orE (dX H) (wwE l)) (j6 H.length (orE (dX H) (wwE l)) (rwE H l))):=hide (by rw[sP,if_pos h1]);clear h1;have a0:=Blk.n0 q8c;have a1:=Blk.n1 q8c;have b0:=Blk.n0 k9;have b1:=Blk.n1 k9;have hcp:=hide (EO H.length _ _ _ _ (orE (dX H) (wwE l)) (rwE H l) (fun b=>b=g6∨b=gr) W3 (GrS.bB q6c (.inl rfl) (by omega)) (GrS.bB kOc (.inr rfl) (by omega)) (by rintro b (rfl|rfl);exact q6c.lt;exact kOc.lt) Qe);go_wp2_with fail;clear a0 a1 b0 b1 hW3;refine hcp.out.mono ?_;rintro e W4 ⟨gc,hgc,rfl,kRc,hb4⟩;have k94:=k9.below hb4 k9.lt;have c0:=Blk.n0 k94;have c1:=Blk.n1 k94;have f0:=k94.frozen 0;have f1:=k94.frozen 1;have Ro:=k9.lt;have SB:=q6c.lt;have ng:g≠W2.heap.size:=(by omega);have nr:w.heap.size+1≠W2.heap.size:=(by omega);have nc:gc≠W2.heap.size:=(by omega);have n6:g6≠W2.heap.size:=by
     rintro rfl;have:=k9.symm.trans q6c;simp at this
    have m1d:=((m1c.below hb4 m1c.lt).far (p:=⟨W2.heap.size,0,none⟩) nr (.int .i64 H.length)).far (p:=⟨W2.heap.size,1,none⟩) nr (.slice (some ⟨gc,0,none⟩) H.length H.length);have q8d:=((q8c.below hb4 q8c.lt).far (p:=⟨W2.heap.size,0,none⟩) ng (.int .i64 H.length)).far (p:=⟨W2.heap.size,1,none⟩) ng (.slice (some ⟨gc,0,none⟩) H.length H.length);have q6d:=((q6c.below hb4 q6c.lt).far (p:=⟨W2.heap.size,0,none⟩) n6 (.int .i64 H.length)).far (p:=⟨W2.heap.size,1,none⟩) n6 (.slice (some ⟨gc,0,none⟩) H.length H.length);have kOd:=(kRc.far (p:=⟨W2.heap.size,0,none⟩) nc (.int .i64 H.length)).far (p:=⟨W2.heap.size,1,none⟩) nc (.slice (some ⟨gc,0,none⟩) H.length H.length);have k9d:=(k94.aD 0 (.int .i64 H.length)).aD 1 (.slice (some ⟨gc,0,none⟩) H.length H.length);simp only[sA,sZ,sS]at k9d;have hbd:=((hbc.trans (hb4.mono hbc.size)).setCell (p:=⟨W2.heap.size,0,none⟩) (by simp;omega) (.int .i64 H.length)).setCell (p:=⟨W2.heap.size,1,none⟩) (by simp;omega) (.slice (some ⟨gc,0,none⟩) H.length H.length);clear m1c q8c q6c kOc hbc k9 k94 kRc hcp Qe hb4;obtain⟨Wd,hWd⟩:∃Wd,(W4.setCell ⟨W2.heap.size,0,none⟩ (.int .i64 H.length)).setCell ⟨W2.heap.size,1,none⟩ (.slice (some ⟨gc,0,none⟩) H.length H.length)=Wd:=⟨_,rfl⟩;rw[hWd]at m1d q8d q6d kOd k9d hbd;have m1c:=m1d;have q8c:=q8d;have q6c:=q6d;have kOc:=kOd;have k9c:=k9d;have hbc:=hbd;clear m1d q8d q6d kOd k9d hbd;have a0:=Blk.n0 q8c;have a1:=Blk.n1 q8c;have b0:=Blk.n0 k9c;have b1:=Blk.n1 k9c;obtain⟨W5,hW5⟩:∃W5,(Wd).alloc (.cells #[.int .i64 H.length,.slice (some ⟨gc,0,none⟩) H.length H.length] 77)=W5:=⟨_,rfl⟩;have hB5:=ah (Below.refl (Wd).heap.size Wd) hW5 (Nat.le_refl _);have kN:=Blk.newEq hW5;have hcall:=hide (uF H.length _ _ _ _ (orE (dX H) (wwE l)) (j6 H.length (orE (dX H) (wwE l)) (rwE H l)) (Wd).heap.size W5 (GrS.bB (q6c.below hB5 q6c.lt) (Nat.lt_of_lt_of_le q6c.lt hB5.size) (by omega)) (GrS.bB (kOc.below hB5 kOc.lt) (Nat.lt_of_lt_of_le kOc.lt hB5.size) (by omega)) kN);have m15:=m1c.below hB5 m1c.lt;have hb5:=hbc.trans (hB5.mono hbc.size);clear kN hB5;go_wp2_with fail;clear a0 a1 b0 b1 hW5;refine hcall.out.mono ?_;rintro e W6 ⟨gz,hgz,rfl,kRz,hb6⟩;have m16:=m15.below hb6 m15.lt;have hb7:=hb5.trans (hb6.mono hb5.size);have j0:=Blk.n0 m16;have j1:=Blk.n1 m16;have jf:=m16.frozen 0;have jf1:=m16.frozen 1;have hml:=m15.lt;have n1:gz≠w.heap.size+1:=(by omega);clear hcall;go_wp2;exact bodyPost_ret (v:= .tuple #[.agg #[.int .i64 H.length,.slice (some ⟨gz,0,none⟩) H.length H.length],.int .i64 0]) (by simp[results,Tryz.results37,go_sem,j0,j1]) rfl ⟨gz,by omega,rfl,by rw[hfe.out];exact(kRz.far (p:=⟨w.heap.size+1,0,none⟩) n1 _).far (p:=⟨w.heap.size+1,1,none⟩) n1 _,(hb7.setCell (p:=⟨w.heap.size+1,0,none⟩) (by simp) _).setCell (p:=⟨w.heap.size+1,1,none⟩) (by simp) _⟩
   ·have q3:(level==1)=false:=(by simpa using h1);have hfe:Hid (bK H level l=orE (orE (dX H) (wwE l)) (rwE H l)):=hide (by rw[sP,if_neg h1]);have k9c:=k9;clear h1 k9;have a0:=Blk.n0 q8c;have a1:=Blk.n1 q8c;have b0:=Blk.n0 k9c;have b1:=Blk.n1 k9c;obtain⟨W5,hW5⟩:∃W5,(W3).alloc (.cells #[.int .i64 H.length,.slice (some ⟨gr,0,none⟩) H.length H.length] 77)=W5:=⟨_,rfl⟩;have hB5:=ah (Below.refl (W3).heap.size W3) hW5 (Nat.le_refl _);have kN:=Blk.newEq hW5;have hcall:=hide (uF H.length _ _ _ _ (orE (dX H) (wwE l)) (rwE H l) (W3).heap.size W5 (GrS.bB (q6c.below hB5 q6c.lt) (Nat.lt_of_lt_of_le q6c.lt hB5.size) (by omega)) (GrS.bB (kOc.below hB5 kOc.lt) (Nat.lt_of_lt_of_le kOc.lt hB5.size) (by omega)) kN);have m15:=m1c.below hB5 m1c.lt;have hb5:=hbc.trans (hB5.mono hbc.size);clear kN hB5;go_wp2_with fail;clear a0 a1 b0 b1 hW5;refine hcall.out.mono ?_;rintro e W6 ⟨gz,hgz,rfl,kRz,hb6⟩;have m16:=m15.below hb6 m15.lt;have hb7:=hb5.trans (hb6.mono hb5.size);have j0:=Blk.n0 m16;have j1:=Blk.n1 m16;have jf:=m16.frozen 0;have jf1:=m16.frozen 1;have hml:=m15.lt;have n1:gz≠w.heap.size+1:=(by omega);clear hcall;go_wp2;exact bodyPost_ret (v:= .tuple #[.agg #[.int .i64 H.length,.slice (some ⟨gz,0,none⟩) H.length H.length],.int .i64 0]) (by simp[results,Tryz.results37,go_sem,j0,j1]) rfl ⟨gz,by omega,rfl,by rw[hfe.out];exact(kRz.far (p:=⟨w.heap.size+1,0,none⟩) n1 _).far (p:=⟨w.heap.size+1,1,none⟩) n1 _,(hb7.setCell (p:=⟨w.heap.size+1,0,none⟩) (by simp) _).setCell (p:=⟨w.heap.size+1,1,none⟩) (by simp) _⟩
end Go.Proofs.YtfhnamomiaekdaaGreatDoor
namespace Go.Inq
open Go Go.RowKit
def iD(D:Nat→Nat):Array Value:=((List.range 64).map fun x=>Value.int .i64 ((D x:Nat):Int)).toArray
theorem l6(D:Nat→Nat):(iD D).size=64:=by simp[iD]
theorem Bp{D:Nat→Nat}{x:Nat}(h:x<64):(iD D)[x]?=some (.int .i64 ((D x:Nat):Int)):=by
 unfold iD;rw[gA,List.getElem?_map,List.getElem?_range h];rfl
theorem K8{D:Nat→Nat}{x v:Nat}(h:x<64):(iD D).setIfInBounds x (.int .i64 ((v:Nat):Int))=iD (fun y=>if y=x then v else D y):=by
 unfold iD;rw[sA];congr 1;refine List.ext_getElem (by simp) fun i h1 h2=> ?_;rw[List.getElem_set,List.getElem_map,List.getElem_map,List.getElem_range];dsimp only;by_cases e:x=i
 ·rw[if_pos e,if_pos e.symm]
 ·rw[if_neg e,if_neg (Ne.symm e)]
theorem K9{D:Nat→Nat}{x k:Nat}(h:x<64):(iD D).setIfInBounds x (.int .i64 ((k:Int)+1))=iD (fun y=>if y=x then k+1 else D y):=by
 rw[←K8 h];rfl
theorem CW(D:Nat→Nat):(iD D).all (·.oneCell')=true:=by
 rw[Array.all_eq_true];intro i hi;simp[iD,Value.oneCell']
theorem l7{D F:Nat→Nat}(h:∀x,D x=F x):iD D=iD F:=by rw[show D=F from funext h]
theorem CX{W:World}{g:Nat}{t:TypeId}{cs:Array Value}(hk:Blk W g t cs):W.setRow g cs=W:=by
 unfold Blk at hk;have h2:∀i,(W.setRow g cs).heap[i]?=W.heap[i]?:=fun i=>by
  unfold World.setRow;dsimp only;rw[Array.getElem?_modify];by_cases e:g=i
  ·subst e;rw[if_pos rfl,hk];rfl
  ·rw[if_neg e]
 have h3:(W.setRow g cs).heap=W.heap:=Array.ext_getElem? h2;unfold World.setRow at h3⊢;dsimp only at h3;rw[h3]
theorem xV {P:Program} {W:World} {ops:Array Oper} {rest:List Oper} {o:Oper} {a:Act} {Q:Exit→Act→World→Prop} {t e:TypeId} {p:Operand} {g n:Nat} {cs:Array Value}
 (hg:o.guard=none) (ho:o.op= .load t p) (hp:a.eval p= .pointer (some ⟨g,0,none⟩)) (hk:Blk W g t cs) (hu:P.underlying t=some (.array n e)) (hi:(P.info? t).map (·.size)=some cs.size)
 (h:wpList P ops Q rest (a.put o.dst (.agg cs)) W):wpList P ops Q (o::rest) a W:=by
 refine wpList_plain hg (fun K hK=> ?_);have hr:(Instr.loadAt t (.pointer (some ⟨g,0,none⟩))).run P W= .ok (.agg cs) W:=by
  simp only[Instr.loadAt,Instr.sureAddr,Sem.run_bind,Sem.run_pure,Result.andThen];exact run_loadVar_row W g t t cs (0,0) _ hk hu rfl hi
 unfold Oper.wp execOp;simp only[ho,hp,Sem.run_bind,Sem.run_pure,Result.andThen_ok,Sem.run_map,hr];exact hK _ _ h
theorem yX {fn:Func} {p:Tmp} {ty:TypeId} (h:fn.results=#[.cell p ty]) {tmps:Array Value} {P:Program} {W:World} {g:Nat} {cs:Array Value} {n:Nat} {e:TypeId} (hp:tmps.getD p undef= .pointer (some ⟨g,0,none⟩))
 (hk:Blk W g ty cs) (hu:P.underlying ty=some (.array n e)) (hi:(P.info? ty).map (·.size)=some cs.size):(results fn tmps).run P W= .ok (.agg cs) W:=by
 have hr:=run_loadVar_row (P:=P) W g ty ty cs (0,0) _ hk hu rfl hi;simp only[results,h];simp[Sem.run_bind,Result.andThen,asAddr,hr,Array.getD_eq_getD_getElem?]at hp⊢;rw[hp];simp[Sem.run_bind,Result.andThen,hr]
theorem vQ {P:Program} {W:World} {ops:Array Oper} {rest:List Oper} {o:Oper} {a:Act} {Q:Exit→Act→World→Prop} {t:TypeId} {p x:Operand} {g:Nat} {cs c':Array Value}
 (hg:o.guard=none) (ho:o.op= .store t p x) (hp:a.eval p= .pointer (some ⟨g,0,none⟩)) (hx:a.eval x= .agg c') (hk:Blk W g t cs) (hi:(P.info? t).map (·.size)=some c'.size) (hs:cs.size=c'.size) (h1:c'.all (·.oneCell')=true)
 (h:wpList P ops Q rest (a.put o.dst undef) (W.setRow g c')):wpList P ops Q (o::rest) a W:=by
 refine wpList_plain hg (fun K hK=> ?_);have hr:(Instr.storeAt t (.pointer (some ⟨g,0,none⟩)) (.agg c')).run P W= .ok () (W.setRow g c'):=by
  simp only[Instr.storeAt,Instr.sureAddr,Sem.run_bind,Sem.run_pure,Result.andThen];exact run_storeVar_row W g t t cs c' hk hi hs h1
 unfold Oper.wp execOp;simp only[ho,hp,hx,Sem.run_bind,Sem.run_pure,Result.andThen_ok,Sem.run_map,hr];exact hK _ _ h
def aZ(n:Nat)(E:aj)(v k x:Nat):Nat:=if x<n then(match k with|0=>0|k+1=>bV n E v k x)else 0
def bN(n:Nat)(E:aj)(v k:Nat)(z:Nat):Bool:=match k with|0=>E z v|k+1=>(List.range n).any fun y=>E z y&&decide (bV n E v k y=k+1)
theorem pW{n:Nat}{E:aj}{v k x:Nat}(hx:x<n):aZ n E v (k+1) x=if aZ n E v k x≠0 then aZ n E v k x else if bN n E v k x=true then k+1 else 0:=by
 unfold aZ;rw[if_pos hx,if_pos hx];cases k with
 |zero=>rfl
 |succ k=>rfl
theorem M4{n:Nat}{E:aj}{v k x:Nat}:aZ n E v k x≤k:=by
 unfold aZ;split
 ·cases k with
  |zero=>exact Nat.le_refl _
  |succ k=>exact wD k x
 ·omega
theorem La{n:Nat}{E:aj}{v k x:Nat}(hx:x<n):aZ n E v (k+1) x=k+1↔aZ n E v k x=0∧bN n E v k x=true:=by
 have hle:=M4 (n:=n) (E:=E) (v:=v) (k:=k) (x:=x);rw[pW hx];by_cases h:aZ n E v k x=0
 ·rw[if_neg (by omega)];cases bN n E v k x<;>simp[h]
 ·rw[if_pos h];constructor
  ·intro e;omega
  ·rintro⟨e,_⟩;exact absurd e h
theorem uV{n:Nat}{E:aj}{v k z:Nat}:bN n E v (k+1) z=((List.range n).filter (bN n E v k)).any fun x=>decide (aZ n E v k x=0)&&E z x:=by
 show((List.range n).any fun y=>E z y&&decide (bV n E v k y=k+1))=_;rw[Bool.eq_iff_iff,List.any_eq_true,List.any_eq_true];have hn:∀y,y<n→(bV n E v k y=k+1↔aZ n E v k y=0∧bN n E v k y=true):=fun y hy=>by
  rw[←La hy];unfold aZ;rw[if_pos hy]
 constructor
 ·rintro⟨y,hy,h⟩;rw[Bool.and_eq_true]at h;obtain⟨h1,h2⟩:=(hn y (List.mem_range.1 hy)).1 (of_decide_eq_true h.2);exact⟨y,List.mem_filter.2 ⟨hy,h2⟩,by rw[h.1,decide_eq_true h1];rfl⟩
 ·rintro⟨y,hy,h⟩;obtain⟨hy1,hy2⟩:=List.mem_filter.1 hy;rw[Bool.and_eq_true]at h;exact⟨y,hy1,by rw[h.2,decide_eq_true ((hn y (List.mem_range.1 hy1)).2 ⟨of_decide_eq_true h.1,hy2⟩)];rfl⟩
def dIn(D:Nat→Nat)(k:Nat)(l:List Nat)(x:Nat):Nat:=if D x≠0 then D x else if l.contains x=true then k+1 else 0
def pIn(E:aj)(D:Nat→Nat)(l:List Nat)(z:Nat):Bool:=l.any fun x=>decide (D x=0)&&E z x
theorem M5(D:Nat→Nat)(k x:Nat):dIn D k [] x=D x:=by
 unfold dIn;by_cases h:D x=0<;>simp[h]
theorem Gz{n:Nat}{E:aj}{v k x:Nat}:dIn (aZ n E v k) k ((List.range n).filter (bN n E v k)) x=aZ n E v (k+1) x:=by
 unfold dIn;by_cases hx:x<n
 ·rw[pW hx];have:((List.range n).filter (bN n E v k)).contains x=bN n E v k x:=by
   rw[Bool.eq_iff_iff,List.contains_iff_mem,List.mem_filter,List.mem_range];exact⟨fun h=>h.2,fun h=>⟨hx,h⟩⟩
  rw[this]
 ·have h1:aZ n E v k x=0:=(by unfold aZ;rw[if_neg hx]);have h2:aZ n E v (k+1) x=0:=(by unfold aZ;rw[if_neg hx]);have:((List.range n).filter (bN n E v k)).contains x=false:=by
   rw[Bool.eq_false_iff];intro h;rw[List.contains_iff_mem,List.mem_filter,List.mem_range]at h;exact hx h.1
  rw[h1,h2,this];rfl
theorem Lb{D:Nat→Nat}{k:Nat}{l:List Nat}(hnd:l.Nodup){i:Nat}(hi:i<l.length):dIn D k (l.take i) l[i]=D l[i]∧(D l[i]=0→∀y,(if y=l[i]then k+1 else dIn D k (l.take i) y)=dIn D k (l.take (i+1)) y)∧(D l[i]≠0→∀y,dIn D k (l.take i) y=dIn D k (l.take (i+1)) y):=by
 have hnot:l[i]∉l.take i:=fun hm=>by
  obtain⟨j,hj,e⟩:=List.mem_take_iff_getElem.1 hm;exact List.pairwise_iff_getElem.1 (List.nodup_iff_pairwise_ne.1 hnd) j i (by omega) hi (by omega) e
 have hc:(l.take i).contains l[i]=false:=by
  rw[Bool.eq_false_iff];intro h;exact hnot (List.contains_iff_mem.1 h)
 have hs:∀y,(l.take (i+1)).contains y=((l.take i).contains y||y==l[i]):=fun y=>by
  rw[List.take_succ_eq_append_getElem hi,List.contains_append];congr 1;rw[List.contains_cons,List.contains_nil,Bool.or_false]
 refine⟨?_,fun h0 y=> ?_,fun h0 y=> ?_⟩
 ·unfold dIn;rw[hc];by_cases h:D l[i]=0<;>simp[h]
 ·unfold dIn;rw[hs];by_cases e:y=l[i]
  ·subst e;simp[h0]
  ·have:(y==l[i])=false:=(by simpa using e);rw[if_neg e,this,Bool.or_false]
 ·unfold dIn;rw[hs];by_cases e:y=l[i]
  ·subst e;rw[if_pos h0,if_pos h0]
  ·have:(y==l[i])=false:=(by simpa using e);rw[this,Bool.or_false]
theorem Lc{E:aj}{D:Nat→Nat}{l:List Nat}{i:Nat}(hi:i<l.length)(z:Nat):pIn E D (l.take (i+1)) z=(pIn E D (l.take i) z||(decide (D l[i]=0)&&E z l[i])):=by
 unfold pIn;rw[List.take_succ_eq_append_getElem hi,List.any_append];simp
theorem uG{p:Nat→Bool}{n:Nat}:aV p n=0↔∀x,x<n→p x=false:=by
 constructor
 ·intro h x hx;have:=aP p n x;rw[h,Nat.zero_testBit]at this;simpa[hx]using this.symm
 ·intro h;refine Nat.eq_of_testBit_eq fun i=> ?_;rw[aP,Nat.zero_testBit];by_cases hi:i<n
  ·simp[h i hi]
  ·simp[hi]
def eD(n:Nat)(E:aj)(v x:Nat):Nat:=if x<n then bU n E v x else 0
theorem Ld{n:Nat}{E:aj}{v k:Nat}(hv:v<n)(h:aV (bN n E v k) n=0)(x:Nat):aZ n E v k x=eD n E v x:=by
 rw[uG]at h;unfold aZ eD;split
 ·rename_i hx;cases k with
  |zero=>
   have h0:∀y,y<n→bV n E v 0 y=0:=fun y hy=>by
    show(if _ then _ else _)=_;rw[if_neg (by rw[show E y v=false from h y hy];decide)]
   have:=zH (n:=n) (E:=E) (v:=v) (k:=0) (fun a b ha hb e=>by rw[h0 b hb]at e;omega) hx;rw[h0 x hx]at this;exact this
  |succ k=>
   refine zH (fun a b ha hb e=> ?_) hx;have h1:=h a ha;have h1:((List.range n).any fun y=>E a y&&decide (bV n E v k y=k+1))=false:=h1;rw[List.any_eq_false]at h1;have h2:=h1 b (List.mem_range.2 hb);rw[decide_eq_true e,Bool.and_true]at h2;simpa using h2
 ·rfl
theorem Le{n:Nat}{E:aj}{v k:Nat}(h:aV (bN n E v k) n≠0):k≤n:=by
 cases k with
 |zero=>omega
 |succ k=>
  rcases Classical.em (∃z,z<n∧bN n E v (k+1) z=true)with⟨z,_,hz⟩|hno
  ·have hz:((List.range n).any fun y=>E z y&&decide (bV n E v k y=k+1))=true:=hz;rw[List.any_eq_true]at hz;obtain⟨y,hy,h2⟩:=hz;rw[Bool.and_eq_true]at h2;have h3:=of_decide_eq_true h2.2;have:=lU (n:=n) (E:=E) (v:=v) (k:=k) (List.mem_range.1 hy);omega
  ·exact absurd (uG.2 fun x hx=>by
    cases hc:bN n E v (k+1) x with
    |false=>rfl
    |true=>exact absurd ⟨x,hx,hc⟩ hno) h
end Go.Inq
namespace Go.Proofs.YtfhnamomiaekdaaGreatDoor
open Go.RowKit Go.Inq
set_option maxHeartbeats 8000000
attribute [local go_sem↓] Go.wp_at_zero Go.wp_at_succ
theorem wG:(Tryz.prog.info? 209).map (·.size)=some 64:=by kernel_rfl
theorem CY:#[Value.int .i64 0,.int .i64 0,.int .i64 0,.int .i64 0,.int .i64 0,.int .i64 0,.int .i64 0,.int .i64 0,.int .i64 0,.int .i64 0,.int .i64 0,.int .i64 0,.int .i64 0,.int .i64 0,.int .i64 0,.int .i64 0,.int .i64 0,.int .i64 0,.int .i64 0,.int .i64 0,.int .i64 0,.int .i64 0,.int .i64 0,.int .i64 0,.int .i64 0,.int .i64 0,.int .i64 0,.int .i64 0,.int .i64 0,.int .i64 0,.int .i64 0,.int .i64 0,.int .i64 0,.int .i64 0,.int .i64 0,.int .i64 0,.int .i64 0,.int .i64 0,.int .i64 0,.int .i64 0,.int .i64 0,.int .i64 0,.int .i64 0,.int .i64 0,.int .i64 0,.int .i64 0,.int .i64 0,.int .i64 0,.int .i64 0,.int .i64 0,.int .i64 0,.int .i64 0,.int .i64 0,.int .i64 0,.int .i64 0,.int .i64 0,.int .i64 0,.int .i64 0,.int .i64 0,.int .i64 0,.int .i64 0,.int .i64 0,.int .i64 0,.int .i64 0]=iD (fun _=>0):=by kernel_rfl
set_option maxRecDepth 100000 in
theorem IW(n:Nat)(A:Option Addr)(c:Nat)(E:aj)(v:Nat)(w:World)(h:GrS w (Old w) n A c (eT E))(hv:v<n)(hTB:iE w):
 Calls Tryz.prog 130 #[.agg #[.int .i64 n,.slice A n c],.int .i64 (v:Int)] w fun e w'=>e= .returned (.agg (iD (eD n E v)))∧Below w.heap.size w w':=by
 have dG:=h.n64;have hv0:(0:Int)≤(v:Int):=Int.natCast_nonneg _;have hv1:(v:Int)<(n:Int):=(by omega);obtain⟨W0,hW0⟩:∃W0,(w.alloc (.cells #[.int .i64 n,.slice A n c] 77)).alloc (.cells (iD (fun _=>0)) 209)=W0:=⟨_,rfl⟩;have hB:=aG hW0;have k0:=Blk.fC hW0;have k1:=Blk.dQ hW0;have hs0:=size_two hW0;rw[←CY]at hW0;have SC:Hid (∀z,bN n E v 0 z=E z v):=hide (fun z=>rfl);have Rp:Hid (iD (fun _=>0)=iD (aZ n E v 0)):=hide (l7 fun x=>by unfold aZ;split<;>rfl);rw[Rp.out]at k1;have hend:=hide (fun k=>Ld (n:=n) (E:=E) (k:=k) hv);have hfl:=hide (fun k=>Le (n:=n) (E:=E) (v:=v) (k:=k));have hfn:=hide (fun k z=>uV (n:=n) (E:=E) (v:=v) (k:=k) (z:=z));have hda:=hide (fun k x=>Gz (n:=n) (E:=E) (v:=v) (k:=k) (x:=x));have hh:Hid (∀W,Below w.heap.size w W→GrS W (Old W) n A c (eT E)):=hide (fun W hb=>h.below hb);have hTb:Hid (∀W,Below w.heap.size w W→iE W):=hide (fun W hb=>hTB.below hb);obtain⟨bb,ob,rfl,-,x0⟩:=(hh.out W0 hB).at_ hv;have c1:=Blk.n1 k0;have ht0:Hid (aV (eT E v) n=aV (bN n E v 0) n):=hide (dN fun i _=>rfl);rw[ht0.out]at x0;replace hs0:=hide hs0;clear h hTB;go_enter Tryz.func130,Tryz.ntmps130;go_upto_region 1 with fail;clear hW0;go_wp2_with fail;clear x0 c1;go_loopw [5,6] (fun s5 s6 wr=>∃k:Nat,s6= .int .i64 ((k:Int)+1)∧s5= .int .u64 (aV (bN n E v k) n:Nat)∧k≤n+1∧Blk wr w.heap.size 77 #[.int .i64 n,.slice (some ⟨bb,ob,none⟩) n c]∧Blk wr (w.heap.size+1) 209 (iD (aZ n E v k))∧Below w.heap.size w wr) (fun _ s6 _=>n+3-(intOf s6).toNat);case atStart=>exact⟨0,by go_num,rfl,by omega,k0,k1,hB⟩
 case round=>
  clear k0 k1 hB;obtain⟨Wo,rfl⟩:∃Wo,Wo=wr:=⟨_,rfl⟩;obtain⟨k,rfl,rfl,hk,k0,k1,hb⟩:=hrel;have hk1:(0:Int)≤(k:Int):=Int.natCast_nonneg _;have h64:=hide (fA (p:=bN n E v k) dG);by_cases hz:aV (bN n E v k) n=0
  ·have hzb:(aV (bN n E v k) n !=0)=false:=(by simp[hz]);have hea:=hide (l7 (hend.out k hz));rw[hea.out]at k1;have hsz:=hide (l6 (eD n E v));have h1:=hide (CW (eD n E v));obtain⟨arr,harr⟩:∃arr,iD (eD n E v)=arr:=⟨_,rfl⟩;rw[harr]at k1 hsz h1;replace harr:=hide harr;generalize aV (bN n E v k) n=s at*;clear hea;go_upto_region 14 with fail;refine wp_region_lit ?_;refine xV rfl rfl rfl k1 Tryz.underlying209 (by rw[hsz.out];exact wG) ?_;refine vQ rfl rfl rfl rfl k1 (by rw[hsz.out];exact wG) rfl h1.out ?_;rw[CX k1];go_wp2;refine bodyPost_ret (v:= .agg arr) (yX Tryz.results130 rfl k1 Tryz.underlying209 (by rw[hsz.out];exact wG)) rfl ⟨by rw[harr.out],hb⟩
  ·have hzb:(aV (bN n E v k) n !=0)=true:=(by simp[hz]);have hkn:=hide (hfl.out k hz);replace hz:=hide hz;have hli:Hid (au (iP (aV (bN n E v k) n))=au ((List.range n).filter (bN n E v k))):=hide (by rw[mI dG]);have SE:=hide (hfn.out k);have SF:=hide (hda.out k);have hnd:Hid (((List.range n).filter (bN n E v k)).Nodup):=hide (List.Pairwise.filter _ List.nodup_range);have hlt:Hid (∀x∈(List.range n).filter (bN n E v k),x<n):=hide (fun x hx=>List.mem_range.1 (List.mem_filter.1 hx).1);have hLl:((List.range n).filter (bN n E v k)).length≤64:=Nat.le_trans (List.length_filter_le _ _) (by simp;exact dG);have hbl:=hide (mJ (aV (bN n E v k) n) h64.out Wo (hTb.out Wo hb));rw[hli.out]at hbl;generalize hLq:(List.range n).filter (bN n E v k)=L at*;replace hLq:=hide hLq;have hln:=hide (aN L);generalize aV (bN n E v k) n=s at*;go_wp2_with fail;refine hbl.out.mono ?_;rintro e w5 ⟨vl,rfl,hO,hb5⟩;obtain⟨Al,cl,rfl⟩:=aS.form hO;have hb6:=hb.trans (hb5.mono hb.size);have hg1:w.heap.size+1<Wo.heap.size:=k1.lt;have hIs:=hide (aS.sl (K:=fun b=>Wo.heap.size≤b∧b<w5.heap.size) hO (fun g h1 h2=>⟨h1,h2⟩));replace k0:=k0.below hb5 k0.lt;replace k1:=k1.below hb5 k1.lt;have hs5:=hb5.size;rw[hln.out]at hIs⊢;have hd0:Hid (iD (aZ n E v k)=iD (dIn (aZ n E v k) k [])):=hide (l7 fun x=>(M5 _ _ x).symm);rw[hd0.out]at k1;have hp0:Hid ((0:Nat)=aV (pIn E (aZ n E v k) []) n):=hide (uG.2 fun x _=>rfl).symm;clear hbl hO hb hb5;go_wp2_with fail;go_loopw [7,22] (fun s7 s22 wq=>∃i:Nat,i≤L.length∧s22= .int .i64 i∧s7= .int .u64 (aV (pIn E (aZ n E v k) (L.take i)) n:Nat)∧Blk wq w.heap.size 77 #[.int .i64 n,.slice (some ⟨bb,ob,none⟩) n c]∧Blk wq (w.heap.size+1) 209 (iD (dIn (aZ n E v k) k (L.take i)))∧Below w.heap.size w wq∧Agree (fun b=>b<w5.heap.size∧b≠w.heap.size+1) w5 wq∧w5.heap.size≤wq.heap.size) (fun _ s22 _=>L.length-(intOf s22).toNat);case atStart=>exact⟨0,Nat.zero_le _,by go_num,by rw[List.take_zero,←hp0.out];rfl,k0,by rw[List.take_zero];exact k1,hb6,Agree.refl _ _,Nat.le_refl _⟩
   case round=>
    clear k0 k1 hb6;obtain⟨Wp,rfl⟩:∃Wp,Wp=wr:=⟨_,rfl⟩;obtain⟨i,hi,rfl,rfl,k0,k1,hb,hag,hsz⟩:=hrel;have hi1:(0:Int)≤(i:Int):=Int.natCast_nonneg _;by_cases hil:i<L.length
    ·have hi2:(i:Int)<(L.length:Int):=(by omega);have hIp:=hIs.out.keep (K':=fun _=>True) (hag.mono fun b hb=>⟨hb.2,by have h1:Wo.heap.size≤b:=hb.1;omega⟩) (fun _ _=>trivial);obtain⟨bl,ol,rfl,-,x0⟩:=hIp.at_ (i:=i) (by rw[hln.out];exact hil);have hxL:(au L)[i]'(by rw[hln.out];exact hil)=(L[i]:Int):=(by simp[au]);rw[hxL]at x0;have hxn:L[i]<n:=hlt.out _ (List.getElem_mem hil);obtain⟨hd1,hd2,hd3⟩:=Lb (D:=aZ n E v k) (k:=k) hnd.out hil;have hps:=hide (fun z=>Lc (E:=E) (D:=aZ n E v k) hil z);obtain⟨x,hx⟩:∃x,L[i]=x:=⟨_,rfl⟩;rw[hx]at x0 hxn hd1 hd2 hd3 hps;clear hxL hx;have hx0:(0:Int)≤(x:Int):=Int.natCast_nonneg _;have hx1:(x:Int)<(n:Int):=(by omega);have SG:(x:Int)<64:=(by omega);have NY:x<64:=(by omega);have e1:=k1.cell x;rw[Bp NY,hd1]at e1;have f1:=k1.frozen x;have c1:=Blk.n1 k0;have r0:=((hh.out Wp hb).cells hxn).2;have M6:=hide hil;clear hIp;by_cases hD:aZ n E v k x=0
     ·have hDb:((aZ n E v k x:Int)==0)=true:=(by simp[hD]);have Rq:(aZ n E v k x==0)=true:=(by simp[hD]);have hset:=hide ((K9 (D:=dIn (aZ n E v k) k (L.take i)) (k:=k) NY).trans (l7 (hd2 hD)));have hjn:Hid (joinL [aV (pIn E (aZ n E v k) (L.take i)) n,aV (eT E x) n]=aV (pIn E (aZ n E v k) (L.take (i+1))) n):=hide (by
       rw[uh,AV];refine dN fun z _=> ?_;rw[hps.out,decide_eq_true hD,Bool.true_and];rfl)
      have Rt:=hide (fA (p:=pIn E (aZ n E v k) (L.take i)) dG);have Qf:=hide (fA (p:=eT E x) dG);have k1':=k1.aD x (.int .i64 ((k:Int)+1));rw[hset.out]at k1';have k0':=k0.far (p:=⟨w.heap.size+1,x,none⟩) (show w.heap.size≠w.heap.size+1 by omega) (.int .i64 ((k:Int)+1));have hb':=hb.setCell (p:=⟨w.heap.size+1,x,none⟩) (Nat.le_succ _) (.int .i64 ((k:Int)+1));have hag':=hag.trans (Agree.setCell ⟨w.heap.size+1,x,none⟩ (fun h=>h.2 rfl) (.int .i64 ((k:Int)+1)) (w:=Wp) (K:=fun b=>b<w5.heap.size∧b≠w.heap.size+1));have hsz':Hid (w5.heap.size≤(Wp.setCell ⟨w.heap.size+1,x,none⟩ (.int .i64 ((k:Int)+1))).heap.size):=hide (by simpa using hsz);have hbz:=hide hb';generalize aV (pIn E (aZ n E v k) (L.take i)) n=s1 at*;obtain⟨s2,hs2⟩:∃s2,aV (eT E x) n=s2:=⟨_,rfl⟩;rw[hs2]at hjn Qf r0;have Ru:=hide hs2;clear hs2;clear hps hd1 hd2 hd3 hset hD;replace hag':=hide hag';go_upto_region 11 with fail;obtain⟨Wq,hWq⟩:∃Wq,Wp.setCell ⟨w.heap.size+1,x,none⟩ (.int .i64 ((k:Int)+1))=Wq:=⟨_,rfl⟩;rw[hWq]at hb' k0' k1' hag' hsz';rw[hWq];have OB:=hb'.size;have hsq:=hsz'.out;have c1':=Blk.n1 k0';have r0':=((hh.out _ hb').cells hxn).2;have he2:Hid (aV (eT E x) n=s2):=Ru;rw[he2.out]at r0';obtain⟨Wz,hWz⟩:∃Wz,Wq.alloc (.cells #[.int .u64 s1,.int .u64 s2] 172)=Wz:=⟨_,rfl⟩;have kN:=hide (iZ.bB (l:=[s1,s2]) (K:=fun _=>True) (Blk.newEq hWz) trivial);have kz0:=k0'.ay hWz;have kz1:=k1'.ay hWz;have Rv:=ah hb' hWz OB;have Rw:=hide (hag'.out.trans (Agree.ay hWz (fun b hb=>by have h1:b<w5.heap.size:=hb.1;omega)));have hszz:w5.heap.size≤Wz.heap.size:=(by have:=aH hWz;omega);have hxy:Hid (∀y∈[s1,s2],y<18446744073709551616):=hide (by intro y hy;simp at hy;rcases hy with rfl|rfl;exact Rt.out;exact Qf.out);have Rx:Hid (Wq.heap.size=Wq.heap.size):=hide rfl;clear hWq k0 k1 hb hag hsz e1 f1 c1 r0 x0 hb' k0' k1' hag' hsz' hbz;go_wp2_with fail;refine(fV (some ⟨Wq.heap.size,0,none⟩) 2 2 [s1,s2] (fun _=>True) _ rfl kN.out hxy.out (by omega)).mono ?_;rintro e w7 ⟨rfl,rfl⟩;rw[hjn.out];clear hWz kN;go_wp2;go_roundw;case rel=>exact⟨i+1,M6.out,by go_num,rfl,kz0,kz1,Rv,Rw.out,hszz⟩
      case measure=>have:=M6.out;simp[intOf];omega
     ·have hDb:((aZ n E v k x:Int)==0)=false:=(by rw[beq_eq_false_iff_ne];omega);have Rq:(aZ n E v k x==0)=false:=(by simp[hD]);have hset:=hide (l7 (hd3 hD));have hpn:Hid (aV (pIn E (aZ n E v k) (L.take i)) n=aV (pIn E (aZ n E v k) (L.take (i+1))) n):=hide (dN fun z _=>by rw[hps.out,decide_eq_false hD];simp);rw[hset.out]at k1;rw[hpn.out];clear hps hd1 hd2 hd3 hset hD;replace hag:=hide hag;go_wp2;go_roundw;case rel=>exact⟨i+1,M6.out,by go_num,rfl,k0,k1,hb,hag.out,hsz⟩
      case measure=>have:=M6.out;simp[intOf];omega
    ·obtain rfl:i=L.length:=(by omega);have hen:Hid (aV (pIn E (aZ n E v k) (L.take L.length)) n=aV (bN n E v (k+1)) n):=hide (dN fun z _=>by rw[List.take_length,←hLq.out,uV];rfl);have hea:Hid (iD (dIn (aZ n E v k) k (L.take L.length))=iD (aZ n E v (k+1))):=hide (l7 fun x=>by rw[List.take_length,←hLq.out];exact Gz);rw[hen.out];rw[hea.out]at k1;have hkn2:=hkn.out;clear hen hea hag hIs;go_wp2;go_roundw;case rel=>exact⟨k+1,by go_num,rfl,by omega,k0,k1,hb⟩
     case measure=>simp[intOf];omega
end Go.Proofs.YtfhnamomiaekdaaGreatDoor
