/-
  Walks: the library's slices.Values, AppendSeq, Collect, Sorted, at rows of numbers.
-/
import Derived.Test.YtfhnamomiaekdaaGreatDoorV09
import Derived.Test.YtfhnamomiaekdaaGreatDoorV17
import Derived.Test.YtfhnamomiaekdaaGreatDoorV29
import Derived.Test.YtfhnamomiaekdaaGreatDoorV07
import Derived.Test.YtfhnamomiaekdaaGreatDoorV30
set_option linter.unusedVariables false
set_option linter.unusedSimpArgs false
namespace Go.Proofs.YtfhnamomiaekdaaGreatDoor
open Go.RowKit Go.Inq Go.Shelf
set_option maxHeartbeats 4000000
attribute [local go_sem] Oper.semAt_some
attribute [local go_sem↓] Go.wp_at_zero Go.wp_at_succ
theorem xD(A:Option Addr)(n c:Nat)(w:World):Calls Tryz.prog 90 #[.slice A n c] w fun e w'=>e= .returned (.func (.func 160) #[] #[.pointer (some ⟨w.heap.size,0,none⟩)])∧w'=w.alloc (.cells #[.slice A n c] 33):=by
 go_enter Tryz.func90,Tryz.ntmps90;go_wp2;go_ret;exact⟨rfl,rfl⟩
set_option maxRecDepth 100000 in
theorem IZ (n:Nat) (hn:1≤n) (l Bh n₀ c:Nat) (A:Option Addr) (L:List Int) (hlen:L.length≤1000000) (J Jx:List Int→World→Prop) (W:World)
 (hY:∀pre x W,J pre W→pre.length<L.length→YieldAt Fence.wide (n-1) Tryz.prog l #[.int .i64 x] W fun e W'=>
  (e= .returned (.bool true)∧J (pre++[x]) W'∧Below n₀ W W')∨(e= .returned (.bool false)∧Jx (pre++[x]) W'))
 (hBh:W.cell? ⟨Bh,0,none⟩=some (.slice A L.length c)) (hT:aP W (fun b=>b<n₀) (.slice A L.length c) L) (h0:J [] W):
 CallsIn Fence.wide n Tryz.prog 160 #[.func (.yield l) #[] #[],.pointer (some ⟨Bh,0,none⟩)] W fun e W'=>(∃v,e= .returned v)∧
  ((∃ys,ys=L∧J ys W')∨(∃pre,pre<+:L∧Jx pre W')):=by
 have hro:Fence.wide.round=none:=rfl;refine callsIn_of_wp Tryz.func160 rfl trivial ?_ hro;simp only[Tryz.ntmps160,List.size_toArray,List.length_cons,List.length_nil,Nat.reduceAdd,Nat.reduceSub,Array.replicate_succ,Array.replicate_zero,List.push_toArray,List.append_toArray,List.nil_append,List.cons_append]
 gi_wp2
 gi_loopw [7] (fun s7 wr=>∃k:Nat,k≤L.length∧s7= .int .i64 k∧J (L.take k) wr∧Below n₀ W wr) (fun s7 _=>L.length-(intOf s7).toNat)
 case atStart=>exact⟨0,Nat.zero_le _,by go_num,by simpa using h0,Below.refl _ _⟩
 case round=>
  obtain⟨k,hk,rfl,hJs,hb⟩:=hrel;have hk1:(0:Int)≤(k:Int):=Int.natCast_nonneg _;by_cases hlt:k<L.length
  ·have hi2:(k:Int)<(L.length:Int):=(by omega);obtain⟨b,off,rfl,hbK,d0'⟩:=hT.at_ hlt;have d0:=(hb.cell (p:=⟨b,off+k,none⟩) hbK).trans d0';clear d0';obtain⟨fn,tmps,assign,body,hy,hR⟩:=hY _ L[k] wr hJs (by rw[List.length_take];omega);have hst:=hide (take_snoc' hlt);have hpre:=hide (List.take_prefix (k+1) L);generalize L[k]=x at*
   gi_wp2
   refine hR.mono ?_;clear hR hy fn tmps assign body;rintro e W4 (⟨rfl,hJ5,hk5⟩|⟨rfl,lY⟩)
   ·have hb5:=hb.trans hk5
    gi_wp2
    go_roundw;case rel=>exact⟨k+1,by omega,by go_num,by rw[hst.out];exact hJ5,hb5⟩
    case measure=>simp[intOf];omega
   ·gi_wp2
    refine bodyPost_ret (results_none rfl _ _ _) rfl ?_;exact⟨⟨_,rfl⟩,.inr ⟨_,by rw[←hst.out];exact hpre.out,lY⟩⟩
  ·obtain rfl:k=L.length:=(by omega);rw[List.take_length]at hJs
   gi_wp2
   go_end0
   exact⟨⟨_,rfl⟩,.inl ⟨_,rfl,hJs⟩⟩
theorem Bc(Bh n₀ c:Nat)(A:Option Addr)(L:List Int)(hlen:L.length≤1000000)(w:World)(hBn:Bh<w.heap.size)(hnW:n₀≤w.heap.size)(hc:w.cell? ⟨Bh,0,none⟩=some (.slice A L.length c))(hT:aP w (fun b=>b<n₀) (.slice A L.length c) L):
 SeqStopsK Fence.wide (3-1) Tryz.prog 160 #[.pointer (some ⟨Bh,0,none⟩)] (fun x:Int=>#[.int .i64 x]) (fun W W'=>Below n₀ W W') (fun ys=>ys=L) (fun pre=>pre<+:L) L.length w:=fun l J Jx W hW hJ _ hY h0=>
 IZ (3-1) (by omega) l Bh n₀ c A L hlen J Jx W hY ((hW.cell (p:=⟨Bh,0,none⟩) hBn).trans hc) (aP.keep hT (Agree.below hW fun b h=>Nat.lt_of_lt_of_le h hnW) (fun b h=>h)) h0
set_option maxRecDepth 100000 in
theorem zT(A:Option Addr)(Bv c:Nat)(L:List Int)(hlen:L.length≤1000000)(w:World)(hv:w.cell? ⟨Bv,0,none⟩=some (.slice A L.length c))(h:aP w (Old w) (.slice A L.length c) L):
 Calls Tryz.prog 215 #[.slice none 0 0,.func (.func 160) #[] #[.pointer (some ⟨Bv,0,none⟩)]] w (xM w L):=by
 refine(callsIn_wide (n:=3)).1 ?_;have hro:Fence.wide.round=none:=rfl;refine callsIn_of_wp_marks Tryz.func215 rfl trivial ?_ hro;simp only[Tryz.ntmps215,List.size_toArray,List.length_cons,List.length_nil,Nat.reduceAdd,Nat.reduceSub,Array.replicate_succ,Array.replicate_zero,List.push_toArray,List.append_toArray,List.nil_append,List.cons_append];have hBl:Bv<w.heap.size:=block_lt_of_cell hv;obtain⟨ii,hii,hi1,hi2,hi3⟩:=info_parts gL;obtain⟨W0,hW0⟩:∃W0,w.alloc (.cells #[.slice none 0 0] 33)=W0:=⟨_,rfl⟩;have hs0:=aA hW0;have hBW:=ah (Below.refl w.heap.size w) hW0 (Nat.le_refl _);have k3:=Blk.newEq hW0;have c4:=(hBW.cell (p:=⟨Bv,0,none⟩) hBl).trans hv;have h2:aP W0 (fun b=>b<w.heap.size) (.slice A L.length c) L:=aP.keep h (Agree.below hBW fun b h=>h) (fun b h=>h)
 gi_wp2
 clear hW0;refine wpIn_rangeFunc_ownH hro (by omega) (gf:=160) (lb:=#[.pointer (some ⟨Bv,0,none⟩)]) rfl trivial (enters_of Tryz.func160 (by kernel_rfl) rfl)
  (Bc Bv w.heap.size c A L hlen W0 (by omega) (by omega) c4 h2) (fun h k=>h.trans k) (zu (by omega)) (Below.refl _ _) (fun _=>rfl)
  (fun(pre:List Int) W=>((∃v,Boxed W w.heap.size 33 v∧W.ownsRow (w.heap.size+1) 3 1 v pre.length (pre.map Go.Inq.encI).flatten∧True)∧(w.heap.size+1≤W.heap.size))∧Below w.heap.size w W)
  (fun cc pre W=>False)
  (OwnFrom.and (OwnFrom.and (Own.from (holdsRow_own (w.heap.size+1) w.heap.size 33 3 1 (fun(pre:List Int)=>pre.length) (fun(pre:List Int)=>(pre.map Go.Inq.encI).flatten) (fun _ _=>True)) _) (Own.from (fun s A B row hs hg hr=>Nat.le_trans hs hg.size) _)) (ownFrom_below (Nat.le_refl _) (by omega)))
  (fun cc s A B row hs hg hr=>hs)
  ⟨⟨⟨.slice none 0 0,k3,World.ownsRow_nil _ _ _ _,trivial⟩,by omega⟩,hBW⟩
  (fun x a' W=>a'={tmps:=#[.slice none 0 0,.func (.func 160) #[] #[.pointer (some ⟨Bv,0,none⟩)],.pointer (some ⟨w.heap.size,0,none⟩),undef,.slice none 0 0,.int .i64 x,.func (.func 160) #[] #[.pointer (some ⟨Bv,0,none⟩)],.int .i64 x,undef,undef,undef,undef,undef],defers:=[]})
  (fun x a'=>Own.from (fun s A B row hs hg hr=>hs) _) ?assign ?body ?done ?stop
 case assign=>
  rintro l pre x W K ⟨⟨⟨v,hv,hr,_⟩,hW5⟩,hB⟩ hK
  gi_wp2
  refine hK _ _ (KeepsOthers.refl _|>.from _) (Below.refl _ _) ⟨⟨⟨v,hv,hr,trivial⟩,hW5⟩,hB⟩ rfl
 case body=>
  rintro l pre x a' W hl ⟨rl,hrl⟩ ⟨⟨⟨v,hv,hr,_⟩,hW5⟩,hB⟩ rfl Np;have hl63:pre.length+1≤maxLen:=(by simp[maxLen];omega);have RB:(pre.length+1)*8≤140737488355328:=(by omega);have g3:=hv.cell;have f3:=hv.frozen;obtain⟨Av,cv,rfl⟩:=aU hr;have hlo:=hide (fun b hb=>(hr.lt b hb).1);replace hr:=hide hr;obtain⟨pq,hpq⟩:∃pq,pre++[x]=pq:=⟨_,rfl⟩;have TW:pq.length=pre.length+1:=(by rw[←hpq];simp);rw[hpq];replace hpq:=hide hpq;replace TW:=hide TW
  gi_wp2_with (gi_at_builtin;refine rC rfl (.tmp 8) (.tmp 10) 33 rfl (w.heap.size+1) 3 ii _ 8 Tryz.underlying33 hii hi1 hi2 hi3 rfl (.slice Av pre.length cv) pre rfl hr.out x rfl hl63 RB hW5 ?_;rw[hpq.out];intro v1 w6 hown1 hg1 nI;obtain⟨A1,c1,rfl⟩:=aU hown1;have hv1:=(hv.alloc (.cells #[.int .i64 x] 3)).kept hg1 (fun e=>by have:=hlo.out _ e.symm;omega);have g6:=hv1.cell;have f6:=hv1.frozen)
  have hz6:=hg1.size;simp only[World.size_alloc]at hz6;refine⟨(((KeepsOthers.alloc W _).trans (KeepsOthers.of_grownBy hg1 fun j o ej hj=> ?_)).trans (KeepsOthers.setCell _ _ _)).from _,?_,⟨⟨_,hv1.set _,hown1.kept (grownBy_setCell' w6 _ _) (.inr fun e=>by have:=(hown1.lt _ e).1;omega),trivial⟩,by simp;omega⟩,?_⟩
  ·rcases(hr.out.alloc (.cells #[.int .i64 x] 3)).2 with⟨h1,_⟩|⟨g,cap,cur,h1,_,hgb,_⟩
   ·rw[h1]at ej;simp[Value.ownBlock]at ej
   ·rw[h1]at ej;obtain rfl:g=j:=(by simpa[Value.ownBlock]using ej);rw[hgb]at hj;cases hj;rfl
  ·exact(((Below.refl w.heap.size W).alloc (by omega) _).grown hg1 (by simp;omega) (fun j ej=>by have:=hlo.out j ej;omega)).setCell (p:=⟨w.heap.size,0,none⟩) (by simp) _
  ·exact((hB.alloc (by omega) _).grown hg1 (by simp;omega) (fun j ej=>by have:=hlo.out j ej;omega)).setCell (p:=⟨w.heap.size,0,none⟩) (by simp) _
 case done=>
  rintro D xs W hD rfl ⟨⟨⟨v,hv,hr,_⟩,hW5⟩,hB⟩ hK;have g1:=hv.cell;obtain⟨Av,cv,rfl⟩:=aU hr
  gi_wp2
  refine⟨by simp,.inl ⟨_,_,rfl,run_takeDeferred hK,?_⟩⟩;refine⟨.slice Av xs.length cv,?_,_,rfl,?_,hB.trans (belowK_b (w:=w) (Nat.le_refl _) W D _ _ (by omega) hK rfl rfl)⟩
  ·simp[results,Tryz.results215,go_sem]
  ·unfold aY;exact EU (ownsRow_putObj hr _ hK rfl) (by omega)
 case stop=>
  rintro D cc pre W hD hpre hF hK;exact hF.elim
theorem DJ(A:Option Addr)(Bv c:Nat)(L:List Int)(hlen:L.length≤1000000)(w:World)(hv:w.cell? ⟨Bv,0,none⟩=some (.slice A L.length c))(h:aP w (Old w) (.slice A L.length c) L):
 Calls Tryz.prog 158 #[.func (.func 160) #[] #[.pointer (some ⟨Bv,0,none⟩)]] w (xM w L):=by
 go_enter Tryz.func158,Tryz.ntmps158;go_wp2_with fail;refine(zT A Bv c L hlen w hv h).mono ?_;rintro e w1 ⟨v,rfl,ho,hb⟩;go_wp2;go_ret;exact⟨v,rfl,ho,hb⟩
theorem xE(A:Option Addr)(Bv c:Nat)(L:List Int)(hlen:L.length≤1000000)(w:World)(hv:w.cell? ⟨Bv,0,none⟩=some (.slice A L.length c))(h:aP w (Old w) (.slice A L.length c) L):
 Calls Tryz.prog 89 #[.func (.func 160) #[] #[.pointer (some ⟨Bv,0,none⟩)]] w (xM w (L.mergeSort fun x y=>decide (x≤y))):=by
 go_enter Tryz.func89,Tryz.ntmps89;go_wp2_with fail;refine(DJ A Bv c L hlen w hv h).mono ?_;rintro e w1 ⟨v,rfl,ho,hb⟩;obtain⟨A1,c1,rfl⟩:=ho.form;dsimp only;go_wp2_with fail;refine(BN w.heap.size A1 c1 L w1 ho (by omega)).mono ?_;rintro e w2 ⟨rfl,ho2,hb2⟩;go_wp2;go_ret;have:=ho2;exact⟨_,rfl,ho2,hb.trans hb2⟩
end Go.Proofs.YtfhnamomiaekdaaGreatDoor
namespace Go.Proofs.YtfhnamomiaekdaaGreatDoor
open Go.RowKit Go.Inq
set_option maxHeartbeats 4000000
attribute [local go_sem↓] Go.wp_at_zero Go.wp_at_succ
set_option maxRecDepth 100000 in
theorem uT(A:Option Addr)(c:Nat)(H:List Txn)(key:Int)(w:World)(h:aD w (Old w) (.slice A H.length c) H)(hn:aH H):
 Calls Tryz.prog 92 #[.agg #[.slice A H.length c],.int .i64 key] w (xM w (aC (bG H key))):=by
 obtain⟨ii,hii,hi1,hi2,hi3⟩:=info_parts gL;obtain⟨W0,hW0⟩:∃W0,w.alloc (.cells #[.slice A H.length c] 24)=W0:=⟨_,rfl⟩;have hB:=ah (Below.refl w.heap.size w) hW0 (Nat.le_refl _);have k0:=Blk.newEq hW0;have h0:=hide (h.below hB);have hlen:=hn.1;have hwl:=hide (fun i (hi:i<H.length)=>(hn.2 _ (List.getElem_mem hi)).1);replace hn:=hide hn;replace h:=hide h;have c0:=Blk.n0 k0;go_enter Tryz.func92,Tryz.ntmps92;go_wp2_with fail;clear hW0 c0 k0 h0;have hb:=hB;clear hB;go_loopw [5,11] (fun s5 s11 wr=>∃k:Nat,k≤H.length∧s11= .int .i64 k∧aY wr w.heap.size s5 (aC (eX H key k))∧Below w.heap.size w wr) (fun _ s11 _=>H.length-(intOf s11).toNat);case atStart=>exact⟨0,Nat.zero_le _,by go_num,aY.nil _ _,hb⟩
 case round=>
  clear hb;obtain⟨k,hk,rfl,hown,hb⟩:=hrel;have GL:(0:Int)≤(k:Int):=Int.natCast_nonneg _;by_cases hlt:k<H.length
  ·have GN:(k:Int)<(H.length:Int):=(by omega);obtain⟨b,off,Aw,cw,Ar,cr,rfl,_,d0,d1,d2,hws,_⟩:=aD.at_ (h.out.below hb) hlt;have hwk:=hwl.out k hlt;have hst:=hide (yB H key k);rw[aJ hlt]at hst;have hcnt:(eX H key k).length≤k:=Nat.le_trans (List.length_filter_le _ _) (by simp);have qM:=hb.size;obtain⟨Av,cv,rfl⟩:=hown.form;generalize H[k]=t at*;obtain⟨ts,ws,rs⟩:=t;dsimp only at*;have Nn:=hide (hws.keep (w':=wr.alloc (.cells #[.int .i64 ts,.slice Aw ws.length cw,.slice Ar rs.length cr] 109)) (Agree.alloc (fun b hb=>hb) _) (fun b h=>h));have hb2:=hb.alloc qM (.cells #[.int .i64 ts,.slice Aw ws.length cw,.slice Ar rs.length cr] 109);have hown2:=hown.alloc (.cells #[.int .i64 ts,.slice Aw ws.length cw,.slice Ar rs.length cr] 109);clear hws;replace hown2:=hide hown2;have hlq:=hide (aK (eX H key k));have hsn:=hide (fK (eX H key k) k);go_wp2_with fail;clear d0 d1 d2;refine(dR Aw cw ws key _ _ Nn.out (by unfold maxLen;omega)).mono ?_;rintro e w3 ⟨rfl,rfl⟩;have hsz2:=hb2.size;cases hc:ws.contains key with
   |true=>
    have y5:Hid (eX H key (k+1)=eX H key k++[k]):=hide (by rw[hst.out,hc];rfl);clear hc hst;generalize wr.alloc (.cells #[.int .i64 ts,.slice Aw ws.length cw,.slice Ar rs.length cr] 109)=Wx at*;go_wp2_with (at_builtin;refine bF (enc:=Go.Inq.encI) rfl (.tmp 20) (.tmp 22) 33 rfl w.heap.size 3 ii _ 1 8 Tryz.underlying33 hii hi1 hi2 hi3 rfl (by decide) (.slice Av (aC (eX H key k)).length cv) (aC (eX H key k)) rfl hown2.out (fun _=>rfl) (k:Int) _ rfl rfl Go.Inq.gH (by rw[hlq.out];simp[maxLen];omega) (by rw[hlq.out];omega) hsz2 w w.heap.size (Nat.le_refl _) hb2 ?_;intro v1 w6 hown1 hg1 hb1 nI);go_roundw;case rel=>exact⟨k+1,by omega,by go_num,by unfold aY;rw[y5.out,hsn.out];exact hown1,hb1⟩
    case measure=>simp[intOf];omega
   |false=>
    have y5:Hid (eX H key (k+1)=eX H key k):=hide (by rw[hst.out,hc];simp);clear hc hst;go_wp2;go_roundw;case rel=>exact⟨k+1,by omega,by go_num,by unfold aY;rw[y5.out];exact hown2.out,hb2⟩
    case measure=>simp[intOf];omega
  ·obtain rfl:k=H.length:=(by omega);go_wp2;go_ret;exact⟨_,rfl,hown,hb⟩
def jK(w:World)(K:Nat→Prop)(cs:List Value)(r:aT):Prop:=∃A c,cs=[.int .i64 r.key,.slice A r.l.length c]∧aP w K (.slice A r.l.length c) r.l
theorem jK.aO:lU jK:=fun _ _ _ _ _ _ h ha hk=>by
 obtain⟨A,c,h1,h2⟩:=h;exact⟨A,c,h1,aP.keep h2 ha hk⟩
def l7(w:World)(K:Nat→Prop)(v:Value)(l:List aT):Prop:=SlR 2 jK w K v l
section
variable{w w':World}{K K':Nat→Prop}{v:Value}{l:List aT}
theorem l7.keep(h:l7 w K v l)(ha:Agree K w w')(hk:∀b,K b→K' b):l7 w' K' v l:=SlR.keep jK.aO h ha hk
theorem l7.below(h:l7 w (Old w) v l)(hb:Below w.heap.size w w'):l7 w' (Old w') v l:=SlR.below jK.aO h hb
theorem l7.fit(h:l7 w K v l)(hk:∀b,K b→K' b):l7 w K' v l:=SlR.fit jK.aO h hk
theorem l7.nil(w:World)(K:Nat→Prop)(A:Option Addr)(c:Nat):l7 w K (.slice A 0 c) []:=SlR.nil _ _ _ _ _ _
theorem l7.cap{A:Option Addr}{n c:Nat}(h:l7 w K (.slice A n c) l):l.length≤c:=by
 obtain⟨_,_,e,h1⟩:=SlR.len h;simp only[Value.slice.injEq]at e;omega
theorem l7.at_{A:Option Addr}{n c:Nat}(h:l7 w K (.slice A n c) l){i:Nat}(hi:i<l.length):∃b off Ay cy,A=some ⟨b,off,none⟩∧K b∧w.cell? ⟨b,off+i*2,none⟩=some (.int .i64 l[i].key)∧w.cell? ⟨b,off+i*2+1,none⟩=some (.slice Ay l[i].l.length cy)∧aP w K (.slice Ay l[i].l.length cy) l[i].l:=by
 obtain⟨b,off,cs,hA,hK,-,⟨Ay,cy,rfl,hy⟩,hc⟩:=SlR.at_ h hi;exact⟨b,off,Ay,cy,hA,hK,hc 0 _ rfl,hc 1 _ rfl,hy⟩
end
def Po(R:List aT):Prop:=R.length≤1000000∧∀r∈R,r.l.length≤1000000
set_option maxHeartbeats 2000000
theorem JL{α:Type}{l m:List α}{k:Nat}(h1:k<l.length)(h2:k<m.length)(ht:l.take k=m.take k)(he:l[k]=m[k]):l.take (k+1)=m.take (k+1):=by
 rw[List.take_succ_eq_append_getElem h1,List.take_succ_eq_append_getElem h2,ht,he]
theorem JM{α:Type}{l m:List α}{k:Nat}(h1:k<l.length)(h2:k<m.length)(he:l[k]≠m[k]):l≠m:=by
 rintro rfl;exact he rfl
theorem aV{b c:Bool}(h:b=c):Ending.returned (.bool b)= .returned (.bool c):=by rw[h]
theorem Me(A1 A2:Option Addr)(c1 c2:Nat)(l m:List Int)(K1 K2:Nat→Prop)(w:World)(h1:aP w K1 (.slice A1 l.length c1) l)(h2:aP w K2 (.slice A2 m.length c2) m)(hl:l.length≤1000000000)(hm:m.length≤1000000000):
 Calls Tryz.prog 93 #[.slice A1 l.length c1,.slice A2 m.length c2] w fun e w'=>e= .returned (.bool (decide (l=m)))∧Below w.heap.size w w':=by
 by_cases hlen:l.length=m.length
 ·have hne:=hide (fun k (g1:k<l.length) (g2:k<m.length)=>JM g1 g2);have hst:=hide (fun k (g1:k<l.length) (g2:k<m.length)=>JL g1 g2);have hend:=hide (fun(e:l.take l.length=m.take l.length)=>(by rw[List.take_length,hlen,List.take_length]at e;exact e:l=m));have hn1:((l.length:Int) !=(m.length:Int))=false:=(by rw[hlen];exact bne_self_eq_false _);have hle:=hide hlen;clear hlen;replace h1:=hide h1;replace h2:=hide h2;go_enter Tryz.func93,Tryz.ntmps93;go_wp2;go_loopw [13] (fun s13 wr=>∃k:Nat,k≤l.length∧s13= .int .i64 k∧Hid (l.take k=m.take k)∧Below w.heap.size w wr) (fun s13 _=>l.length-(intOf s13).toNat);case atStart=>exact⟨0,Nat.zero_le _,by go_num,hide (by simp),Below.refl _ _⟩
  case round=>
   obtain⟨k,hk,rfl,htk,hb⟩:=hrel;have hk1:(0:Int)≤(k:Int):=Int.natCast_nonneg _;by_cases hlt:k<l.length
   ·have hi2:(k:Int)<(l.length:Int):=(by omega);have g1:k<m.length:=(by rw[←hle.out];exact hlt);have hi3:(k:Int)<(m.length:Int):=(by omega);obtain⟨b1,o1,rfl,x0,x1⟩:=h1.out.at_ hlt;obtain⟨b2,o2,rfl,y0,y1⟩:=h2.out.at_ g1;replace x1:=(hb.cell (p:=⟨b1,o1+k,none⟩) (block_lt_of_cell x1)).trans x1;replace y1:=(hb.cell (p:=⟨b2,o2+k,none⟩) (block_lt_of_cell y1)).trans y1;have hn:=hide (hne.out k hlt g1);have hs:=hide (hst.out k hlt g1 htk.out);generalize l[k]=x at*;generalize m[k]=y at*;cases hxy:(x !=y)with
    |true=>
     have hr:=hide (hn.out (by simpa using hxy));have hr2:Hid (decide (l=m)=false):=hide (decide_eq_false hr.out);clear hn hs hr x0 y0;go_wp2;go_quiet (fail);go_wp2;go_ret;exact⟨aV hr2.out.symm,hb.trans ⟨rfl,rfl,rfl,Nat.le_refl _,fun _ _=>rfl⟩⟩
    |false=>
     have hr:=hide (hs.out (by simpa using hxy));clear hn hs x0 y0;go_wp2;go_quiet (fail);go_wp2;go_roundw;case rel=>exact⟨k+1,by omega,by go_num,hr,hb.trans ⟨rfl,rfl,rfl,Nat.le_refl _,fun _ _=>rfl⟩⟩
     case measure=>simp[intOf];omega
   ·obtain rfl:k=l.length:=(by omega);have hr2:Hid (decide (l=m)=true):=hide (decide_eq_true (hend.out htk.out));go_wp2;go_ret;exact⟨aV hr2.out.symm,hb⟩
 ·have hn1:((l.length:Int) !=(m.length:Int))=true:=bne_iff_ne.2 (by omega);have hr2:Hid (decide (l=m)=false):=hide (decide_eq_false fun e=>hlen (by rw[e]));clear hlen;go_enter Tryz.func93,Tryz.ntmps93;go_wp2;go_ret;exact⟨aV hr2.out.symm,Below.refl _ _⟩
set_option maxHeartbeats 4000000
set_option maxRecDepth 100000 in
theorem I4(A:Option Addr)(c:Nat)(H:List Txn)(Ar:Option Addr)(cr:Nat)(R:List aT)(w:World)(h:aD w (Old w) (.slice A H.length c) H)(hn:aH H)(hR:l7 w (Old w) (.slice Ar R.length cr) R)(hf:Po R):
 Calls Tryz.prog 35 #[.agg #[.slice A H.length c],.slice Ar R.length cr] w fun e w'=>e= .returned (.bool (fO H R))∧Below w.heap.size w w':=by
 obtain⟨W0,hW0⟩:∃W0,w.alloc (.cells #[.slice A H.length c] 24)=W0:=⟨_,rfl⟩;have hB:=ah (Below.refl w.heap.size w) hW0 (Nat.le_refl _);have k0:=Blk.newEq hW0;have h0:=hide (h.below hB);have hno:=hide (Ma (H:=H) (R:=R));have hdone:=hide (fun n (g:RtI H R 16 n) hr=>g.done hr);have hRl:=hf.1;have hfl:=hide (fun i (hi:i<R.length)=>hf.2 _ (List.getElem_mem hi));replace hf:=hide hf;replace hn:=hide hn;replace h:=hide h;replace hR:=hide hR;have c0:=Blk.n0 k0;go_enter Tryz.func35,Tryz.ntmps35;go_wp2_with fail;clear hW0 c0;refine(dL A c H _ h0.out hn.out).mono ?_;rintro e w1 ⟨rfl,hb1⟩;replace k0:=k0.below hb1 k0.lt;have hb:=hB.trans (hb1.mono hB.size);clear hb1 hB h0;cases hr:ay H with
 |false=>
  have hx:=hide (hno.out hr);clear hr hno hdone;go_wp2;go_ret;exact⟨aV hx.out.symm,hb⟩
 |true=>
  replace hdone:=hide (fun n g=>hdone.out n g hr);replace hr:=hide hr;clear hno;go_wp2_with fail;go_loopw [5,11] (fun s5 s11 wr=>∃n k:Nat,k≤16∧s5= .int .i64 n∧s11= .int .i64 k∧Hid (RtI H R k n)∧n≤16∧Below w.heap.size w wr∧Blk wr w.heap.size 24 #[.slice A H.length c]) (fun _ s11 _=>16-(intOf s11).toNat);case atStart=>exact⟨0,0,Nat.zero_le _,by go_num,by go_num,hide (RtI.start _ _),Nat.zero_le _,hb,k0⟩
  case round=>
   clear hb k0;obtain⟨n,k,hk,rfl,rfl,hrt,hn16,hb,k0⟩:=hrel;have hi1:(0:Int)≤(k:Int):=Int.natCast_nonneg _;have hi3:(0:Int)≤(n:Int):=Int.natCast_nonneg _;have c0:=Blk.n0 k0;by_cases hlt:k<16
   ·have hi2:(k:Int)<16:=(by omega);go_wp2_with fail;clear c0;refine(uT A c H k _ (h.out.below hb) hn.out).mono ?_;rintro e wl ⟨vl,rfl,hLO,hbl⟩;have zU:=hide (fun e=>hrt.out.skip (k:=k) e);have hnext:=hide (fun e=>hrt.out.next (k:=k) e);have Mf:=hide (fun e=>hrt.out.few (k:=k) hlt e);have hkey:=hide (fun e=>hrt.out.key (k:=k) hlt e);have hrow:=hide (fun e=>hrt.out.row (k:=k) hlt e);have hLn:=oI H k;have h32:H.length≤1000000:=hn.out.1;have hz0:=hide (aK (bG H (k:Int)));have hWe:=hide (fun(e:(aC (bG H (k:Int))).length=0)=>(by rw[aK]at e;exact List.eq_nil_of_length_eq_zero e:bG H (k:Int)=[]));have hWn:=hide (fun(e:(aC (bG H (k:Int))).length≠0)=>(by rintro e';rw[aK,e']at e;exact e rfl:bG H (k:Int)≠[]));have hLl:(aC (bG H (k:Int))).length≤1000000:=(by rw[aK];omega);clear hLn;replace h32:=hide h32;generalize aC (bG H (k:Int))=L at*;obtain⟨Al,cl,rfl⟩:=hLO.form;have hb2:=hb.trans (hbl.mono hb.size);replace k0:=k0.below hbl k0.lt;have hLS:=hLO.sl (K:=Old wl) (fun g h1 h2=>h2);clear hLO hbl hb;have c0:=Blk.n0 k0;by_cases hL0:L.length=0
    ·have hz1:((L.length:Int)==0)=true:=(by rw[hL0];rfl);have hsk:=hide (zU.out (hWe.out hL0));clear hL0 zU hnext Mf hkey hrow hz0 hWe hWn;go_wp2;go_roundw;case rel=>exact⟨n,k+1,by omega,by go_num,by go_num,hsk,hn16,hb2,k0⟩
     case measure=>simp[intOf];omega
    ·have hz1:((L.length:Int)==0)=false:=by
      rw[beq_eq_false_iff_ne];omega
     have hwn:=hWn.out hL0;replace hnext:=hide (hnext.out hwn);replace Mf:=hide (Mf.out hwn);replace hkey:=hide (hkey.out hwn);replace hrow:=hide (hrow.out hwn);have hle:=hrt.out.le;clear hL0 hwn zU hz0 hWe hWn;by_cases hnl:n=R.length
     ·have hx:=hide (Mf.out hnl);have hz2:((n:Int)==(R.length:Int))=true:=(by rw[hnl];exact beq_self_eq_true _);clear hnl hle Mf hkey hrow hnext hrt;go_wp2;go_ret;exact⟨aV hx.out.symm,hb2⟩
     ·have hz2:((n:Int)==(R.length:Int))=false:=(by rw[beq_eq_false_iff_ne];omega);have hlt2:n<R.length:=(by omega);have hi4:(n:Int)<(R.length:Int):=(by omega);obtain⟨br,or_,Ay,cy,rfl,_,d0,d1,hy⟩:=(hR.out.below hb2).at_ hlt2;replace hnext:=hide (hnext.out hlt2);replace hkey:=hide (hkey.out hlt2);replace hrow:=hide (hrow.out hlt2);have hyl:=hfl.out n hlt2;clear hnl hle Mf hrt;generalize R[n]=row at*;obtain⟨rk,rl⟩:=row;dsimp only at*;by_cases hke:rk=(k:Int)
      ·have hz3:(rk !=(k:Int))=false:=(by rw[hke];exact bne_self_eq_false _);replace hnext:=hide (hnext.out hke);clear hke hkey;replace hy:=hide hy;go_wp2_with fail;refine(xD Ay rl.length cy _).mono ?_;rintro e w3 ⟨rfl,rfl⟩;have hb3:=hb2.alloc hb2.size (.cells #[.slice Ay rl.length cy] 33);have k3:=k0.alloc (.cells #[.slice Ay rl.length cy] 33);have kv:Blk (wl.alloc (.cells #[.slice Ay rl.length cy] 33)) wl.heap.size 33 #[.slice Ay rl.length cy]:=Blk.new _ _ _;have hy3:=hide (hy.out.below ((Below.refl wl.heap.size wl).alloc (Nat.le_refl _) (.cells #[.slice Ay rl.length cy] 33)));have hL3:=hide (hLS.below ((Below.refl wl.heap.size wl).alloc (Nat.le_refl _) (.cells #[.slice Ay rl.length cy] 33)));generalize wl.alloc (.cells #[.slice Ay rl.length cy] 33)=w3 at*;clear d0 d1 c0 hy hb2 k0 hLS;have cv:=Blk.n0 kv;go_wp2_with fail;refine(xE Ay wl.heap.size cy rl hyl w3 cv hy3.out).mono ?_;rintro e w4 ⟨v4,rfl,ho4,hb4⟩;have hsl:(rl.mergeSort fun x y=>decide (x≤y)).length=rl.length:=List.length_mergeSort rl;have hrw:=hide (show qd rl=(rl.mergeSort fun x y=>decide (x≤y)) from rfl);rw[hrw.out]at hnext hrow;generalize(rl.mergeSort fun x y=>decide (x≤y))=Q at*;obtain⟨A4,c4,rfl⟩:=ho4.form;have hS4:=ho4.sl (K:=Old w4) (fun g h1 h2=>h2);have hL4:=hL3.out.below hb4;have hQl:Q.length≤1000000000:=(by omega);have hb5:=hb3.trans (hb4.mono hb3.size);have k5:=k3.below hb4 k3.lt;clear cv kv k3 hb3 hb4 ho4 hL3 hy3 hrw;replace hsl:=hide hsl;go_wp2_with fail;refine(Me Al A4 cl c4 L Q _ _ w4 hL4 hS4 (by omega) hQl).mono ?_;rintro e w6 ⟨rfl,hb6⟩;have hb7:=hb5.trans (hb6.mono hb5.size);have k7:=k5.below hb6 k5.lt;by_cases hE:L=Q
       ·have hz5:decide (L=Q)=true:=decide_eq_true hE;rw[hz5];have TY:=hide (hnext.out hE.symm);clear hz5 hE hnext hrow hL4 hS4 hb5 hb6 k5;go_wp2;go_roundw;case rel=>exact⟨n+1,k+1,by omega,by go_num,by go_num,TY,by have:=TY.out.n16;omega,hb7,k7⟩
        case measure=>simp[intOf];omega
       ·have hz5:decide (L=Q)=false:=decide_eq_false hE;rw[hz5];have hx:=hide (hrow.out fun e=>hE e.symm);clear hz5 hE hnext hrow hL4 hS4 hb5 hb6 k5;go_wp2;go_ret;exact⟨aV hx.out.symm,hb7⟩
      ·have hz3:(rk !=(k:Int))=true:=bne_iff_ne.2 hke;have hx:=hide (hkey.out hke);clear hke hkey hnext hrow;go_wp2;go_ret;exact⟨aV hx.out.symm,hb2⟩
   ·obtain rfl:k=16:=(by omega);have hx:=hide (hdone.out n hrt.out);have hq:((n:Int)==(R.length:Int))=decide (n=R.length):=by
     by_cases e:n=R.length
     ·rw[e];simp
     ·rw[decide_eq_false e,beq_eq_false_iff_ne];omega
    clear hlt;go_wp2;go_ret;exact⟨aV hx.out.symm,hb⟩
end Go.Proofs.YtfhnamomiaekdaaGreatDoor
